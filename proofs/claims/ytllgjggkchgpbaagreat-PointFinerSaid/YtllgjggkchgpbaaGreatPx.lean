/- V: elem.At of 2 to the power of x, its answer by names. V: elem.At of sine and cosine, its answer by names. V: elem.At of the sine is run: eight cases. V: elem.At of the cosine is run: eight cases. Plain: what is exact (hairlinelaw09.PointExact). -/
import Derived.Test.YtllgjggkchgpbaaGreatAt
import Derived.Test.YtllgjggkchgpbaaGreatVg
set_option linter.unusedVariables false
set_option linter.unusedSimpArgs false
namespace Go.Proofs.YtllgjggkchgpbaaGreat
section
section
open Go.RowKit Go.Shelf
namespace V
section
variable (h:Nat→List Int→Int)
def nT:T:=ap3 59 aM aE (.n 0)
def tnM:T:=ap2 56 nT (.n 0)
def tnE:T:=ap2 57 nT (.n 0)
def trM:T:=ap4 61 aM aE tnM tnE
def trE:T:=ap4 62 aM aE tnM tnE
def flo:T:=ap3 59 trM trE aW
def fhi:T:=ap3 60 trM trE aW
def mlT:T:=ap5 74 flo fhi lL lH aW
def mhT:T:=ap5 75 flo fhi lL lH aW
def bigC:Int:=2^5000
def fTh:List T:=[rightL (eLoT mlT) (eHiT mhT),.le (.n (-1024)) nT,.le nT (.n 1024),.le (.n (-100000)) tnE,.le tnE (.n 100000),.le (.n 0) trM,.le trM (.n bigC),.le (.n (-100000)) trE,.le trE (.n 100000),.le (.n (-2000)) tnM,.le tnM (.n 2000),rightL flo fhi,rightL mlT mhT]
def fT:List T:=fTh ++ (mE mlT ++ (mE mhT ++ (lnFs ++ ([may9] ++ aF))))
theorem xT:in12 (inlX (el4A h) 29 fT [] [i64 (.n 1),d0,i64 (.v 2)])=some ([],atRes 40 140 (eLoT mlT) (eHiT mhT) nT):=by kernel_rfl
end
end V
namespace An
theorem j4k {a b c:Rat} (h:a<b) (k:b≤c):a<c:=by grind
theorem j2z {a b c:Rat} (h:a≤b) (k:b<c):a<c:=by grind
theorem j20 {v:Int} {n:Nat} (h:0≤v) (k:v<2^n):v.natAbs<2^n:=by
  have:((v.natAbs:Nat):Int)<((2^n:Nat):Int):=by
    rw [Int.natAbs_of_nonneg h,Int.natCast_pow];exact k
  exact Int.ofNat_lt.1 this
theorem jz3 {v:Int} {n:Nat} (h:0≤v) (k:v<2^n):tz v.natAbs≤n:=jvb _ _ (j20 h k)
theorem pM_le (v:Int):(pM v).natAbs≤v.natAbs:=by
  rw [jkp];exact Nat.div_le_self _ _
theorem pM_nn {v:Int} (h:0≤v):0≤pM v:=by
  have e:=jez v
  by_cases c:0≤pM v
  · exact c
  · have:=Int.mul_neg_of_neg_of_pos (show pM v<0 by omega) (show (0:Int)<2^tz v.natAbs from Int.pow_pos (by omega))
    omega
theorem jz4 {v:Int} {k:Int} (hk:0≤k+4000) (h:rv v<two k):v<2^(k+4000).toNat:=by
  have e:=jhg v;have p:=two_pos 4000;have m:=Rat.mul_lt_mul_of_pos_right h p;rw [e,←two_add,two_DD hk] at m;exact Rat.intCast_lt_intCast.1 m
theorem j4l {v:Int} (h:0≤rv v):0≤v:=by
  have e:=jhg v;have p:=two_pos 4000;have m:=Rat.mul_nonneg h (Rat.le_of_lt p);rw [e] at m;exact Rat.intCast_nonneg.1 m
theorem j21 (a b:Int):rv (a - b)=rv a - rv b:=by unfold rv;rw [Rat.intCast_sub];grind
theorem whole_rv {n:Int} (h0 : -2000≤n) (h1:n≤2000):0≤nE n 0∧nE n 0≤11∧-2000≤nM n 0∧nM n 0≤2000∧rv (av 4000 (nM n 0) (nE n 0))=(n:Rat):=by
  have e1:nM n 0=pM n:=by
    unfold nM cM
    split
    · rw [show n=0 by omega]
    · rfl
  have e2:nE n 0=if n=0 then 0 else (tz n.natAbs:Int):=by
    unfold nE pE cM cE
    by_cases c:n=0
    · subst c;rfl
    · have hc:¬((0:Int) < -4000∨4000<(0:Int)∨n=0):=by omega
      simp only [if_neg hc,if_neg c]
      omega
  have t:=jvb n.natAbs 11 (show n.natAbs<2048 by omega);have pl:=pM_le n;have b:0≤nE n 0∧nE n 0≤11:=by rw [e2];split <;> omega
  refine ⟨b.1,b.2,by omega,by omega,?_⟩;rw [jzo (by omega) (by omega),jd5 (by omega) (by omega),jcz]
  grind
section
variable {z x q:Int} (q0:0≤q) (q1:q≤800)
theorem tK_ok (hb:Bd 1024 (xQ z x)) : -1025≤tK z x∧tK z x≤1024∧(tK z x:Rat)≤xQ z x∧xQ z x<(tK z x:Rat)+1:=by
  have f:=jem (V:=xV z x) (w:=0) (by omega) (by omega);have o:DD 0=1:=rfl;rw [o,Rat.mul_one] at f;have e:vFloor 4000 (xV z x) (nearZ 0)=tK z x:=rfl;rw [e] at f;have hx:rv (xV z x)=xQ z x:=rfl;rw [hx] at f
  have s:xQ z x<(tK z x:Rat)+1:=by
    rw [←hx]
    have h2:xV z x<(tK z x+1)*2^4000:=by
      unfold tK vFloor;rw [jkz (by omega) (by omega),if_pos (Int.le_refl 0),show (0:Int).toNat=0 from rfl,Int.pow_zero,Int.mul_one];have hd:(0:Int)<2^4000:=Int.pow_pos (by omega)
      generalize (2:Int)^4000=d at *
      have a1:=Int.emod_add_mul_ediv (xV z x) d;have a3:=Int.emod_lt_of_pos (xV z x) hd;rw [Int.add_mul,Int.mul_comm (_ / d)]
      omega
    have h3:=Rat.intCast_lt_intCast.2 h2;rw [←jhg (xV z x)] at h3;have p:=two_pos 4000;refine Rat.lt_of_mul_lt_mul_right (c:=two 4000) ?_ (Rat.le_of_lt p);refine j4k h3 ?_;have c4:=jgi (z:=tK z x+1) (n:=4000) (by omega);rw [show ((4000:Int)).toNat=4000 from rfl] at c4;rw [c4,c1r];exact Rat.le_refl
  unfold Bd at hb;have r1:(-1025:Rat)≤(tK z x:Rat):=by grind
  have r2:(tK z x:Rat)≤1024:=by grind
  exact ⟨rat_le (a := -1025) r1,rat_le (b:=1024) r2,f.1,s⟩
theorem tD_ok (hb:Bd 1024 (xQ z x)):rv (tD z x)=xQ z x - (tK z x:Rat)∧0≤tD z x∧tD z x<2^4000∧rv (tV z x)=xQ z x - (tK z x:Rat)∧-4000≤pE (tD z x) (-(4000:Nat))∧pE (tD z x) (-(4000:Nat))≤0:=by
  obtain ⟨k0,k1,k2,k3⟩:=tK_ok hb;obtain ⟨-,-,-,-,w⟩:=whole_rv (n:=tK z x) (by omega) (by omega)
  have e:rv (tD z x)=xQ z x - (tK z x:Rat):=by
    unfold tD;rw [j21,w];rfl
  have n0:=j4l (v:=tD z x) (by rw [e];grind);have l:=jz4 (v:=tD z x) (k:=0) (by omega) (by rw [e,jcz];grind);have l4:tD z x<2^4000:=l
  have pb : -4000≤pE (tD z x) (-(4000:Nat))∧pE (tD z x) (-(4000:Nat))≤0:=by
    unfold pE
    split
    · omega
    · have t:=jz3 (v:=tD z x) (n:=4000) n0 l4
      clear l l4
      omega
  refine ⟨e,n0,l4,?_,pb⟩;have m:=moved (V:=tD z x) (p:=0) pb.1 (Int.le_trans pb.2 (by decide));rw [jcz,Rat.mul_one,e] at m;exact m
include q0 q1
theorem t_two (hb:Bd 1024 (xQ z x)):((vFloor 4000 (tV z x) (nearZ (q+40)):Int):Rat)≤(xQ z x - (tK z x:Rat))*DD (q+40)∧(xQ z x - (tK z x:Rat))*DD (q+40)≤((vCeil 4000 (tV z x) (nearZ (q+40)):Int):Rat)∧vFloor 4000 (tV z x) (nearZ (q+40))≤vCeil 4000 (tV z x) (nearZ (q+40))∧TwoOK q (vFloor 4000 (tV z x) (nearZ (q+40))) (vCeil 4000 (tV z x) (nearZ (q+40))):=by
  obtain ⟨k0,k1,k2,k3⟩:=tK_ok hb;obtain ⟨-,-,-,e,-,-⟩:=tD_ok hb;have f:=jem (V:=tV z x) (w:=q+40) (by omega) (by omega);have c:=jjq (V:=tV z x) (w:=q+40) (by omega) (by omega);rw [e] at f c;have d:=DD_pos (q+40)
  have n0:¬ vFloor 4000 (tV z x) (nearZ (q+40))<0:=fun hn=>by
    have:=(jkm (v:=tV z x) (w:=q+40) (by omega) (by omega)).1 hn;have r:=rv_pos (v := -(tV z x)) (by omega);rw [rv_neg,e] at r
    grind
  have lt:vFloor 4000 (tV z x) (nearZ (q+40))<2^(q+40).toNat:=by
    refine Rat.intCast_lt_intCast.1 ?_
    show _<DD (q+40)
    have:=Rat.mul_lt_mul_of_pos_right (show xQ z x - (tK z x:Rat)<1 by grind) d;refine j2z f.1 ?_
    grind
  exact ⟨f.1,c.1,c.2.1,j1m q0 q1 (by omega) c.2.1 c.2.2 (by omega)⟩
theorem t_le (hb:Bd 1024 (xQ z x)):tL z x q≤tH z x q∧tA z x q≤tB z x q:=by
  obtain ⟨h1,h2,h3,R⟩:=t_two q0 q1 hb;have N:=jc1 (q:=q+40) (by omega) (by omega) (m:=((q+40) / 4+10).toNat+((q+40+16) / 3+2).toNat) (by omega);obtain ⟨e1,e2⟩:=jjc (w:=q+40) (by omega) h1 h2 N.1 N.2.1;have t1:=jag R.t1;have tt:=jag R.tt;rw [Rat.intCast_add] at tt;have ce:((10:Int):Rat)=10:=rfl;have E:=jcd (by omega) (by omega) R.t0 t1 e1 e2 (c:=10) (by grind) (m:=((q+40) / 4+10).toNat+((q+40+16) / 3+2).toNat) (by omega);exact ⟨rat_le (Rat.le_trans e1 e2),rat_le (Rat.le_trans E.1 E.2.1)⟩
end
end An
namespace V
section
variable (h:Nat→List Int→Int)
theorem j4m:(2:Int)^4000≤bigC:=An.pow_mono (by omega)
theorem j4n {ρ:Nat→Int} (hf:allT (FA h) ρ ([may9] ++ aF)):allT (FA h) ρ fT:=by
  have hb:=jif h hf;have ha:=jab hf;obtain ⟨-,q0,q1,-,-⟩:=je2 h ha;obtain ⟨k0,k1,k2,k3⟩:=An.tK_ok hb;obtain ⟨w0,w1,w2,w3,-⟩:=An.whole_rv (n:=An.tK (ρ 0) (ρ 1)) (by omega) (by omega);obtain ⟨-,d0,d1,-,d2,d3⟩:=An.tD_ok hb;obtain ⟨-,-,c1,R⟩:=An.t_two q0 q1 hb;obtain ⟨l1,l2⟩:=An.t_le q0 q1 hb;have R0:=R.t0;have R1:=R.t1;have bl:=An.pM_le (An.tD (ρ 0) (ρ 1));have bn:=An.pM_nn d0;have bc:=j4m;have e1:mlT.den (FA h) ρ=An.tL (ρ 0) (ρ 1) (ρ 2):=rfl;have e2:mhT.den (FA h) ρ=An.tH (ρ 0) (ρ 1) (ρ 2):=rfl;have R0':0≤An.tL (ρ 0) (ρ 1) (ρ 2):=R0;have R1':An.tH (ρ 0) (ρ 1) (ρ 2)≤2^(ρ 2+40).toNat:=R1
  have kk : -1024≤An.tK (ρ 0) (ρ 1):=by
    have h2:(-1024:Rat)<(An.tK (ρ 0) (ρ 1):Rat)+1:=by have:=hb.1;grind
    have h3:((-1024:Int):Rat)<((An.tK (ρ 0) (ρ 1)+1:Int):Rat):=by rw [An.c1r];exact h2
    have:=Rat.intCast_lt_intCast.1 h3
    omega
  have A:allT (FA h) ρ fTh→allT (FA h) ρ fT:=fun a=>jac a (jac (jp1 h q1 (by rw [e1];exact R0') (by rw [e1];omega)) (jac (jp1 h q1 (by rw [e2];omega) (by rw [e2];exact R1')) (jac (jy3 h ha) hf)))
  have d1':(An.tD (ρ 0) (ρ 1)).natAbs≤bigC.natAbs:=by
    generalize (2:Int)^4000=c at *
    omega
  refine A ⟨jae ?_,jad kk,jad k1,jad ?_,jad ?_,jad bn,jad ?_,jad ?_,jad ?_,jad w2,jad w3,jae c1,jae l1,trivial⟩
  · rw [eden,eden',e1,e2];exact l2
  · show -100000≤nE (An.tK (ρ 0) (ρ 1)) 0;omega
  · show nE (An.tK (ρ 0) (ρ 1)) 0≤100000;omega
  · show pM (An.tD (ρ 0) (ρ 1))≤bigC
    generalize (2:Int)^4000=c at *
    omega
  · show -100000≤pE (An.tD (ρ 0) (ρ 1)) (-(4000:Nat));omega
  · show pE (An.tD (ρ 0) (ρ 1)) (-(4000:Nat))≤100000;omega
theorem at1:SpecOK Tryz.prog (FA h) (atS 29 1 ([may9] ++ aF)):=by
  intro ρ β w vs ha hb hf;refine atCase h (xT h) (by omega) (by omega) (fun ρ hf=>?_) ha hb (j4n h hf);rw [eden,eden'];exact ⟨rfl,rfl,rfl⟩
end
end V
end
end
section
section
open Go.RowKit Go.Shelf
namespace V
theorem jz5 (n:Nat):n &&& 2=n%4 - n%2:=by
  have h1:(n &&& 2) / 2^1=n / 2^1 &&& 2 / 2^1:=Nat.and_div_two_pow ..;have h2:(n &&& 2)%2^1=n%2^1 &&& 2%2^1:=Nat.and_mod_two_pow ..;rw [show 2^1=2 from rfl] at h1 h2;rw [show 2 / 2=1 from rfl,Nat.and_one_is_mod] at h1;rw [show 2%2=0 from rfl,Nat.and_zero] at h2
  omega
theorem jz6 {P:Program} {w:World} (t:TypeId) (o1 o2:Operand) (x:Int):((do eqGuard .and t o1 o2 (.int .i64 x) (.int .i64 2);binOp .and t (.int .i64 x) (.int .i64 2)):Sem Value).run P w=.ok (.int .i64 (x%4 - x%2)) w:=by
  rw [jpe]
  congr 2
  show IntKind.i64.wrap (((BitVec.ofInt 64 x) &&& (BitVec.ofInt 64 2)).toNat:Int)=_
  have e:(((BitVec.ofInt 64 x) &&& (BitVec.ofInt 64 2)).toNat:Int)=x%4 - x%2:=by
    rw [BitVec.toNat_and,BitVec.toNat_ofInt,show (BitVec.ofInt 64 2).toNat=2 from rfl,jz5];have h64:((2^64:Nat):Int)=18446744073709551616:=rfl;rw [h64]
    omega
  rw [e];exact jc4 _ (by show -9223372036854775808≤x%4 - x%2∧x%4 - x%2≤9223372036854775807;omega)
def and2I (fs:List T) (op:BinOp) (k:IntKind) (a b:T):Option (List T×X×List T):=match op,k,b with
  | .and,.i64,.n 2=>some ([],.i .i64 (.sub (ap2 2 a (.n 4)) (ap2 2 a (.n 2))),[])
  | _,_,_=>none
section
variable (h:Nat→List Int→Int)
noncomputable def andC:Ctr Tryz.prog (FA h):={ lemS (An.hA h) (by kernel_rfl) (smallOK (An.hA h)) with
  opI:=and2I
  opOk:=fun {ρ β w op k fs a b pre x post} hf hi hp=>by
    unfold and2I at hi
    split at hi
    · cases hi
      exact ⟨trivial,fun t o1 o2=>⟨_,jz6 t o1 o2 _,rfl⟩⟩
    · cases hi }
noncomputable def el4W:List (Ctr Tryz.prog (FA h)):=el4 (An.hA h) (andC h::dy1 (An.hA h))
def wvpL:T:=ap1 50 aW
def wvpH:T:=ap1 51 aW
def wvqL:T:=ap2 1 wvpL (ap1 0 (.n 1))
def wvqH:T:=.sub (.n 0) (ap2 1 (.sub (.n 0) wvpH) (ap1 0 (.n 1)))
def wvM (ng:Bool):T:=if ng then ap2 65 aM aE else aM
def wvE (ng:Bool):T:=if ng then ap2 66 aM aE else aE
def wvlo (ng:Bool):T:=ap3 59 (wvM ng) (wvE ng) aW
def wvhi (ng:Bool):T:=ap3 60 (wvM ng) (wvE ng) aW
def wvk (ng:Bool):T:=ap2 1 (wvlo ng) wvqH
def wvt (ng:Bool):T:=.add (wvlo ng) (.sub (.n 0) (.mul wvqH (wvk ng)))
def wvu (ng:Bool):T:=.add (wvhi ng) (.sub (.n 0) (.mul wvqL (wvk ng)))
def wvm (t:T):List T:=[.le (.n 0) t,.le t (.n cap),.le (.n 0) (ap1 4 t),.le (ap2 5 (.mul t (ap1 0 (.n 1))) (.mul (.n 4) (p2 aW))) (.n 0)]
def wvj (ng:Bool) (c:Int):T:=.add (wvk ng) (.n c)
def sgF (ng:Bool):T:=if ng then .lt (ap2 67 aM aE) (.n 0) else .le (.n 0) (ap2 67 aM aE)
def odF (ng od:Bool) (c:Int):T:=.eq (ap2 2 (wvj ng c) (.n 2)) (.n (if od then 1 else 0))
def n8T:T:=.add (ap2 1 aW (.n 8)) (.n 6)
def wvloT (ng od:Bool):T:=if od then ap3 32 aW (wvt ng) (.mul (.n 2) n8T) else ap3 28 aW (wvt ng) (.mul (.n 2) n8T)
def wvF0 (ng:Bool):List T:=[.lt (.n 0) wvpL,.lt (.n 0) wvpH,rightL wvpL wvpH,rightL wvqL wvqH,.lt (.n 0) wvqH,.lt (.n 0) wvqL,.le (.n 0) (wvk ng),.le (wvk ng) (.n 800),.le (.n 0) (ap1 4 (wvk ng)),.le (.n (-100000)) (wvE ng),.le (wvE ng) (.n 100000),rightL (wvlo ng) (wvhi ng),rightL (.mul wvqL (wvk ng)) (.mul wvqH (wvk ng)),rightL (.sub (.n 0) (.mul wvqH (wvk ng))) (.sub (.n 0) (.mul wvqL (wvk ng))),.lt (.n 0) lL,rightL lL lH]
def wvF (ng od:Bool) (c:Int):List T:=[sgF ng,odF ng od c] ++ (wvF0 ng ++ (wvm (wvt ng) ++ ([may9] ++ aF)))
def wvhiT (ng od:Bool):T:=if od then .add (ap3 33 aW (wvt ng) (.mul (.n 2) n8T)) (ap3 31 aW (wvt ng) (.mul (.n 2) n8T)) else .add (ap3 29 aW (wvt ng) (.mul (.n 2) n8T)) (ap3 27 aW (wvt ng) (.mul (.n 2) n8T))
def wvg (ng:Bool):T:=.sub (wvu ng) (wvt ng)
def wvLo (ng od:Bool):T:=.sub (wvloT ng od) (wvg ng)
def wvHi (ng od:Bool):T:=.add (wvhiT ng od) (wvg ng)
def bit2 (ng:Bool) (c:Int):T:=.sub (ap2 2 (wvj ng c) (.n 4)) (ap2 2 (wvj ng c) (.n 2))
def flF (ng fl:Bool) (c:Int):T:=if fl then .not (.eq (bit2 ng c) (.n 0)) else .eq (bit2 ng c) (.n 0)
def wvS (ng fl:Bool) (c:Int):Bool:=fl != (ng && decide (c=0))
def wvkk (ng fl:Bool) (c:Int):Nat:=if wvS ng fl c then 329 else 328
def wvRl (ng od fl:Bool) (c:Int):T:=if wvS ng fl c then .mul (wvHi ng od) (.n (-1)) else wvLo ng od
def wvRh (ng od fl:Bool) (c:Int):T:=if wvS ng fl c then .mul (wvLo ng od) (.n (-1)) else wvHi ng od
def wvX (ng od fl:Bool) (c:Int):List T:=[flF ng fl c,rightL (wvLo ng od) (wvHi ng od),rightL (wvRl ng od fl c) (wvRh ng od fl c),.lt (ap1 4 (.n (-1))) (.n 0)] ++ wvF ng od c
end
end V
end
end
section
section
open Go.RowKit Go.Shelf
namespace V
section
variable (h:Nat→List Int→Int)
theorem xw0fff:in12 (inlX (el4W h) 29 (wvX false false false 0) [] [i64 (.n 4),d0,i64 (.v 2)])=some ([],atRes 328 328 (wvRl false false false 0) (wvRh false false false 0) (.n 0)):=by kernel_rfl
theorem xw0fft:in12 (inlX (el4W h) 29 (wvX false false true 0) [] [i64 (.n 4),d0,i64 (.v 2)])=some ([],atRes 329 329 (wvRl false false true 0) (wvRh false false true 0) (.n 0)):=by kernel_rfl
theorem xw0ftf:in12 (inlX (el4W h) 29 (wvX false true false 0) [] [i64 (.n 4),d0,i64 (.v 2)])=some ([],atRes 328 328 (wvRl false true false 0) (wvRh false true false 0) (.n 0)):=by kernel_rfl
theorem xw0ftt:in12 (inlX (el4W h) 29 (wvX false true true 0) [] [i64 (.n 4),d0,i64 (.v 2)])=some ([],atRes 329 329 (wvRl false true true 0) (wvRh false true true 0) (.n 0)):=by kernel_rfl
theorem xw0tff:in12 (inlX (el4W h) 29 (wvX true false false 0) [] [i64 (.n 4),d0,i64 (.v 2)])=some ([],atRes 329 329 (wvRl true false false 0) (wvRh true false false 0) (.n 0)):=by kernel_rfl
theorem xw0tft:in12 (inlX (el4W h) 29 (wvX true false true 0) [] [i64 (.n 4),d0,i64 (.v 2)])=some ([],atRes 328 328 (wvRl true false true 0) (wvRh true false true 0) (.n 0)):=by kernel_rfl
theorem xw0ttf:in12 (inlX (el4W h) 29 (wvX true true false 0) [] [i64 (.n 4),d0,i64 (.v 2)])=some ([],atRes 329 329 (wvRl true true false 0) (wvRh true true false 0) (.n 0)):=by kernel_rfl
theorem xw0ttt:in12 (inlX (el4W h) 29 (wvX true true true 0) [] [i64 (.n 4),d0,i64 (.v 2)])=some ([],atRes 328 328 (wvRl true true true 0) (wvRh true true true 0) (.n 0)):=by kernel_rfl
theorem xw0:∀ng od fl:Bool,in12 (inlX (el4W h) 29 (wvX ng od fl 0) [] [i64 (.n 4),d0,i64 (.v 2)])=some ([],atRes (wvkk ng fl 0) (wvkk ng fl 0) (wvRl ng od fl 0) (wvRh ng od fl 0) (.n 0))
  | false,false,false=>xw0fff h
  | false,false,true=>xw0fft h
  | false,true,false=>xw0ftf h
  | false,true,true=>xw0ftt h
  | true,false,false=>xw0tff h
  | true,false,true=>xw0tft h
  | true,true,false=>xw0ttf h
  | true,true,true=>xw0ttt h
end
end V
end
end
section
section
open Go.RowKit Go.Shelf
namespace V
section
variable (h:Nat→List Int→Int)
theorem xw1fff:in12 (inlX (el4W h) 29 (wvX false false false 1) [] [i64 (.n 5),d0,i64 (.v 2)])=some ([],atRes 328 328 (wvRl false false false 1) (wvRh false false false 1) (.n 0)):=by kernel_rfl
theorem xw1fft:in12 (inlX (el4W h) 29 (wvX false false true 1) [] [i64 (.n 5),d0,i64 (.v 2)])=some ([],atRes 329 329 (wvRl false false true 1) (wvRh false false true 1) (.n 0)):=by kernel_rfl
theorem xw1ftf:in12 (inlX (el4W h) 29 (wvX false true false 1) [] [i64 (.n 5),d0,i64 (.v 2)])=some ([],atRes 328 328 (wvRl false true false 1) (wvRh false true false 1) (.n 0)):=by kernel_rfl
theorem xw1ftt:in12 (inlX (el4W h) 29 (wvX false true true 1) [] [i64 (.n 5),d0,i64 (.v 2)])=some ([],atRes 329 329 (wvRl false true true 1) (wvRh false true true 1) (.n 0)):=by kernel_rfl
theorem xw1tff:in12 (inlX (el4W h) 29 (wvX true false false 1) [] [i64 (.n 5),d0,i64 (.v 2)])=some ([],atRes 328 328 (wvRl true false false 1) (wvRh true false false 1) (.n 0)):=by kernel_rfl
theorem xw1tft:in12 (inlX (el4W h) 29 (wvX true false true 1) [] [i64 (.n 5),d0,i64 (.v 2)])=some ([],atRes 329 329 (wvRl true false true 1) (wvRh true false true 1) (.n 0)):=by kernel_rfl
theorem xw1ttf:in12 (inlX (el4W h) 29 (wvX true true false 1) [] [i64 (.n 5),d0,i64 (.v 2)])=some ([],atRes 328 328 (wvRl true true false 1) (wvRh true true false 1) (.n 0)):=by kernel_rfl
theorem xw1ttt:in12 (inlX (el4W h) 29 (wvX true true true 1) [] [i64 (.n 5),d0,i64 (.v 2)])=some ([],atRes 329 329 (wvRl true true true 1) (wvRh true true true 1) (.n 0)):=by kernel_rfl
theorem xw1:∀ng od fl:Bool,in12 (inlX (el4W h) 29 (wvX ng od fl 1) [] [i64 (.n 5),d0,i64 (.v 2)])=some ([],atRes (wvkk ng fl 1) (wvkk ng fl 1) (wvRl ng od fl 1) (wvRh ng od fl 1) (.n 0))
  | false,false,false=>xw1fff h
  | false,false,true=>xw1fft h
  | false,true,false=>xw1ftf h
  | false,true,true=>xw1ftt h
  | true,false,false=>xw1tff h
  | true,false,true=>xw1tft h
  | true,true,false=>xw1ttf h
  | true,true,true=>xw1ttt h
end
end V
end
end
section
section
open L (val dig nth)
namespace Px
theorem j23 {x:Int} (h1 : -4000≤x) (h2:x≤4000):cM 1 x=1:=by unfold cM;rw [if_neg (by omega)]
theorem j24 {x:Int} (h1 : -4000≤x) (h2:x≤4000):cE 1 x=x:=by unfold cE;rw [if_neg (by omega)]
theorem j25 {n:Int} (h1 : -4000≤n) (h2:n≤4000):av 4000 1 n=1*2^(n+(4000:Nat)).toNat:=by
  unfold av sv;rw [j23 h1 h2,j24 h1 h2]
theorem point_one {w:Int} (h1:0≤w) (h2:w≤4000):vFloor 4000 (av 4000 1 0) (nearZ w)=2^w.toNat∧vCeil 4000 (av 4000 1 0) (nearZ w)=2^w.toNat:=by
  have e:nearZ w=w:=by unfold nearZ;omega
  have hp:((2:Int)^4000)≠0:=Int.ne_of_gt (Int.pow_pos (by omega))
  have ea:av 4000 1 0=2^4000:=by
    rw [j25 (by omega) (by omega),Int.one_mul]
    rfl
  refine ⟨?_,?_⟩
  · unfold vFloor
    rw [e,if_pos h1,ea,Int.mul_ediv_cancel_left _ hp]
  · unfold vCeil vFloor
    rw [e,if_pos h1,ea,Int.neg_mul,←Int.mul_neg,Int.mul_ediv_cancel_left _ hp,Int.neg_neg]
end Px
end
end
end Go.Proofs.YtllgjggkchgpbaaGreat