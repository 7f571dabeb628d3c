/- V: balls, and the constants. Plain: the sums of the constants, reckoned with natural numbers. Plain: the constants' sums stand in order, by reckoning. -/
import Derived.Test.YtllgjggkchgpbaaGreatVy
import Derived.Test.YtllgjggkchgpbaaGreatVq
set_option linter.unusedVariables false
set_option linter.unusedSimpArgs false
namespace Go.Proofs.YtllgjggkchgpbaaGreat
section
section
open Go.RowKit Go.Shelf
namespace V
section
variable (h:Nat→List Int→Int)
noncomputable def ball1:List (Ctr Tryz.prog (stdF (gR h))):=
  inl (rows5 h) 158 (by kernel_rfl) :: -- opt
  inl (rows5 h) 159 (by kernel_rfl) :: -- opt
  rows5 h
noncomputable def ball2:List (Ctr Tryz.prog (stdF (gR h))):=
  inl (ball1 h) 110 (by kernel_rfl) :: -- opt
  inl (ball1 h) 160 (by kernel_rfl) :: -- opt
  ball1 h
noncomputable def ball3:List (Ctr Tryz.prog (stdF (gR h))):=
  inl (ball2 h) 268 (by kernel_rfl) :: -- opt
  inl (ball2 h) 95 (by kernel_rfl) :: -- opt
  inl (ball2 h) 139 (by kernel_rfl) :: -- opt
  inl (ball2 h) 140 (by kernel_rfl) :: -- opt
  ball2 h
noncomputable def ball4:List (Ctr Tryz.prog (stdF (gR h))):=
  inl (ball3 h) 266 (by kernel_rfl) :: -- opt
  ball3 h
noncomputable def ball5:List (Ctr Tryz.prog (stdF (gR h))):=
  inl (ball4 h) 260 (by kernel_rfl) :: -- opt
  ball4 h
noncomputable def cons1:List (Ctr Tryz.prog (stdF (gR h))):=
  inl (ball5 h) 156 (by kernel_rfl) :: -- opt
  ball5 h
end
def w16:T:=.add (.v 0) (.n 16)
def dnT (c:Int):T:=ap2 1 (.mul (.n 1) (p2 w16)) (.n c)
def mayL (t:T):List T:=[.le (.n 0) (ap1 4 t),.le (ap2 5 (.mul t (ap1 0 (.n 1))) (.mul (.n 1) (p2 w16))) (.n 0)]
def lnN:T:=.add (ap2 1 w16 (.n 3)) (.n 2)
def lnLoT:T:=ap3 34 w16 (dnT 3) lnN
def lnHiT:T:=ap3 35 w16 (.add (dnT 3) (.n 1)) lnN
def rightL (a b:T):T:=.le (ap2 5 a b) (.n 0)
def lnL:List T:=mayL (dnT 3) ++ mayL (.add (dnT 3) (.n 1)) ++ [rightL lnLoT lnHiT,.le (.n 0) (ap1 4 (.n 2)),rightL (.mul lnLoT (.n 2)) (.mul lnHiT (.n 2))]
def dq:T:=ap1 0 (.sub w16 (.v 0))
def piN:T:=.add (ap2 1 w16 (.n 9)) (.n 2)
def atLo (c:Int):T:=ap3 36 w16 (dnT c) piN
def atHi (c:Int):T:=ap3 37 w16 (.add (dnT c) (.n 1)) piN
def negT (t:T):T:=.sub (.n 0) t
def piA:T:=.add (.mul (atLo 5) (.n 16)) (negT (.mul (atHi 239) (.n 4)))
def piB:T:=.add (.mul (atHi 5) (.n 16)) (negT (.mul (atLo 239) (.n 4)))
def piL:List T:=mayL (dnT 5) ++ mayL (.add (dnT 5) (.n 1)) ++ mayL (dnT 239) ++ mayL (.add (dnT 239) (.n 1)) ++ [rightL (atLo 5) (atHi 5),rightL (atLo 239) (atHi 239),.le (.n 0) (ap1 4 (.n 16)),.le (.n 0) (ap1 4 (.n 4)),rightL (.mul (atLo 5) (.n 16)) (.mul (atHi 5) (.n 16)),rightL (negT (.mul (atHi 239) (.n 4))) (negT (.mul (atLo 239) (.n 4))),rightL piA piB]
end V
end
end
section
section
namespace Co
def up (z y:Nat):Nat:=(z+(y - 1)) / y
def sA (T D x:Nat):Nat→Nat
  | 0=>x
  | k+1=>sA T D x k*T / D
def sB (T D x:Nat):Nat→Nat
  | 0=>x
  | k+1=>up (sB T D x k*T) D
def lpA (T D:Nat):Nat→Nat→Nat→Nat→Nat
  | 0,_,_,s=>s
  | n+1,k,a,s=>lpA T D n (k+1) (a*T / D) (s+a / (2*k+1))
def lpB (T D:Nat):Nat→Nat→Nat→Nat→Nat×Nat
  | 0,_,b,s=>(s,b)
  | n+1,k,b,s=>lpB T D n (k+1) (up (b*T) D) (s+up b (2*k+1))
def twA (T D:Nat):Nat→Nat→Nat→Nat→Nat
  | 0,_,_,s=>s
  | n+1,k,a,s=>twA T D n (k+2) (a*T / D*T / D) (s+a / (2*k+1))
def twB (T D:Nat):Nat→Nat→Nat→Nat→Nat×Nat
  | 0,_,b,s=>(s,b)
  | n+1,k,b,s=>twB T D n (k+2) (up (up (b*T) D*T) D) (s+up b (2*k+1))
def lnLo (w:Nat):Nat:=lpA (2^w / 3*(2^w / 3)) (2^(2*w)) (w / 3+2) 0 (2^w / 3) 0
def lnHi (w:Nat):Nat:=match lpB ((2^w / 3+1)*(2^w / 3+1)) (2^(2*w)) (w / 3+2) 0 (2^w / 3+1) 0 with
  | (s,b)=>s+2*up b (2*(w / 3+2)+1)
def atLoP (t w n:Nat):Nat:=twA (t*t) (2^(2*w)) n 0 t 0
def atLoN (t w n:Nat):Nat:=(twB (t*t) (2^(2*w)) n 1 (up (t*(t*t)) (2^(2*w))) 0).1
def atHiP (t w n:Nat):Nat:=match twB (t*t) (2^(2*w)) n 0 t 0 with
  | (s,b)=>s+up b (4*n+1)
def atHiN (t w n:Nat):Nat:=twA (t*t) (2^(2*w)) n 1 (t*(t*t) / 2^(2*w)) 0
def lnOK (q:Nat):Bool:=Nat.ble (lnLo (q+16)) (lnHi (q+16))
def atOK (c q:Nat):Bool:=match 2^(q+16) / c,(q+16) / 9+2 with
  | d,n=>Nat.ble (atLoP d (q+16) n+atHiN (d+1) (q+16) n) (atHiP (d+1) (q+16) n+atLoN d (q+16) n)
def allB (f:Nat→Bool):Nat→Bool
  | 0=>true
  | n+1=>f n && allB f n
theorem allB_ok {f:Nat→Bool}:∀{n:Nat},allB f n=true→∀i,i<n→f i=true
  | 0,_,i,h=>by omega
  | n+1,h,i,hi=>by
    simp only [allB,Bool.and_eq_true] at h
    by_cases e:i=n
    · rw [e];exact h.1
    · exact allB_ok h.2 i (by omega)
theorem jrm (z y:Nat) (hy:0<y):vUp (z:Int) (y:Int)=((up z y:Nat):Int):=by
  have hy':(0:Int)<y:=by omega
  have h3:=Nat.div_add_mod (z+(y - 1)) y;have h4:=Nat.mod_lt (z+(y - 1)) hy;refine Int.le_antisymm (jua hy' ?_) ?_
  · have h5:z≤up z y*y:=by
      unfold up;rw [Nat.mul_comm]
      omega
    exact_mod_cast h5
  · have h1:=jye (z:=(z:Int)) hy'
    by_cases hv:vUp (z:Int) (y:Int)<((up z y:Nat):Int)
    · exfalso
      have h6:vUp (z:Int) (y:Int)≤((up z y:Nat):Int) - 1:=by omega
      have h7:vUp (z:Int) (y:Int)*y≤(((up z y:Nat):Int) - 1)*y:=Int.mul_le_mul_of_nonneg_right h6 (by omega);have h8:(((up z y:Nat):Int) - 1)*y=((y*up z y:Nat):Int) - y:=by rw [Int.sub_mul,Int.one_mul,Int.mul_comm];push_cast;rfl
      have h9:y*up z y+(z+(y - 1))%y=z+(y - 1):=h3
      generalize y*up z y=m at h8 h9
      omega
    · omega
theorem jwx (T D x:Nat) (d:Nat→Int) (hd:∀y,d y=(D:Int)):∀k,rA d T x k=((sA T D x k:Nat):Int)
  | 0=>rfl
  | k+1=>by
    show rA d T x k*T / d (k+1)=_
    rw [jwx T D x d hd k,hd]
    show _=((sA T D x k*T / D:Nat):Int)
    push_cast
    rfl
theorem jwy (T D x:Nat) (hD:0<D) (d:Nat→Int) (hd:∀y,d y=(D:Int)):∀k,rB d T x k=((sB T D x k:Nat):Int)
  | 0=>rfl
  | k+1=>by
    show vUp (rB d T x k*T) (d (k+1))=_
    rw [jwy T D x hD d hd k,hd,←Int.natCast_mul,jrm _ _ hD]
    rfl
theorem jnw (w:Nat) (y:Nat):dPow (w:Int) y=((2^(2*w):Nat):Int):=by
  unfold dPow;rw [Int.one_mul,show (2*(w:Int)).toNat=2*w by omega]
  push_cast
  rfl
def fA (T D x y:Nat):Nat:=sA T D x y / (2*y+1)
def fB (T D x y:Nat):Nat:=up (sB T D x y) (2*y+1)
theorem j1u {a:Nat→Int} {n y:Nat} (h:a y=(n:Int)):oA a y=((n / (2*y+1):Nat):Int):=by
  unfold oA;rw [h,Int.mul_one,show (2:Int)^(0:Int).toNat=1 from rfl,Int.mul_one]
  push_cast
  rfl
theorem j1v {a:Nat→Int} {n y:Nat} (h:a y=(n:Int)):oB a y=((up n (2*y+1):Nat):Int):=by
  unfold oB;rw [h,Int.mul_one,show (2:Int)^(0:Int).toNat=1 from rfl,Int.mul_one,←jrm _ _ (by omega)]
  push_cast
  rfl
theorem jwz (T D x:Nat):∀n k s,((lpA T D n k (sA T D x k) s:Nat):Int)+su (fun y=>((fA T D x y:Nat):Int)) k=s+su (fun y=>((fA T D x y:Nat):Int)) (k+n)
  | 0,k,s=>rfl
  | n+1,k,s=>by
    have h:=jwz T D x n (k+1) (s+fA T D x k);have e:su (fun y=>((fA T D x y:Nat):Int)) (k+1)=su (fun y=>((fA T D x y:Nat):Int)) k+(fA T D x k:Nat):=rfl;rw [e,show k+1+n=k+(n+1) by omega] at h;have e2:lpA T D (n+1) k (sA T D x k) s=lpA T D n (k+1) (sA T D x (k+1)) (s+fA T D x k):=rfl;rw [e2]
    push_cast at h
    omega
theorem jw0 (T D x:Nat):∀n k s,((lpB T D n k (sB T D x k) s).1:Int)+su (fun y=>((fB T D x y:Nat):Int)) k=s+su (fun y=>((fB T D x y:Nat):Int)) (k+n)∧(lpB T D n k (sB T D x k) s).2=sB T D x (k+n)
  | 0,k,s=>⟨rfl,rfl⟩
  | n+1,k,s=>by
    obtain ⟨h,h2⟩:=jw0 T D x n (k+1) (s+fB T D x k);have e:su (fun y=>((fB T D x y:Nat):Int)) (k+1)=su (fun y=>((fB T D x y:Nat):Int)) k+(fB T D x k:Nat):=rfl;rw [e,show k+1+n=k+(n+1) by omega] at h;rw [show k+1+n=k+(n+1) by omega] at h2;have e2:lpB T D (n+1) k (sB T D x k) s=lpB T D n (k+1) (sB T D x (k+1)) (s+fB T D x k):=rfl;rw [e2]
    push_cast at h
    exact ⟨by omega,h2⟩
def ev (f:Nat→Int) (k:Nat):Nat→Int
  | 0=>0
  | n+1=>ev f k n+f (k+2*n)
theorem jmi (f:Nat→Int) (k:Nat):∀n,ev f k (n+1)=f k+ev f (k+2) n
  | 0=>by show (0:Int)+f (k+2*0)=f k+0;simp
  | n+1=>by
    show ev f k (n+1)+f (k+2*(n+1))=f k+(ev f (k+2) n+f (k+2+2*n))
    rw [jmi f k n,show k+2*(n+1)=k+2+2*n by omega]
    omega
theorem jy5 (a b:Nat→Int):∀n,tu a b (2*n)=ev a 0 n - ev b 1 n
  | 0=>rfl
  | n+1=>by
    rw [show 2*(n+1)=2*n+2 by omega,j3w,j03,jy5 a b n]
    show ev a 0 n - ev b 1 n+a (2*n) - b (2*n+1)=ev a 0 n+a (0+2*n) - (ev b 1 n+b (1+2*n))
    rw [Nat.zero_add,Nat.add_comm 1]
    omega
theorem je9 {f g:Nat→Int} (h:∀y,f y=g y) (k:Nat):∀n,ev f k n=ev g k n
  | 0=>rfl
  | n+1=>by show ev f k n+_=ev g k n+_;rw [je9 h k n,h]
theorem jfa {f g:Nat→Int} (h:∀y,f y=g y):∀n,su f n=su g n
  | 0=>rfl
  | n+1=>by show su f n+_=su g n+_;rw [jfa h n,h]
theorem jrn (T D x:Nat):∀n k s,((twA T D n k (sA T D x k) s:Nat):Int)=s+ev (fun y=>((fA T D x y:Nat):Int)) k n
  | 0,k,s=>(Int.add_zero _).symm
  | n+1,k,s=>by
    have e2:twA T D (n+1) k (sA T D x k) s=twA T D n (k+2) (sA T D x (k+2)) (s+fA T D x k):=rfl;rw [e2,jrn T D x n (k+2),jmi]
    push_cast
    omega
theorem jro (T D x:Nat):∀n k s,((twB T D n k (sB T D x k) s).1:Int)=s+ev (fun y=>((fB T D x y:Nat):Int)) k n∧(twB T D n k (sB T D x k) s).2=sB T D x (k+2*n)
  | 0,k,s=>⟨(Int.add_zero _).symm,rfl⟩
  | n+1,k,s=>by
    have e2:twB T D (n+1) k (sB T D x k) s=twB T D n (k+2) (sB T D x (k+2)) (s+fB T D x k):=rfl;obtain ⟨h1,h2⟩:=jro T D x n (k+2) (s+fB T D x k);rw [e2,h1,h2,jmi,show k+2+2*n=k+2*(n+1) by omega]
    push_cast
    exact ⟨by omega,rfl⟩
section
variable (t w:Nat)
theorem oAs (y:Nat):oA (rA (dPow (w:Int)) ((t:Int)*t) t) y=((fA (t*t) (2^(2*w)) t y:Nat):Int):=
  j1u (by rw [←Int.natCast_mul,jwx (t*t) (2^(2*w)) t _ (jnw w)])
theorem rBs (y:Nat):rB (dPow (w:Int)) ((t:Int)*t) t y=((sB (t*t) (2^(2*w)) t y:Nat):Int):=by
  rw [←Int.natCast_mul,jwy (t*t) (2^(2*w)) t (Nat.pow_pos (by omega)) _ (jnw w)]
theorem oBs (y:Nat):oB (rB (dPow (w:Int)) ((t:Int)*t) t) y=((fB (t*t) (2^(2*w)) t y:Nat):Int):=j1v (rBs t w y)
theorem atanhLo_nat (n:Nat):atanhLo t w n=((lpA (t*t) (2^(2*w)) n 0 t 0:Nat):Int):=by
  unfold atanhLo;rw [jfa (oAs t w)];have h:=jwz (t*t) (2^(2*w)) t n 0 0;rw [Nat.zero_add] at h;have e0:su (fun y=>((fA (t*t) (2^(2*w)) t y:Nat):Int)) 0=0:=rfl;rw [e0] at h;have e1:sA (t*t) (2^(2*w)) t 0=t:=rfl;rw [e1] at h
  omega
theorem atanhHi_nat (n:Nat):atanhHi t w n=((match lpB (t*t) (2^(2*w)) n 0 t 0 with | (s,b)=>s+2*up b (2*n+1):Nat):Int):=by
  unfold atanhHi up2;rw [jfa (oBs t w),oBs];obtain ⟨h,h2⟩:=jw0 (t*t) (2^(2*w)) t n 0 0;rw [Nat.zero_add] at h h2;have e0:su (fun y=>((fB (t*t) (2^(2*w)) t y:Nat):Int)) 0=0:=rfl;have e1:sB (t*t) (2^(2*w)) t 0=t:=rfl;rw [e0,e1] at h;rw [e1] at h2
  generalize lpB (t*t) (2^(2*w)) n 0 t 0=p at *
  obtain ⟨s,b⟩:=p;simp only at h h2;subst h2
  show _=((s+2*up (sB (t*t) (2^(2*w)) t n) (2*n+1):Nat):Int)
  rw [show fB (t*t) (2^(2*w)) t n=up (sB (t*t) (2^(2*w)) t n) (2*n+1) from rfl,show (2:Int)^(1:Int).toNat=2 from rfl]
  push_cast
  omega
theorem atanLo_nat (n:Nat):atanLo t w n=(atLoP t w n:Int) - (atLoN t w n:Int):=by
  unfold atanLo atLoP atLoN;rw [jy5,je9 (oAs t w),je9 (oBs t w)];have h1:=jrn (t*t) (2^(2*w)) t n 0 0;have h2:=(jro (t*t) (2^(2*w)) t n 1 0).1;have e1:sA (t*t) (2^(2*w)) t 0=t:=rfl;have e2:sB (t*t) (2^(2*w)) t 1=up (t*(t*t)) (2^(2*w)):=rfl;rw [e1] at h1;rw [e2] at h2;rw [h1,h2]
  omega
theorem atanHi_nat (n:Nat):atanHi t w n=(atHiP t w n:Int) - (atHiN t w n:Int):=by
  unfold atanHi atHiP atHiN;rw [jy5,je9 (oAs t w),je9 (oBs t w),oBs];obtain ⟨h1,h3⟩:=jro (t*t) (2^(2*w)) t n 0 0;have h2:=jrn (t*t) (2^(2*w)) t n 1 0;have e1:sB (t*t) (2^(2*w)) t 0=t:=rfl;have e2:sA (t*t) (2^(2*w)) t 1=t*(t*t) / 2^(2*w):=rfl;rw [e1] at h1 h3;rw [e2] at h2;rw [Nat.zero_add] at h3
  generalize twB (t*t) (2^(2*w)) n 0 t 0=p at *
  obtain ⟨s,b⟩:=p;simp only at h1 h3;subst h3
  show _=((s+up (sB (t*t) (2^(2*w)) t (2*n)) (4*n+1):Nat):Int) - _
  rw [h2,show fB (t*t) (2^(2*w)) t (2*n)=up (sB (t*t) (2^(2*w)) t (2*n)) (2*(2*n)+1) from rfl,show 2*(2*n)+1=4*n+1 by omega]
  push_cast
  omega
end
end Co
end
end
section
section
namespace Co
set_option maxRecDepth 1000000
theorem ln_all:allB lnOK 901=true:=by kernel_rfl
theorem at5_all:allB (atOK 5) 901=true:=by kernel_rfl
theorem at239_all:allB (atOK 239) 901=true:=by kernel_rfl
end Co
end
end
end Go.Proofs.YtllgjggkchgpbaaGreat