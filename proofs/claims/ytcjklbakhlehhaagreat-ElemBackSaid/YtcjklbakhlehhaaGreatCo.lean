/- Plain: what the rows reckon. Plain: the sums of the constants, reckoned with natural numbers. Plain: the constants' sums stand in order, by reckoning. -/
import Derived.Test.YtcjklbakhlehhaaGreatWk
set_option linter.unusedVariables false
set_option linter.unusedSimpArgs false
namespace Go.Proofs.YtcjklbakhlehhaaGreat
section
section
def up2 (x:Int):Int:=x*2^(1:Int).toNat
def expLo (t q:Int) (n:Nat):Int:=su (rA (dExp q) t (1*2^q.toNat)) n
def expHi (t q:Int) (n:Nat):Int:=su (rB (dExp q) t (1*2^q.toNat)) n+up2 (rB (dExp q) t (1*2^q.toNat) n)
def atanhLo (t q:Int) (n:Nat):Int:=su (oA (rA (dPow q) (t*t) t)) n
def atanhHi (t q:Int) (n:Nat):Int:=su (oB (rB (dPow q) (t*t) t)) n+up2 (oB (rB (dPow q) (t*t) t) n)
def atanLo (t q:Int) (n:Nat):Int:=tu (oA (rA (dPow q) (t*t) t)) (oB (rB (dPow q) (t*t) t)) (2*n)
def atanHi (t q:Int) (n:Nat):Int:=tu (oB (rB (dPow q) (t*t) t)) (oA (rA (dPow q) (t*t) t)) (2*n)+oB (rB (dPow q) (t*t) t) (2*n)
def sinLo (t q:Int) (n:Nat):Int:=tu (rA (dSin q) (t*t) t) (rB (dSin q) (t*t) t) (2*n)
def sinHi (t q:Int) (n:Nat):Int:=tu (rB (dSin q) (t*t) t) (rA (dSin q) (t*t) t) (2*n)+rB (dSin q) (t*t) t (2*n)
def cosLo (t q:Int) (n:Nat):Int:=tu (rA (dCos q) (t*t) (1*2^q.toNat)) (rB (dCos q) (t*t) (1*2^q.toNat)) (2*n)
def cosHi (t q:Int) (n:Nat):Int:=tu (rB (dCos q) (t*t) (1*2^q.toNat)) (rA (dCos q) (t*t) (1*2^q.toNat)) (2*n)+rB (dCos q) (t*t) (1*2^q.toNat) (2*n)
end
end
section
section
namespace Co
def up (z y:Nat):Nat:=(z+(y - 1)) / y
def sA (T D x:Nat):Nat→Nat
  | 0=>x
  | k+1=>sA T D x k*T / D
def sB (T D x:Nat):Nat→Nat
  | 0=>x
  | k+1=>up (sB T D x k*T) D
def lpA (T D:Nat):Nat→Nat→Nat→Nat→Nat
  | 0,_,_,s=>s
  | n+1,k,a,s=>lpA T D n (k+1) (a*T / D) (s+a / (2*k+1))
def lpB (T D:Nat):Nat→Nat→Nat→Nat→Nat×Nat
  | 0,_,b,s=>(s,b)
  | n+1,k,b,s=>lpB T D n (k+1) (up (b*T) D) (s+up b (2*k+1))
def twA (T D:Nat):Nat→Nat→Nat→Nat→Nat
  | 0,_,_,s=>s
  | n+1,k,a,s=>twA T D n (k+2) (a*T / D*T / D) (s+a / (2*k+1))
def twB (T D:Nat):Nat→Nat→Nat→Nat→Nat×Nat
  | 0,_,b,s=>(s,b)
  | n+1,k,b,s=>twB T D n (k+2) (up (up (b*T) D*T) D) (s+up b (2*k+1))
def lnLo (w:Nat):Nat:=lpA (2^w / 3*(2^w / 3)) (2^(2*w)) (w / 3+2) 0 (2^w / 3) 0
def lnHi (w:Nat):Nat:=match lpB ((2^w / 3+1)*(2^w / 3+1)) (2^(2*w)) (w / 3+2) 0 (2^w / 3+1) 0 with
  | (s,b)=>s+2*up b (2*(w / 3+2)+1)
def atLoP (t w n:Nat):Nat:=twA (t*t) (2^(2*w)) n 0 t 0
def atLoN (t w n:Nat):Nat:=(twB (t*t) (2^(2*w)) n 1 (up (t*(t*t)) (2^(2*w))) 0).1
def atHiP (t w n:Nat):Nat:=match twB (t*t) (2^(2*w)) n 0 t 0 with
  | (s,b)=>s+up b (4*n+1)
def atHiN (t w n:Nat):Nat:=twA (t*t) (2^(2*w)) n 1 (t*(t*t) / 2^(2*w)) 0
def lnOK (q:Nat):Bool:=Nat.ble (lnLo (q+16)) (lnHi (q+16))
def atOK (c q:Nat):Bool:=match 2^(q+16) / c,(q+16) / 9+2 with
  | d,n=>Nat.ble (atLoP d (q+16) n+atHiN (d+1) (q+16) n) (atHiP (d+1) (q+16) n+atLoN d (q+16) n)
def allB (f:Nat→Bool):Nat→Bool
  | 0=>true
  | n+1=>f n && allB f n
theorem allB_ok {f:Nat→Bool}:∀{n:Nat},allB f n=true→∀i,i<n→f i=true
  | 0,_,i,h=>by omega
  | n+1,h,i,hi=>by
    simp only [allB,Bool.and_eq_true] at h
    by_cases e:i=n
    · rw [e];exact h.1
    · exact allB_ok h.2 i (by omega)
theorem jrr (z y:Nat) (hy:0<y):vUp (z:Int) (y:Int)=((up z y:Nat):Int):=by
  have hy':(0:Int)<y:=by omega
  have h3:=Nat.div_add_mod (z+(y - 1)) y;have h4:=Nat.mod_lt (z+(y - 1)) hy;refine Int.le_antisymm (jt6 hy' ?_) ?_
  · have h5:z≤up z y*y:=by
      unfold up;rw [Nat.mul_comm]
      omega
    exact_mod_cast h5
  · have h1:=jx1 (z:=(z:Int)) hy'
    by_cases hv:vUp (z:Int) (y:Int)<((up z y:Nat):Int)
    · exfalso
      have h6:vUp (z:Int) (y:Int)≤((up z y:Nat):Int) - 1:=by omega
      have h7:vUp (z:Int) (y:Int)*y≤(((up z y:Nat):Int) - 1)*y:=Int.mul_le_mul_of_nonneg_right h6 (by omega);have h8:(((up z y:Nat):Int) - 1)*y=((y*up z y:Nat):Int) - y:=by rw [Int.sub_mul,Int.one_mul,Int.mul_comm];push_cast;rfl
      have h9:y*up z y+(z+(y - 1))%y=z+(y - 1):=h3
      generalize y*up z y=m at h8 h9
      omega
    · omega
theorem jwr (T D x:Nat) (d:Nat→Int) (hd:∀y,d y=(D:Int)):∀k,rA d T x k=((sA T D x k:Nat):Int)
  | 0=>rfl
  | k+1=>by
    show rA d T x k*T / d (k+1)=_
    rw [jwr T D x d hd k,hd]
    show _=((sA T D x k*T / D:Nat):Int)
    push_cast
    rfl
theorem jws (T D x:Nat) (hD:0<D) (d:Nat→Int) (hd:∀y,d y=(D:Int)):∀k,rB d T x k=((sB T D x k:Nat):Int)
  | 0=>rfl
  | k+1=>by
    show vUp (rB d T x k*T) (d (k+1))=_
    rw [jws T D x hD d hd k,hd,←Int.natCast_mul,jrr _ _ hD]
    rfl
theorem jn3 (w:Nat) (y:Nat):dPow (w:Int) y=((2^(2*w):Nat):Int):=by
  unfold dPow;rw [Int.one_mul,show (2*(w:Int)).toNat=2*w by omega]
  push_cast
  rfl
def fA (T D x y:Nat):Nat:=sA T D x y / (2*y+1)
def fB (T D x y:Nat):Nat:=up (sB T D x y) (2*y+1)
theorem j1m {a:Nat→Int} {n y:Nat} (h:a y=(n:Int)):oA a y=((n / (2*y+1):Nat):Int):=by
  unfold oA;rw [h,Int.mul_one,show (2:Int)^(0:Int).toNat=1 from rfl,Int.mul_one]
  push_cast
  rfl
theorem j1n {a:Nat→Int} {n y:Nat} (h:a y=(n:Int)):oB a y=((up n (2*y+1):Nat):Int):=by
  unfold oB;rw [h,Int.mul_one,show (2:Int)^(0:Int).toNat=1 from rfl,Int.mul_one,←jrr _ _ (by omega)]
  push_cast
  rfl
theorem jwt (T D x:Nat):∀n k s,((lpA T D n k (sA T D x k) s:Nat):Int)+su (fun y=>((fA T D x y:Nat):Int)) k=s+su (fun y=>((fA T D x y:Nat):Int)) (k+n)
  | 0,k,s=>rfl
  | n+1,k,s=>by
    have h:=jwt T D x n (k+1) (s+fA T D x k);have e:su (fun y=>((fA T D x y:Nat):Int)) (k+1)=su (fun y=>((fA T D x y:Nat):Int)) k+(fA T D x k:Nat):=rfl;rw [e,show k+1+n=k+(n+1) by omega] at h;have e2:lpA T D (n+1) k (sA T D x k) s=lpA T D n (k+1) (sA T D x (k+1)) (s+fA T D x k):=rfl;rw [e2]
    push_cast at h
    omega
theorem jwu (T D x:Nat):∀n k s,((lpB T D n k (sB T D x k) s).1:Int)+su (fun y=>((fB T D x y:Nat):Int)) k=s+su (fun y=>((fB T D x y:Nat):Int)) (k+n)∧(lpB T D n k (sB T D x k) s).2=sB T D x (k+n)
  | 0,k,s=>⟨rfl,rfl⟩
  | n+1,k,s=>by
    obtain ⟨h,h2⟩:=jwu T D x n (k+1) (s+fB T D x k);have e:su (fun y=>((fB T D x y:Nat):Int)) (k+1)=su (fun y=>((fB T D x y:Nat):Int)) k+(fB T D x k:Nat):=rfl;rw [e,show k+1+n=k+(n+1) by omega] at h;rw [show k+1+n=k+(n+1) by omega] at h2;have e2:lpB T D (n+1) k (sB T D x k) s=lpB T D n (k+1) (sB T D x (k+1)) (s+fB T D x k):=rfl;rw [e2]
    push_cast at h
    exact ⟨by omega,h2⟩
def ev (f:Nat→Int) (k:Nat):Nat→Int
  | 0=>0
  | n+1=>ev f k n+f (k+2*n)
theorem jmo (f:Nat→Int) (k:Nat):∀n,ev f k (n+1)=f k+ev f (k+2) n
  | 0=>by show (0:Int)+f (k+2*0)=f k+0;simp
  | n+1=>by
    show ev f k (n+1)+f (k+2*(n+1))=f k+(ev f (k+2) n+f (k+2+2*n))
    rw [jmo f k n,show k+2*(n+1)=k+2+2*n by omega]
    omega
theorem jy0 (a b:Nat→Int):∀n,tu a b (2*n)=ev a 0 n - ev b 1 n
  | 0=>rfl
  | n+1=>by
    rw [show 2*(n+1)=2*n+2 by omega,j3k,j0s,jy0 a b n]
    show ev a 0 n - ev b 1 n+a (2*n) - b (2*n+1)=ev a 0 n+a (0+2*n) - (ev b 1 n+b (1+2*n))
    rw [Nat.zero_add,Nat.add_comm 1]
    omega
theorem jfd {f g:Nat→Int} (h:∀y,f y=g y) (k:Nat):∀n,ev f k n=ev g k n
  | 0=>rfl
  | n+1=>by show ev f k n+_=ev g k n+_;rw [jfd h k n,h]
theorem jfe {f g:Nat→Int} (h:∀y,f y=g y):∀n,su f n=su g n
  | 0=>rfl
  | n+1=>by show su f n+_=su g n+_;rw [jfe h n,h]
theorem jrs (T D x:Nat):∀n k s,((twA T D n k (sA T D x k) s:Nat):Int)=s+ev (fun y=>((fA T D x y:Nat):Int)) k n
  | 0,k,s=>(Int.add_zero _).symm
  | n+1,k,s=>by
    have e2:twA T D (n+1) k (sA T D x k) s=twA T D n (k+2) (sA T D x (k+2)) (s+fA T D x k):=rfl;rw [e2,jrs T D x n (k+2),jmo]
    push_cast
    omega
theorem jrt (T D x:Nat):∀n k s,((twB T D n k (sB T D x k) s).1:Int)=s+ev (fun y=>((fB T D x y:Nat):Int)) k n∧(twB T D n k (sB T D x k) s).2=sB T D x (k+2*n)
  | 0,k,s=>⟨(Int.add_zero _).symm,rfl⟩
  | n+1,k,s=>by
    have e2:twB T D (n+1) k (sB T D x k) s=twB T D n (k+2) (sB T D x (k+2)) (s+fB T D x k):=rfl;obtain ⟨h1,h2⟩:=jrt T D x n (k+2) (s+fB T D x k);rw [e2,h1,h2,jmo,show k+2+2*n=k+2*(n+1) by omega]
    push_cast
    exact ⟨by omega,rfl⟩
section
variable (t w:Nat)
theorem oAs (y:Nat):oA (rA (dPow (w:Int)) ((t:Int)*t) t) y=((fA (t*t) (2^(2*w)) t y:Nat):Int):=
  j1m (by rw [←Int.natCast_mul,jwr (t*t) (2^(2*w)) t _ (jn3 w)])
theorem rBs (y:Nat):rB (dPow (w:Int)) ((t:Int)*t) t y=((sB (t*t) (2^(2*w)) t y:Nat):Int):=by
  rw [←Int.natCast_mul,jws (t*t) (2^(2*w)) t (Nat.pow_pos (by omega)) _ (jn3 w)]
theorem oBs (y:Nat):oB (rB (dPow (w:Int)) ((t:Int)*t) t) y=((fB (t*t) (2^(2*w)) t y:Nat):Int):=j1n (rBs t w y)
theorem atanhLo_nat (n:Nat):atanhLo t w n=((lpA (t*t) (2^(2*w)) n 0 t 0:Nat):Int):=by
  unfold atanhLo;rw [jfe (oAs t w)];have h:=jwt (t*t) (2^(2*w)) t n 0 0;rw [Nat.zero_add] at h;have e0:su (fun y=>((fA (t*t) (2^(2*w)) t y:Nat):Int)) 0=0:=rfl;rw [e0] at h;have e1:sA (t*t) (2^(2*w)) t 0=t:=rfl;rw [e1] at h
  omega
theorem atanhHi_nat (n:Nat):atanhHi t w n=((match lpB (t*t) (2^(2*w)) n 0 t 0 with | (s,b)=>s+2*up b (2*n+1):Nat):Int):=by
  unfold atanhHi up2;rw [jfe (oBs t w),oBs];obtain ⟨h,h2⟩:=jwu (t*t) (2^(2*w)) t n 0 0;rw [Nat.zero_add] at h h2;have e0:su (fun y=>((fB (t*t) (2^(2*w)) t y:Nat):Int)) 0=0:=rfl;have e1:sB (t*t) (2^(2*w)) t 0=t:=rfl;rw [e0,e1] at h;rw [e1] at h2
  generalize lpB (t*t) (2^(2*w)) n 0 t 0=p at *
  obtain ⟨s,b⟩:=p;simp only at h h2;subst h2
  show _=((s+2*up (sB (t*t) (2^(2*w)) t n) (2*n+1):Nat):Int)
  rw [show fB (t*t) (2^(2*w)) t n=up (sB (t*t) (2^(2*w)) t n) (2*n+1) from rfl,show (2:Int)^(1:Int).toNat=2 from rfl]
  push_cast
  omega
theorem atanLo_nat (n:Nat):atanLo t w n=(atLoP t w n:Int) - (atLoN t w n:Int):=by
  unfold atanLo atLoP atLoN;rw [jy0,jfd (oAs t w),jfd (oBs t w)];have h1:=jrs (t*t) (2^(2*w)) t n 0 0;have h2:=(jrt (t*t) (2^(2*w)) t n 1 0).1;have e1:sA (t*t) (2^(2*w)) t 0=t:=rfl;have e2:sB (t*t) (2^(2*w)) t 1=up (t*(t*t)) (2^(2*w)):=rfl;rw [e1] at h1;rw [e2] at h2;rw [h1,h2]
  omega
theorem atanHi_nat (n:Nat):atanHi t w n=(atHiP t w n:Int) - (atHiN t w n:Int):=by
  unfold atanHi atHiP atHiN;rw [jy0,jfd (oAs t w),jfd (oBs t w),oBs];obtain ⟨h1,h3⟩:=jrt (t*t) (2^(2*w)) t n 0 0;have h2:=jrs (t*t) (2^(2*w)) t n 1 0;have e1:sB (t*t) (2^(2*w)) t 0=t:=rfl;have e2:sA (t*t) (2^(2*w)) t 1=t*(t*t) / 2^(2*w):=rfl;rw [e1] at h1 h3;rw [e2] at h2;rw [Nat.zero_add] at h3
  generalize twB (t*t) (2^(2*w)) n 0 t 0=p at *
  obtain ⟨s,b⟩:=p;simp only at h1 h3;subst h3
  show _=((s+up (sB (t*t) (2^(2*w)) t (2*n)) (4*n+1):Nat):Int) - _
  rw [h2,show fB (t*t) (2^(2*w)) t (2*n)=up (sB (t*t) (2^(2*w)) t (2*n)) (2*(2*n)+1) from rfl,show 2*(2*n)+1=4*n+1 by omega]
  push_cast
  omega
end
end Co
end
end
section
section
namespace Co
set_option maxRecDepth 1000000
theorem ln_all:allB lnOK 901=true:=by kernel_rfl
theorem at5_all:allB (atOK 5) 901=true:=by kernel_rfl
theorem at239_all:allB (atOK 239) 901=true:=by kernel_rfl
end Co
end
end
end Go.Proofs.YtcjklbakhlehhaaGreat