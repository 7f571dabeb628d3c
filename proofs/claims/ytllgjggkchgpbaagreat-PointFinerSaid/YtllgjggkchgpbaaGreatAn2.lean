/- Plain: what the rows and the functions reckon encloses the values. -/
import Derived.Test.YtllgjggkchgpbaaGreatAn1
import Derived.Test.YtllgjggkchgpbaaGreatSm
set_option linter.unusedVariables false
set_option linter.unusedSimpArgs false
namespace Go.Proofs.YtllgjggkchgpbaaGreat
namespace An
structure Row (D:Rat) (e r a b:Nat→Rat):Prop where
  d0:0<D
  e0:0≤e 0
  r0:∀k,0≤r k
  es:∀k,e (k+1)=e k*r k
  a0:a 0=e 0*D
  b0:b 0=e 0*D
  rh:∀k,r (k+1)≤1/2
  al:∀k,a (k+1)≤a k*r k
  ag:∀k,a k*r k≤a (k+1)+1
  bg:∀k,b k*r k≤b (k+1)
  bl:∀k,b (k+1)≤b k*r k+1
section
variable {D:Rat} {e r a b:Nat→Rat} (h:Row D e r a b)
include h
theorem Row.nonneg:∀k,0≤e k
  | 0=>h.e0
  | k+1=>by rw [h.es k];exact Rat.mul_nonneg (Row.nonneg k) (h.r0 k)
theorem Row.lo:∀k,a k≤e k*D
  | 0=>by rw [h.a0];grind
  | k+1=>by
    have:=Rat.mul_le_mul_of_nonneg_right (Row.lo k) (h.r0 k);have:=h.al k;rw [h.es k];grind
theorem Row.hi:∀k,e k*D≤b k
  | 0=>by rw [h.b0];grind
  | k+1=>by
    have:=Rat.mul_le_mul_of_nonneg_right (Row.hi k) (h.r0 k);have:=h.bg k;rw [h.es k];grind
theorem Row.wide:∀k,b k - a k≤4
  | 0=>by rw [h.a0,h.b0];grind
  | 1=>by
    have:=h.bl 0;have:=h.ag 0;rw [h.a0] at *;rw [h.b0] at *
    grind
  | k+2=>by
    have w:=Row.wide (k+1);have:=h.bl (k+1);have:=h.ag (k+1);have p:=Rat.mul_le_mul_of_nonneg_right w (h.r0 (k+1));have:=h.rh k
    grind
theorem Row.fall {k:Nat} (hk:1≤k):2*e (k+1)≤e k:=by
  obtain ⟨j,rfl⟩:∃j,k=j+1:=⟨k - 1,by omega⟩;rw [h.es (j+1)];have:=Rat.mul_le_mul_of_nonneg_left (h.rh j) (h.nonneg (j+1))
  grind
end
def sumR (e:Nat→Rat):Nat→Rat
  | 0=>0
  | n+1=>sumR e n+e n
def altR (a b:Nat→Rat):Nat→Rat
  | 0=>0
  | n+1=>if n%2=1 then altR a b n - b n else altR a b n+a n
theorem jnk {e:Nat→Rat} (h0:∀k,0≤e k) {n:Nat} (h:∀k,n≤k→2*e (k+1)≤e k) {m:Nat} (hm:n≤m):sumR e n≤sumR e m∧sumR e m+2*e m≤sumR e n+2*e n:=by
  obtain ⟨j,rfl⟩:=Nat.exists_eq_add_of_le hm;clear hm
  induction j with
  | zero=>rw [Nat.add_zero];exact ⟨Rat.le_refl,Rat.le_refl⟩
  | succ j ih=>
    have a1:=h0 (n+j);have a2:=h (n+j) (by omega)
    show sumR e n≤sumR e (n+j)+e (n+j)∧sumR e (n+j)+e (n+j)+2*e (n+j+1)≤_
    grind
theorem ji8 {e:Nat→Rat} (h0:∀k,0≤e k) {n:Nat} (h:∀k,2*n≤k→e (k+1)≤e k) {m:Nat} (hm:2*n≤m):altR e e (2*n)≤altR e e m∧altR e e m≤altR e e (2*n)+e (2*n):=by
  have key:∀j,(altR e e (2*n)≤altR e e (2*n+2*j)∧altR e e (2*n+2*j)+e (2*n+2*j)≤altR e e (2*n)+e (2*n)):=by
    intro j
    induction j with
    | zero=>rw [Nat.mul_zero,Nat.add_zero];exact ⟨Rat.le_refl,Rat.le_refl⟩
    | succ j ih=>
      have a1:=h (2*n+2*j) (by omega);have a2:=h (2*n+2*j+1) (by omega);have e1:altR e e (2*n+2*j+1)=altR e e (2*n+2*j)+e (2*n+2*j):=if_neg (by omega);have e2:altR e e (2*n+2*j+1+1)=altR e e (2*n+2*j+1) - e (2*n+2*j+1):=if_pos (by omega);rw [show 2*n+2*(j+1)=2*n+2*j+1+1 by omega,e2,e1]
      grind
  obtain ⟨i,rfl⟩:=Nat.exists_eq_add_of_le hm
  rcases Nat.mod_two_eq_zero_or_one i with hi | hi
  · rw [show i=2*(i / 2) by omega]
    have:=key (i / 2);have:=h0 (2*n+2*(i / 2))
    grind
  · have k:=key (i / 2)
    have z:=h0 (2*n+2*(i / 2));have e1:altR e e (2*n+2*(i / 2)+1)=altR e e (2*n+2*(i / 2))+e (2*n+2*(i / 2)):=if_neg (by omega);rw [show 2*n+i=2*n+2*(i / 2)+1 by omega,e1]
    grind
theorem ji9 {a e:Nat→Rat} {D c:Rat} (h:∀k,a k≤e k*D+c):∀n,sumR a n≤sumR e n*D+c*n
  | 0=>by show (0:Rat)≤0*D+c*((0:Nat):Rat);rw [show ((0:Nat):Rat)=0 from rfl];grind
  | n+1=>by
    have:=ji9 h n;have:=h n
    show sumR a n+a n≤(sumR e n+e n)*D+c*((n+1:Nat):Rat)
    rw [Rat.natCast_add];grind
theorem sum_mono' {a e:Nat→Rat} {D c:Rat} (h:∀k,e k*D≤a k+c):∀n,sumR e n*D≤sumR a n+c*n
  | 0=>by show 0*D≤0+c*((0:Nat):Rat);rw [show ((0:Nat):Rat)=0 from rfl];grind
  | n+1=>by
    have:=sum_mono' h n;have:=h n
    show (sumR e n+e n)*D≤sumR a n+a n+c*((n+1:Nat):Rat)
    rw [Rat.natCast_add];grind
theorem jja {a b e:Nat→Rat} {D c:Rat} (h:∀k,a k≤e k*D+c) (g:∀k,e k*D≤b k+c):∀n,altR a b n≤altR e e n*D+c*n
  | 0=>by show (0:Rat)≤0*D+c*((0:Nat):Rat);rw [show ((0:Nat):Rat)=0 from rfl];grind
  | n+1=>by
    have:=jja h g n;have:=h n;have:=g n
    show (if n%2=1 then altR a b n - b n else altR a b n+a n)≤(if n%2=1 then altR e e n - e n else altR e e n+e n)*D+c*((n+1:Nat):Rat)
    rw [Rat.natCast_add]
    split <;> grind
theorem alt_mono' {a b e:Nat→Rat} {D c:Rat} (h:∀k,a k≤e k*D+c) (g:∀k,e k*D≤b k+c):∀n,altR e e n*D≤altR b a n+c*n
  | 0=>by show 0*D≤0+c*((0:Nat):Rat);rw [show ((0:Nat):Rat)=0 from rfl];grind
  | n+1=>by
    have:=alt_mono' h g n;have:=h n;have:=g n
    show (if n%2=1 then altR e e n - e n else altR e e n+e n)*D≤(if n%2=1 then altR b a n - a n else altR b a n+b n)+c*((n+1:Nat):Rat)
    rw [Rat.natCast_add]
    split <;> grind
theorem jke {D c:Rat} {e a b:Nat→Rat} (hD:0<D) (hc:0≤c) (h0:∀k,0≤e k) (hl:∀k,a k≤e k*D) (hu:∀k,e k*D≤b k) (hw:∀k,b k≤a k+c)
    {n:Nat} (hh:∀k,n≤k→2*e (k+1)≤e k) {m:Nat} (hm:n≤m) :
    sumR a n≤sumR e m*D∧sumR e m*D≤sumR b n+2*b n∧sumR b n+2*b n≤sumR e m*D+c*n+2*(e n*D+c)∧sumR e m*D≤sumR a n+c*n+2*(e n*D):=by
  obtain ⟨t1,t2⟩:=jnk h0 hh hm;have l:=ji9 (a:=a) (e:=e) (D:=D) (c:=0) (fun k=>by have:=hl k;grind) n;have u:=sum_mono' (a:=b) (e:=e) (D:=D) (c:=0) (fun k=>by have:=hu k;grind) n;have lw:=ji9 (a:=b) (e:=e) (D:=D) (c:=c) (fun k=>by have:=hl k;have:=hw k;grind) n;have uw:=sum_mono' (a:=a) (e:=e) (D:=D) (c:=c) (fun k=>by have:=hu k;have:=hw k;grind) n;have q1:=Rat.mul_le_mul_of_nonneg_right t1 (Rat.le_of_lt hD);have q2:=Rat.mul_le_mul_of_nonneg_right t2 (Rat.le_of_lt hD);have z:=Rat.mul_nonneg (h0 m) (Rat.le_of_lt hD);have un:=hu n;have ln:=hl n;have wn:=hw n;clear hh h0 hl hu hw;refine ⟨by grind,by grind,by grind,by grind⟩
theorem jgv {D c:Rat} {e a b:Nat→Rat} (hD:0<D) (hc:0≤c) (h0:∀k,0≤e k) (hl:∀k,a k≤e k*D) (hu:∀k,e k*D≤b k) (hw:∀k,b k≤a k+c)
    {n:Nat} (hh:∀k,2*n≤k→e (k+1)≤e k) {m:Nat} (hm:2*n≤m) :
    altR a b (2*n)≤altR e e m*D∧altR e e m*D≤altR b a (2*n)+b (2*n)∧altR b a (2*n)+b (2*n)≤altR e e m*D+c*(2*n:Nat)+(e (2*n)*D+c)∧altR e e m*D≤altR a b (2*n)+c*(2*n:Nat)+e (2*n)*D:=by
  obtain ⟨t1,t2⟩:=ji8 h0 hh hm;have l:=jja (a:=a) (b:=b) (e:=e) (D:=D) (c:=0) (fun k=>by have:=hl k;grind) (fun k=>by have:=hu k;grind) (2*n);have u:=alt_mono' (a:=a) (b:=b) (e:=e) (D:=D) (c:=0) (fun k=>by have:=hl k;grind) (fun k=>by have:=hu k;grind) (2*n);have lw:=jja (a:=b) (b:=a) (e:=e) (D:=D) (c:=c) (fun k=>by have:=hl k;have:=hw k;grind) (fun k=>by have:=hu k;have:=hw k;grind) (2*n);have uw:=alt_mono' (a:=b) (b:=a) (e:=e) (D:=D) (c:=c) (fun k=>by have:=hl k;have:=hw k;grind) (fun k=>by have:=hu k;have:=hw k;grind) (2*n);have q1:=Rat.mul_le_mul_of_nonneg_right t1 (Rat.le_of_lt hD);have q2:=Rat.mul_le_mul_of_nonneg_right t2 (Rat.le_of_lt hD);have un:=hu (2*n);have ln:=hl (2*n);have wn:=hw (2*n);clear hh h0 hl hu hw;refine ⟨by grind,by grind,by grind,by grind⟩
theorem jyl (x:Rat):∀n,En n x=sumR (fun k=>tE k x) n
  | 0=>rfl
  | n+1=>by
    show En n x+fE n*x^n=sumR _ n+tE n x
    rw [jyl x n];rfl
theorem jgw (x:Rat) (k:Nat):tE (k+1) x=tE k x*(x*((k+1:Nat):Rat)⁻¹):=by
  unfold tE
  show fE k*((k+1:Nat):Rat)⁻¹*x^(k+1)=_
  rw [pow_succ'];grind
def tS (k:Nat) (x:Rat):Rat:=tE (2*k+1) x
def tC (k:Nat) (x:Rat):Rat:=tE (2*k) x
theorem jgx:∀k:Nat,cC (2*k)=(if k%2=1 then - fE (2*k) else fE (2*k))∧cS (2*k)=0∧cS (2*k+1)=(if k%2=1 then - fE (2*k+1) else fE (2*k+1))∧cC (2*k+1)=0
  | 0=>by
    refine ⟨rfl,rfl,?_,?_⟩
    · show (1:Rat)*((0+1:Nat):Rat)⁻¹=if 0%2=1 then _ else (1:Rat)*((0+1:Nat):Rat)⁻¹
      rfl
    · show -(0:Rat)*((0+1:Nat):Rat)⁻¹=0
      grind
  | k+1=>by
    obtain ⟨h1,h2,h3,h4⟩:=jgx k;have e1:cC (2*(k+1)) = -cS (2*k+1)*((2*k+1+1:Nat):Rat)⁻¹:=rfl;have e2:cS (2*(k+1))=cC (2*k+1)*((2*k+1+1:Nat):Rat)⁻¹:=rfl;have e3:fE (2*(k+1))=fE (2*k+1)*((2*k+1+1:Nat):Rat)⁻¹:=rfl;have e4:cC (2*(k+1)+1) = -cS (2*(k+1))*((2*(k+1)+1:Nat):Rat)⁻¹:=rfl;have e5:cS (2*(k+1)+1)=cC (2*(k+1))*((2*(k+1)+1:Nat):Rat)⁻¹:=rfl;have e6:fE (2*(k+1)+1)=fE (2*(k+1))*((2*(k+1)+1:Nat):Rat)⁻¹:=rfl
    have a1:cC (2*(k+1))=(if (k+1)%2=1 then - fE (2*(k+1)) else fE (2*(k+1))):=by
      rw [e1,h3,e3]
      by_cases hk:k%2=1
      · rw [if_pos hk,if_neg (by omega)];grind
      · rw [if_neg hk,if_pos (by omega)];grind
    have a2:cS (2*(k+1))=0:=by rw [e2,h4];grind
    refine ⟨a1,a2,?_,?_⟩
    · rw [e5,a1,e6]
      by_cases hk:(k+1)%2=1
      · rw [if_pos hk,if_pos hk];grind
      · rw [if_neg hk,if_neg hk]
    · rw [e4,a2];grind
theorem jqt (x:Rat):∀m,Sn (2*m) x=altR (fun k=>tS k x) (fun k=>tS k x) m
  | 0=>rfl
  | m+1=>by
    obtain ⟨-,h2,h3,-⟩:=jgx m
    show P cS (2*m) x+cS (2*m)*x^(2*m)+cS (2*m+1)*x^(2*m+1)=if m%2=1 then altR _ _ m - tS m x else altR _ _ m+tS m x
    rw [show P cS (2*m) x=altR (fun k=>tS k x) (fun k=>tS k x) m from jqt x m,h2,h3];unfold tS tE
    split <;> grind
theorem j32 (x:Rat) (m:Nat):Sn (2*m+1) x=Sn (2*m) x:=by
  show P cS (2*m) x+cS (2*m)*x^(2*m)=_
  rw [(jgx m).2.1];grind
theorem jqu (x:Rat):∀m,Cn (2*m) x=altR (fun k=>tC k x) (fun k=>tC k x) m
  | 0=>rfl
  | m+1=>by
    obtain ⟨h1,-,-,h4⟩:=jgx m
    show P cC (2*m) x+cC (2*m)*x^(2*m)+cC (2*m+1)*x^(2*m+1)=if m%2=1 then altR _ _ m - tC m x else altR _ _ m+tC m x
    rw [show P cC (2*m) x=altR (fun k=>tC k x) (fun k=>tC k x) m from jqu x m,h4,h1];unfold tC tE
    split <;> grind
theorem j33 (x:Rat) (m:Nat):Cn (2*m+1) x=altR (fun k=>tC k x) (fun k=>tC k x) (m+1):=by
  rw [←jqu x (m+1)]
  show P cC (2*m) x+cC (2*m)*x^(2*m)=P cC (2*m) x+cC (2*m)*x^(2*m)+cC (2*m+1)*x^(2*m+1)
  rw [(jgx m).2.2.2];grind
theorem j34 (x:Rat) (n:Nat):∃m,n≤2*m+1∧Sn n x=altR (fun k=>tS k x) (fun k=>tS k x) m:=by
  rcases Nat.mod_two_eq_zero_or_one n with h | h
  · exact ⟨n / 2,by omega,by rw [←jqt,show 2*(n / 2)=n by omega]⟩
  · exact ⟨n / 2,by omega,by rw [←jqt,←j32,show 2*(n / 2)+1=n by omega]⟩
theorem j35 (x:Rat) (n:Nat):∃m,n≤2*m∧Cn n x=altR (fun k=>tC k x) (fun k=>tC k x) m:=by
  rcases Nat.mod_two_eq_zero_or_one n with h | h
  · exact ⟨n / 2,by omega,by rw [←jqu,show 2*(n / 2)=n by omega]⟩
  · exact ⟨n / 2+1,by omega,by rw [←j33,show 2*(n / 2)+1=n by omega]⟩
def tO (k:Nat) (x:Rat):Rat:=x^(2*k+1)
def oR (e:Nat→Rat) (k:Nat):Rat:=e k*((2*k+1:Nat):Rat)⁻¹
theorem jym (x:Rat):∀n,Hn n x=sumR (oR fun k=>tO k x) n
  | 0=>by show 0+cH 0*x^0=0;rw [show cH 0=0 from rfl];grind
  | n+1=>by
    have h:=jym x n
    show P cH (2*n+1) x+cH (2*n+1)*x^(2*n+1)+cH (2*n+1+1)*x^(2*n+1+1)=sumR _ n+oR _ n
    rw [show P cH (2*n+1) x=sumR (oR fun k=>tO k x) n from h,show cH (2*n+1)=((2*n+1:Nat):Rat)⁻¹ from if_neg (by omega),show cH (2*n+1+1)=0 from if_pos (by omega)];unfold oR tO;grind
theorem jyn (x:Rat):∀n,Tn n x=altR (oR fun k=>tO k x) (oR fun k=>tO k x) n
  | 0=>by show 0+cT 0*x^0=0;rw [show cT 0=0 from rfl];grind
  | n+1=>by
    have h:=jyn x n
    show P cT (2*n+1) x+cT (2*n+1)*x^(2*n+1)+cT (2*n+1+1)*x^(2*n+1+1)=if n%2=1 then altR _ _ n - oR _ n else altR _ _ n+oR _ n
    rw [show P cT (2*n+1) x=altR (oR fun k=>tO k x) (oR fun k=>tO k x) n from h,show cT (2*n+1+1)=0 from if_pos (by omega)]
    by_cases hn:n%2=1
    · rw [if_pos hn,show cT (2*n+1) = -((2*n+1:Nat):Rat)⁻¹ from ?_]
      · unfold oR tO;grind
      · show (if (2*n+1)%2=0 then (0:Rat) else if (2*n+1)%4=1 then _ else _)=_
        rw [if_neg (by omega),if_neg (by omega)]
    · rw [if_neg hn,show cT (2*n+1)=((2*n+1:Nat):Rat)⁻¹ from ?_]
      · unfold oR tO;grind
      · show (if (2*n+1)%2=0 then (0:Rat) else if (2*n+1)%4=1 then _ else _)=_
        rw [if_neg (by omega),if_pos (by omega)]
def DD (q:Int):Rat:=(((2:Int)^q.toNat:Int):Rat)
theorem DD_pos (q:Int):0<DD q:=by
  unfold DD;exact Rat.intCast_pos.2 (Int.pow_pos (by omega))
theorem jqv {q:Int} (hq:0≤q):(((2:Int)^(2*q).toNat:Int):Rat)=DD q*DD q:=by
  unfold DD;rw [←Rat.intCast_mul,show (2*q).toNat=q.toNat+q.toNat by omega,Int.pow_add]
theorem fl {n d:Int} (hd:0<d):((n / d:Int):Rat)*(d:Rat)≤(n:Rat)∧(n:Rat)≤((n / d:Int):Rat)*(d:Rat)+(d:Rat):=by
  have h1:=Int.emod_add_mul_ediv n d;have h2:=Int.emod_nonneg n (Int.ne_of_gt hd);have h3:=Int.emod_lt_of_pos n hd;have c1:n / d*d≤n:=by rw [Int.mul_comm];omega
  have c2:n≤n / d*d+d:=by rw [Int.mul_comm (n / d)];omega
  have r1:=Rat.intCast_le_intCast.2 c1;have r2:=Rat.intCast_le_intCast.2 c2;rw [Rat.intCast_mul] at r1;rw [Rat.intCast_add,Rat.intCast_mul] at r2;exact ⟨r1,r2⟩
theorem jey {n d:Int} (hd:0<d):vUp n d = -(-n / d):=by unfold vUp vDown;rw [if_neg (by omega)]
theorem fl_r {x T d:Int} {r:Rat} (hd:0<d) (hT:(T:Rat)=r*(d:Rat)):((x*T / d:Int):Rat)≤(x:Rat)*r∧(x:Rat)*r≤((x*T / d:Int):Rat)+1:=by
  obtain ⟨h1,h2⟩:=fl (n:=x*T) hd;have hp:(0:Rat)<(d:Rat):=Rat.intCast_pos.2 hd;rw [Rat.intCast_mul,hT] at h1 h2
  constructor
  · refine Rat.le_of_mul_le_mul_right (c:=(d:Rat)) ?_ hp
    grind
  · refine Rat.le_of_mul_le_mul_right (c:=(d:Rat)) ?_ hp
    grind
theorem up_r {x T d:Int} {r:Rat} (hd:0<d) (hT:(T:Rat)=r*(d:Rat)):(x:Rat)*r≤((vUp (x*T) d:Int):Rat)∧((vUp (x*T) d:Int):Rat)≤(x:Rat)*r+1:=by
  rw [jey hd];have:=fl_r (x := -x) hd hT;rw [Int.neg_mul,Rat.intCast_neg] at this;rw [Rat.intCast_neg]
  grind
theorem jnl {d:Nat→Int} {T x:Int} {D:Rat} {e r:Nat→Rat} (hD:0<D) (he:0≤e 0) (hr:∀k,0≤r k) (es:∀k,e (k+1)=e k*r k) (hx:(x:Rat)=e 0*D)
    (hd:∀k,0<d (k+1)) (hT:∀k,(T:Rat)=r k*(d (k+1):Rat)) (rh:∀k,r (k+1)≤1/2):Row D e r (fun k=>((rA d T x k:Int):Rat)) (fun k=>((rB d T x k:Int):Rat)) where
  d0:=hD
  e0:=he
  r0:=hr
  es:=es
  a0:=hx
  b0:=hx
  rh:=rh
  al k:=(fl_r (x:=rA d T x k) (hd k) (hT k)).1
  ag k:=(fl_r (x:=rA d T x k) (hd k) (hT k)).2
  bg k:=(up_r (x:=rB d T x k) (hd k) (hT k)).1
  bl k:=(up_r (x:=rB d T x k) (hd k) (hT k)).2
theorem jgy (a:Nat→Int):∀n,((su a n:Int):Rat)=sumR (fun k=>((a k:Int):Rat)) n
  | 0=>rfl
  | n+1=>by
    show ((su a n+a n:Int):Rat)=_
    rw [Rat.intCast_add,jgy a n];rfl
theorem jd2 (a b:Nat→Int):∀n,((tu a b n:Int):Rat)=altR (fun k=>((a k:Int):Rat)) (fun k=>((b k:Int):Rat)) n
  | 0=>rfl
  | n+1=>by
    show ((if n%2=1 then tu a b n - b n else tu a b n+a n:Int):Rat)=if n%2=1 then _ else _
    split
    · rw [Rat.intCast_sub,jd2 a b n]
    · rw [Rat.intCast_add,jd2 a b n]
theorem jnm (x:Int):((up2 x:Int):Rat)=2*(x:Rat):=by
  unfold up2;rw [show (2:Int)^(1:Int).toNat=2 from rfl,Rat.intCast_mul]
  show (x:Rat)*2=_
  grind
section
variable {t q:Int} {x:Rat}
theorem jyo (hx:(t:Rat)=x*DD q) (h0:0≤x) (h1:x≤1):Row (DD q) (fun k=>tE k x) (fun k=>x*((k+1:Nat):Rat)⁻¹) (fun k=>((rA (dExp q) t (1*2^q.toNat) k:Int):Rat)) (fun k=>((rB (dExp q) t (1*2^q.toNat) k:Int):Rat)):=by
  have e0:tE 0 x=1:=by show (1:Rat)*x^0=1;rw [Rat.pow_zero];grind
  refine jnl (DD_pos q) (by rw [e0];grind) (fun k=>Rat.mul_nonneg h0 (Rat.le_of_lt (inv_pos k))) (fun k=>jgw x k) ?_ (fun k=>?_) (fun k=>?_) (fun k=>?_)
  · rw [e0,Int.one_mul];unfold DD;grind
  · unfold dExp;exact Int.mul_pos (by omega) (Int.pow_pos (by omega))
  · unfold dExp
    rw [hx,Rat.intCast_mul,Rat.intCast_natCast];have:=jbh k
    show x*DD q=x*_*(_*DD q)
    grind
  · have i:=jbh (k+1)
    have p:=inv_pos (k+1)
    have:(2:Rat)≤((k+1+1:Nat):Rat):=by
      have:((2:Nat):Rat)≤((k+1+1:Nat):Rat):=Rat.natCast_le_natCast.2 (by omega);exact this
    have m:=Rat.mul_le_mul_of_nonneg_right this (Rat.le_of_lt p);have m2:=Rat.mul_le_mul_of_nonneg_right h1 (Rat.le_of_lt p)
    grind
theorem jyp {k:Nat} (h0:0≤x) (h1:x≤1):tE k x≤fE k:=by
  unfold tE;have p:=(jd1 (show Bd 1 x by unfold Bd;grind) k).2;rw [jgu] at p;have:=Rat.mul_le_mul_of_nonneg_left p (Rat.le_of_lt (jf4 k))
  grind
theorem juw (hx:(t:Rat)=x*DD q) (h0:0≤x) (h1:x≤1) {n:Nat} (hn:1≤n) {m:Nat} (hm:n≤m) :
    ((expLo t q n:Int):Rat)≤En m x*DD q∧En m x*DD q≤((expHi t q n:Int):Rat)∧((expHi t q n:Int):Rat)≤En m x*DD q+(4*n+8+2*(fE n*DD q))∧En m x*DD q≤((expLo t q n:Int):Rat)+(4*n+8+2*(fE n*DD q)):=by
  have R:=jyo hx h0 h1;obtain ⟨r1,r2,r3,r4⟩:=jke R.d0 (c:=4) (by grind) R.nonneg R.lo R.hi (fun k=>by have:=R.wide k;grind) (fun k hk=>R.fall (Nat.le_trans hn hk)) hm;have t1:=Rat.mul_le_mul_of_nonneg_right (jyp (k:=n) h0 h1) (Rat.le_of_lt R.d0);unfold expLo expHi;rw [Rat.intCast_add,jnm,jgy,jgy,jyl];refine ⟨r1,r2,by grind,by grind⟩
end
section
variable {t q:Int} {x:Rat}
theorem jqw (hq:0≤q) (hx:(t:Rat)=x*DD q) (h0:0≤x) (h1:x≤1/2):Row (DD q) (fun k=>tO k x) (fun _=>x*x) (fun k=>((rA (dPow q) (t*t) t k:Int):Rat)) (fun k=>((rB (dPow q) (t*t) t k:Int):Rat)):=by
  have e0:tO 0 x=x:=Rat.pow_one x;have qh:=jc0 h0 h1;refine jnl (DD_pos q) (by rw [e0];exact h0) (fun k=>qh.1) (fun k=>?_) (by rw [e0];exact hx) (fun k=>?_) (fun k=>?_) (fun k=>by grind)
  · show x^(2*k+1+1+1)=x^(2*k+1)*(x*x)
    rw [pow_succ',pow_succ' x (2*k+1)];grind
  · unfold dPow;exact Int.mul_pos (by omega) (Int.pow_pos (by omega))
  · unfold dPow
    rw [Int.one_mul,jqv hq,Rat.intCast_mul,hx];grind
theorem jkf {e a b:Nat→Rat} {A B:Nat→Int} {D:Rat} (ha:∀k,((A k:Int):Rat)=a k) (hb:∀k,((B k:Int):Rat)=b k) (h0:∀k,0≤e k) (hD:0<D) (hl:∀k,a k≤e k*D) (hu:∀k,e k*D≤b k) (hw:∀k,b k≤a k+4) :
    (∀k,0≤oR e k)∧(∀k,((oA A k:Int):Rat)≤oR e k*D)∧(∀k,oR e k*D≤((oB B k:Int):Rat))∧(∀k,((oB B k:Int):Rat)≤((oA A k:Int):Rat)+6):=by
  have key:∀k:Nat,0<(2*(k:Int)+1)*2^(0:Int).toNat∧((1:Int):Rat)=((2*k+1:Nat):Rat)⁻¹*(((2*(k:Int)+1)*2^(0:Int).toNat:Int):Rat):=fun k=>by
    rw [show (2:Int)^(0:Int).toNat=1 from rfl,Int.mul_one];refine ⟨by omega,?_⟩;rw [show (2*(k:Int)+1)=((2*k+1:Nat):Int) by omega,Rat.intCast_natCast];have:=jbh (2*k)
    show (1:Rat)=_
    grind
  have ip:=fun k:Nat=>inv_pos (2*k)
  have il:∀k:Nat,((2*k+1:Nat):Rat)⁻¹≤1:=fun k=>by
    have i:=jbh (2*k);have:((1:Nat):Rat)≤((2*k+1:Nat):Rat):=Rat.natCast_le_natCast.2 (by omega);have m:=Rat.mul_le_mul_of_nonneg_right this (Rat.le_of_lt (ip k));have:((1:Nat):Rat)=1:=rfl
    grind
  refine ⟨fun k=>Rat.mul_nonneg (h0 k) (Rat.le_of_lt (ip k)),fun k=>?_,fun k=>?_,fun k=>?_⟩
  · have f:=(fl_r (x:=A k) (key k).1 (key k).2).1
    rw [ha] at f;have:=Rat.mul_le_mul_of_nonneg_right (hl k) (Rat.le_of_lt (ip k));unfold oA oR;grind
  · have f:=(up_r (x:=B k) (key k).1 (key k).2).1
    rw [hb] at f;have:=Rat.mul_le_mul_of_nonneg_right (hu k) (Rat.le_of_lt (ip k));unfold oB oR;grind
  · have f:=(up_r (x:=B k) (key k).1 (key k).2).2
    have g:=(fl_r (x:=A k) (key k).1 (key k).2).2;rw [hb] at f;rw [ha] at g;have:=Rat.mul_le_mul_of_nonneg_right (hw k) (Rat.le_of_lt (ip k));have:=il k;unfold oB oA;grind
theorem jgz {e:Nat→Rat} (h0:∀k,0≤e k) {n:Nat} (h:∀k,n≤k→2*e (k+1)≤e k) (k:Nat) (hk:n≤k):2*oR e (k+1)≤oR e k:=by
  have p:=h k hk;have i1:=jbh (2*k);have i2:=jbh (2*(k+1));have p1:=inv_pos (2*k);have p2:=inv_pos (2*(k+1))
  have le:((2*(k+1)+1:Nat):Rat)⁻¹≤((2*k+1:Nat):Rat)⁻¹:=by
    have c:((2*k+1:Nat):Rat)≤((2*(k+1)+1:Nat):Rat):=Rat.natCast_le_natCast.2 (by omega);have m:=Rat.mul_le_mul_of_nonneg_right (Rat.mul_le_mul_of_nonneg_right c (Rat.le_of_lt p1)) (Rat.le_of_lt p2)
    generalize ((2*k+1:Nat):Rat)=u at *
    generalize ((2*(k+1)+1:Nat):Rat)=v at *
    have e1:v*u⁻¹*v⁻¹=u⁻¹*(v*v⁻¹):=by grind
    rw [e1,i1,i2] at m
    grind
  unfold oR;have m1:=Rat.mul_le_mul_of_nonneg_right p (Rat.le_of_lt p2);have m2:=Rat.mul_le_mul_of_nonneg_left le (h0 k)
  grind
theorem j1h {e:Nat→Rat} (h0:∀k,0≤e k) (k:Nat):oR e k≤e k:=by
  have i:=jbh (2*k);have p:=inv_pos (2*k);have:((1:Nat):Rat)≤((2*k+1:Nat):Rat):=Rat.natCast_le_natCast.2 (by omega);have m:=Rat.mul_le_mul_of_nonneg_right this (Rat.le_of_lt p);have:((1:Nat):Rat)=1:=rfl;have m2:=Rat.mul_le_mul_of_nonneg_left (show ((2*k+1:Nat):Rat)⁻¹≤1 by grind) (h0 k);unfold oR;grind
theorem jg0 (h0:0≤x) (h1:x≤1/2) (k:Nat):0≤tO k x∧2*tO (k+1) x≤tO k x:=by
  have q:=jc0 h0 h1;have p:0≤x^(2*k+1):=Rat.pow_nonneg h0;unfold tO
  have e:x^(2*(k+1)+1)=x^(2*k+1)*(x*x):=by
    rw [show 2*(k+1)+1=2*k+1+1+1 by omega,pow_succ' x (2*k+1+1),pow_succ' x (2*k+1)];grind
  rw [e];have:=Rat.mul_le_mul_of_nonneg_left (show x*x≤1/2 by grind) p;refine ⟨p,by grind⟩
theorem jpy (hq:0≤q) (hx:(t:Rat)=x*DD q) (h0:0≤x) (h1:x≤1/2) {n m:Nat} (hm:n≤m) :
    ((atanhLo t q n:Int):Rat)≤Hn m x*DD q∧Hn m x*DD q≤((atanhHi t q n:Int):Rat)∧((atanhHi t q n:Int):Rat)≤Hn m x*DD q+(6*n+12+2*(tO n x*DD q))∧Hn m x*DD q≤((atanhLo t q n:Int):Rat)+(6*n+12+2*(tO n x*DD q)):=by
  have R:=jqw hq hx h0 h1;obtain ⟨o1,o2,o3,o4⟩:=jkf (A:=rA (dPow q) (t*t) t) (B:=rB (dPow q) (t*t) t) (fun _=>rfl) (fun _=>rfl) R.nonneg R.d0 R.lo R.hi (fun k=>by have:=R.wide k;grind);obtain ⟨r1,r2,r3,r4⟩:=jke R.d0 (c:=6) (by grind) o1 o2 o3 o4 (fun k hk=>jgz R.nonneg (n:=0) (fun k _=>(jg0 h0 h1 k).2) k (Nat.zero_le _)) hm;have t1:=Rat.mul_le_mul_of_nonneg_right (j1h R.nonneg n) (Rat.le_of_lt R.d0);unfold atanhLo atanhHi;rw [Rat.intCast_add,jnm,jgy,jgy,jym];refine ⟨r1,r2,by grind,by grind⟩
theorem jqx (hq:0≤q) (hx:(t:Rat)=x*DD q) (h0:0≤x) (h1:x≤1/2) {n m:Nat} (hm:2*n≤m) :
    ((atanLo t q n:Int):Rat)≤Tn m x*DD q∧Tn m x*DD q≤((atanHi t q n:Int):Rat)∧((atanHi t q n:Int):Rat)≤Tn m x*DD q+(12*n+12+2*(tO (2*n) x*DD q))∧Tn m x*DD q≤((atanLo t q n:Int):Rat)+(12*n+12+2*(tO (2*n) x*DD q)):=by
  have R:=jqw hq hx h0 h1;obtain ⟨o1,o2,o3,o4⟩:=jkf (A:=rA (dPow q) (t*t) t) (B:=rB (dPow q) (t*t) t) (fun _=>rfl) (fun _=>rfl) R.nonneg R.d0 R.lo R.hi (fun k=>by have:=R.wide k;grind)
  obtain ⟨r1,r2,r3,r4⟩:=jgv R.d0 (c:=6) (by grind) o1 o2 o3 o4 (fun k hk=>by
    have:=jgz R.nonneg (n:=0) (fun k _=>(jg0 h0 h1 k).2) k (Nat.zero_le _);have:=o1 (k+1)
    grind) hm
  have t1:=Rat.mul_le_mul_of_nonneg_right (j1h R.nonneg (2*n)) (Rat.le_of_lt R.d0);have t2:=Rat.mul_nonneg (R.nonneg (2*n)) (Rat.le_of_lt R.d0);have cn:((2*n:Nat):Rat)=2*(n:Rat):=Rat.natCast_mul 2 n;rw [cn] at r3 r4;unfold atanLo atanHi;rw [Rat.intCast_add,jd2,jd2,jyn];refine ⟨r1,r2,by grind,by grind⟩
end
section
variable {t q:Int} {x:Rat}
theorem jyq (k:Nat):tS (k+1) x=tS k x*(x*x*(((2*k+1+1:Nat):Rat)⁻¹*((2*k+2+1:Nat):Rat)⁻¹)):=by
  unfold tS;rw [show 2*(k+1)+1=2*k+1+1+1 by omega,jgw,jgw];grind
theorem jyr (k:Nat):tC (k+1) x=tC k x*(x*x*(((2*k+1:Nat):Rat)⁻¹*((2*k+1+1:Nat):Rat)⁻¹)):=by
  unfold tC;rw [show 2*(k+1)=2*k+1+1 by omega,jgw,jgw];grind
theorem jqy {a b c:Nat} (h:c≤(a+1)*(b+1)):(c:Rat)*(((a+1:Nat):Rat)⁻¹*((b+1:Nat):Rat)⁻¹)≤1:=by
  have i1:=jbh a;have i2:=jbh b;have p:=Rat.mul_pos (inv_pos a) (inv_pos b);have c1:((c:Nat):Rat)≤(((a+1)*(b+1):Nat):Rat):=Rat.natCast_le_natCast.2 h;rw [Rat.natCast_mul] at c1;have m:=Rat.mul_le_mul_of_nonneg_right c1 (Rat.le_of_lt p)
  generalize ((a+1:Nat):Rat)=u at *
  generalize ((b+1:Nat):Rat)=v at *
  have e:u*v*(u⁻¹*v⁻¹)=(u*u⁻¹)*(v*v⁻¹):=by grind
  rw [e,i1,i2] at m
  grind
theorem jqz (h0:0≤x) (h1:x≤2):0≤x*x∧x*x≤4:=by
  have:=jcf h0 h1 h0 h1;have:=Rat.mul_nonneg h0 h0
  grind
theorem jdf (a b:Nat):0≤((a+1:Nat):Rat)⁻¹*((b+1:Nat):Rat)⁻¹:=Rat.le_of_lt (Rat.mul_pos (inv_pos a) (inv_pos b))
theorem jys (hq:0≤q) (hx:(t:Rat)=x*DD q) (h0:0≤x) (h1:x≤2):Row (DD q) (fun k=>tS k x) (fun k=>x*x*(((2*k+1+1:Nat):Rat)⁻¹*((2*k+2+1:Nat):Rat)⁻¹)) (fun k=>((rA (dSin q) (t*t) t k:Int):Rat)) (fun k=>((rB (dSin q) (t*t) t k:Int):Rat)):=by
  have e0:tS 0 x=x:=by
    show (1:Rat)*((0+1:Nat):Rat)⁻¹*x^1=x
    have:=jbh 0;have:((0+1:Nat):Rat)=1:=rfl;rw [Rat.pow_one];grind
  have qh:=jqz h0 h1;refine jnl (DD_pos q) (by rw [e0];exact h0) (fun k=>Rat.mul_nonneg qh.1 (jdf _ _)) (fun k=>jyq k) (by rw [e0];exact hx) (fun k=>?_) (fun k=>?_) (fun k=>?_)
  · unfold dSin;exact Int.mul_pos (Int.mul_pos (by omega) (by omega)) (Int.pow_pos (by omega))
  · unfold dSin
    rw [Rat.intCast_mul (_*_) ((2:Int)^_),jqv hq,Rat.intCast_mul,hx,show (2*((k+1:Nat):Int)*(2*((k+1:Nat):Int)+1))=((2*k+1+1:Nat):Int)*((2*k+2+1:Nat):Int) by congr 1 <;> omega,Rat.intCast_mul,Rat.intCast_natCast,Rat.intCast_natCast];have i1:=jbh (2*k+1);have i2:=jbh (2*k+2)
    generalize ((2*k+1+1:Nat):Rat)=u at *
    generalize ((2*k+2+1:Nat):Rat)=v at *
    have e:x*x*(u⁻¹*v⁻¹)*(u*v*(DD q*DD q))=x*x*(DD q*DD q)*(u*u⁻¹)*(v*v⁻¹):=by grind
    rw [e,i1,i2];grind
  · have:=jqy (a:=2*(k+1)+1) (b:=2*(k+1)+2) (c:=8) (Nat.le_trans (by decide:8≤(2*(0+1)+1+1)*(2*(0+1)+2+1)) (Nat.mul_le_mul (by omega) (by omega)))
    have m:=Rat.mul_le_mul_of_nonneg_right qh.2 (jdf (2*(k+1)+1) (2*(k+1)+2));have c:((8:Nat):Rat)=8:=rfl;rw [c] at this
    grind
theorem jyt (hq:0≤q) (hx:(t:Rat)=x*DD q) (h0:0≤x) (h1:x≤2):Row (DD q) (fun k=>tC k x) (fun k=>x*x*(((2*k+1:Nat):Rat)⁻¹*((2*k+1+1:Nat):Rat)⁻¹)) (fun k=>((rA (dCos q) (t*t) (1*2^q.toNat) k:Int):Rat)) (fun k=>((rB (dCos q) (t*t) (1*2^q.toNat) k:Int):Rat)):=by
  have e0:tC 0 x=1:=by show (1:Rat)*x^0=1;rw [Rat.pow_zero];grind
  have qh:=jqz h0 h1;refine jnl (DD_pos q) (by rw [e0];grind) (fun k=>Rat.mul_nonneg qh.1 (jdf _ _)) (fun k=>jyr k) (by rw [e0,Int.one_mul];unfold DD;grind) (fun k=>?_) (fun k=>?_) (fun k=>?_)
  · unfold dCos;exact Int.mul_pos (Int.mul_pos (by omega) (by omega)) (Int.pow_pos (by omega))
  · unfold dCos
    rw [Rat.intCast_mul (_*_) ((2:Int)^_),jqv hq,Rat.intCast_mul,hx,show ((2*((k+1:Nat):Int) - 1)*2*((k+1:Nat):Int))=((2*k+1:Nat):Int)*((2*k+1+1:Nat):Int) by rw [Int.mul_assoc];congr 1 <;> omega,Rat.intCast_mul,Rat.intCast_natCast,Rat.intCast_natCast];have i1:=jbh (2*k);have i2:=jbh (2*k+1)
    generalize ((2*k+1:Nat):Rat)=u at *
    generalize ((2*k+1+1:Nat):Rat)=v at *
    have e:x*x*(u⁻¹*v⁻¹)*(u*v*(DD q*DD q))=x*x*(DD q*DD q)*(u*u⁻¹)*(v*v⁻¹):=by grind
    rw [e,i1,i2];grind
  · have:=jqy (a:=2*(k+1)) (b:=2*(k+1)+1) (c:=8) (Nat.le_trans (by decide:8≤(2*(0+1)+1)*(2*(0+1)+1+1)) (Nat.mul_le_mul (by omega) (by omega)))
    have m:=Rat.mul_le_mul_of_nonneg_right qh.2 (jdf (2*(k+1)) (2*(k+1)+1));have c:((8:Nat):Rat)=8:=rfl;rw [c] at this
    grind
theorem jux (hq:0≤q) (hx:(t:Rat)=x*DD q) (h0:0≤x) (h1:x≤2) {n:Nat} (hn:1≤n) {m:Nat} (hm:4*n+1≤m) :
    ((sinLo t q n:Int):Rat)≤Sn m x*DD q∧Sn m x*DD q≤((sinHi t q n:Int):Rat)∧((sinHi t q n:Int):Rat)≤Sn m x*DD q+(8*n+4+tS (2*n) x*DD q)∧Sn m x*DD q≤((sinLo t q n:Int):Rat)+(8*n+4+tS (2*n) x*DD q):=by
  have R:=jys hq hx h0 h1;obtain ⟨j,hj,ej⟩:=j34 x m
  obtain ⟨r1,r2,r3,r4⟩:=jgv R.d0 (c:=4) (by grind) R.nonneg R.lo R.hi (fun k=>by have:=R.wide k;grind) (fun k hk=>by
    have:=R.fall (k:=k) (by omega);have:=R.nonneg (k+1)
    grind) (n:=n) (m:=j) (by omega)
  have cn:((2*n:Nat):Rat)=2*(n:Rat):=Rat.natCast_mul 2 n;rw [cn] at r3 r4;unfold sinLo sinHi;rw [Rat.intCast_add,jd2,jd2,ej];refine ⟨r1,r2,by grind,by grind⟩
theorem juy (hq:0≤q) (hx:(t:Rat)=x*DD q) (h0:0≤x) (h1:x≤2) {n:Nat} (hn:1≤n) {m:Nat} (hm:4*n+1≤m) :
    ((cosLo t q n:Int):Rat)≤Cn m x*DD q∧Cn m x*DD q≤((cosHi t q n:Int):Rat)∧((cosHi t q n:Int):Rat)≤Cn m x*DD q+(8*n+4+tC (2*n) x*DD q)∧Cn m x*DD q≤((cosLo t q n:Int):Rat)+(8*n+4+tC (2*n) x*DD q):=by
  have R:=jyt hq hx h0 h1;obtain ⟨j,hj,ej⟩:=j35 x m
  obtain ⟨r1,r2,r3,r4⟩:=jgv R.d0 (c:=4) (by grind) R.nonneg R.lo R.hi (fun k=>by have:=R.wide k;grind) (fun k hk=>by
    have:=R.fall (k:=k) (by omega);have:=R.nonneg (k+1)
    grind) (n:=n) (m:=j) (by omega)
  have cn:((2*n:Nat):Rat)=2*(n:Rat):=Rat.natCast_mul 2 n;rw [cn] at r3 r4;unfold cosLo cosHi;rw [Rat.intCast_add,jd2,jd2,ej];refine ⟨r1,r2,by grind,by grind⟩
end
theorem jdy (q:Int):DD q=(2:Rat)^q.toNat:=by unfold DD;rw [Rat.intCast_pow];rfl
theorem pow_add (x:Rat) (m:Nat):∀n:Nat,x^(m+n)=x^m*x^n
  | 0=>by rw [Nat.add_zero,Rat.pow_zero];grind
  | n+1=>by rw [←Nat.add_assoc,pow_succ',pow_add x m n,pow_succ'];grind
theorem pow_mul (x:Rat) (m:Nat):∀n:Nat,x^(m*n)=(x^m)^n
  | 0=>by rw [Nat.mul_zero,Rat.pow_zero,Rat.pow_zero]
  | n+1=>by rw [Nat.mul_succ,pow_add,pow_mul x m n,pow_succ']
theorem jmc (x y:Rat):∀n:Nat,(x*y)^n=x^n*y^n
  | 0=>by rw [Rat.pow_zero,Rat.pow_zero,Rat.pow_zero];grind
  | n+1=>by rw [pow_succ',pow_succ',pow_succ',jmc x y n];grind
theorem jq0 {m n:Nat} (h:m≤n):(2:Rat)^m≤2^n:=by
  obtain ⟨j,rfl⟩:=Nat.exists_eq_add_of_le h;rw [pow_add];have h1:(0:Rat)≤2^m:=Rat.pow_nonneg (by grind);have h2:=exp_red.one_le_two_pow j;have:=Rat.mul_le_mul_of_nonneg_left h2 h1
  grind
theorem jq1 {a b:Rat} (h0:0≤a) (h:a≤b) (n:Nat):a^n≤b^n:=(jd1 (show Bd b a by unfold Bd;grind) n).2
theorem jmd {c:Rat} {n0:Nat} (hc:0≤c) (hn:c≤((n0+1:Nat):Rat)):∀j,fE (n0+j)*c^(n0+j)≤fE n0*c^n0
  | 0=>by rw [Nat.add_zero];exact Rat.le_refl
  | j+1=>by
    have ih:=jmd hc hn j;have e:=jqp (n0+j) c;have p:=jbp hc (n0+j);have p1:=jbp hc (n0+j+1);have cl:((n0+1:Nat):Rat)≤((n0+j+1:Nat):Rat):=Rat.natCast_le_natCast.2 (by omega);have hp:(0:Rat)<((n0+j+1:Nat):Rat):=Rat.natCast_pos.2 (by omega);have m:=Rat.mul_le_mul_of_nonneg_left (Rat.le_trans hn cl) p;rw [←e] at m;have:=Rat.le_of_mul_le_mul_right m hp
    show tE (n0+j+1) c≤_
    exact Rat.le_trans this ih
theorem fac16 {n:Nat} (hn:16≤n):fE n*16^(n - 9)≤1:=by
  obtain ⟨j,rfl⟩:=Nat.exists_eq_add_of_le hn;have h:=jmd (c:=16) (n0:=16) (by grind) (show (16:Rat)≤((17:Nat):Rat) from by rw [show ((17:Nat):Rat)=17 from rfl];decide +kernel) j;have e:(16:Rat)^(16+j)=16^(16+j - 9)*16^9:=by rw [←pow_add];congr 1;omega
  have b:fE 16*16^16≤16^9:=by decide +kernel
  have p:(0:Rat)<16^9:=Rat.pow_pos (by grind);refine Rat.le_of_mul_le_mul_right (c:=(16:Rat)^9) ?_ p;rw [e] at h
  generalize (16:Rat)^(16+j - 9)=u at *
  generalize (16:Rat)^9=v at *
  grind
theorem fac8 {n:Nat} (hn:20≤n):fE n*8^n≤1:=by
  obtain ⟨j,rfl⟩:=Nat.exists_eq_add_of_le hn;have h:=jmd (c:=8) (n0:=20) (by grind) (show (8:Rat)≤((21:Nat):Rat) from by rw [show ((21:Nat):Rat)=21 from rfl];decide +kernel) j;have b:fE 20*8^20≤1:=by decide +kernel
  exact Rat.le_trans h b
theorem jpz {w:Int} (h0:24≤w):fE (w / 4+10).toNat*DD w≤1:=by
  have h:=fac16 (n:=(w / 4+10).toNat) (by omega);have p:=Rat.le_of_lt (jf4 (w / 4+10).toNat);have e:(16:Rat)^((w / 4+10).toNat - 9)=2^(4*((w / 4+10).toNat - 9)):=by rw [pow_mul];congr 1
  rw [e] at h;rw [jdy];have:=Rat.mul_le_mul_of_nonneg_left (jq0 (m:=w.toNat) (n:=4*((w / 4+10).toNat - 9)) (by omega)) p
  grind
theorem jg1 {w:Int} {x:Rat} {m:Nat} (h0:0≤x) (h1:x≤2) (hm:20≤m) (hw:w.toNat≤2*m):tE m x*DD w≤1:=by
  have h:=fac8 hm;have p:=Rat.le_of_lt (jf4 m);have e:(8:Rat)^m=2^m*2^(2*m):=by rw [pow_mul,←jmc];congr 1;decide +kernel
  have d:=DD_pos w;have a:=Rat.mul_le_mul_of_nonneg_left (jq1 h0 h1 m) p;have a2:=Rat.mul_le_mul_of_nonneg_right a (Rat.le_of_lt d);have z:(0:Rat)≤fE m*2^m:=Rat.mul_nonneg p (Rat.pow_nonneg (by grind));have b:=Rat.mul_le_mul_of_nonneg_left (jq0 hw) z;rw [←jdy] at b;rw [e] at h;unfold tE
  generalize (2:Rat)^m=u at *
  generalize (2:Rat)^(2*m)=v at *
  grind
theorem jid {w:Int} {x:Rat} {n j i:Nat} (h0:0≤x) (h1:x≤1/2) (hx:(x*x)^j≤(1/2)^i) (hw:w.toNat≤i*n):tO (j*n) x*DD w≤1:=by
  have q:=jc0 h0 h1;have d:=DD_pos w;have e:x^(2*(j*n)+1)=((x*x)^j)^n*x:=by rw [pow_succ',jgb,pow_mul]
  have a:=jq1 (Rat.pow_nonneg q.1) hx n;have z:(0:Rat)≤((1:Rat)/2)^(i*n):=Rat.pow_nonneg (by grind);rw [←pow_mul ((1:Rat)/2)] at a;have b:=Rat.mul_le_mul_of_nonneg_left (jq0 hw) z;rw [←jdy,←jmc,show (1:Rat) / 2*2=1 by grind,jgu] at b;have a0:0≤((x*x)^j)^n:=Rat.pow_nonneg (Rat.pow_nonneg q.1);unfold tO;rw [e]
  generalize ((x*x)^j)^n=u at *
  generalize ((1:Rat)/2)^(i*n)=v at *
  have m1:=Rat.mul_le_mul_of_nonneg_right a (Rat.le_of_lt d);have m2:=Rat.mul_le_mul_of_nonneg_left h1 (Rat.mul_nonneg a0 (Rat.le_of_lt d));have m3:=Rat.mul_nonneg a0 (Rat.le_of_lt d)
  grind
theorem jbz {a b:Nat} (h:a≤b):(a:Rat)≤(b:Rat):=Rat.natCast_le_natCast.2 h
def Near (c:Rat) (lo hi:Int) (v:Rat):Prop:=(lo:Rat)≤v∧v≤(hi:Rat)∧(hi:Rat)≤v+c∧v≤(lo:Rat)+c
section
variable {t w:Int} {x:Rat}
theorem jnn (hx:(t:Rat)=x*DD w) (h0:0≤x) (h1:x≤1) (w0:24≤w) (w1:w≤1000) {m:Nat} (hm:(w / 4+10).toNat≤m):Near 2048 (expLo t w (w / 4+10).toNat) (expHi t w (w / 4+10).toNat) (En m x*DD w):=by
  obtain ⟨r1,r2,r3,r4⟩:=juw hx h0 h1 (show 1≤(w / 4+10).toNat by omega) hm;have e:=jpz w0;have c:(((w / 4+10).toNat:Nat):Rat)≤((260:Nat):Rat):=jbz (by omega);rw [show ((260:Nat):Rat)=260 from rfl] at c;refine ⟨r1,r2,by grind,by grind⟩
theorem jek (hx:(t:Rat)=x*DD w) (h0:0≤x) (h1:x*x≤1/8) (h2:x≤1/2) (w0:0≤w) (w1:w≤1000) {m:Nat} (hm:(w / 3+2).toNat≤m):Near 2048 (atanhLo t w (w / 3+2).toNat) (atanhHi t w (w / 3+2).toNat) (Hn m x*DD w):=by
  obtain ⟨r1,r2,r3,r4⟩:=jpy w0 hx h0 h2 hm
  have e:=jid (w:=w) (j:=1) (i:=3) (n:=(w / 3+2).toNat) h0 h2 (by
    rw [Rat.pow_one];have:((1:Rat)/2)^3=1/8:=by decide +kernel
    rw [this];exact h1) (by omega)
  rw [Nat.one_mul] at e;have c:(((w / 3+2).toNat:Nat):Rat)≤((336:Nat):Rat):=jbz (by omega);rw [show ((336:Nat):Rat)=336 from rfl] at c;refine ⟨r1,r2,by grind,by grind⟩
theorem jkg (hx:(t:Rat)=x*DD w) (h0:0≤x) (h1:x*x≤1/23) (h2:x≤1/2) (w0:0≤w) (w1:w≤1000) {m:Nat} (hm:2*(w / 9+2).toNat≤m):Near 2048 (atanLo t w (w / 9+2).toNat) (atanHi t w (w / 9+2).toNat) (Tn m x*DD w):=by
  obtain ⟨r1,r2,r3,r4⟩:=jqx w0 hx h0 h2 hm
  have e:=jid (w:=w) (j:=2) (i:=9) (n:=(w / 9+2).toNat) h0 h2 (by
    have a:=jq1 (jc0 h0 h2).1 h1 2;have b:((1:Rat)/23)^2≤(1/2)^9:=by decide +kernel
    exact Rat.le_trans a b) (by omega)
  have c:(((w / 9+2).toNat:Nat):Rat)≤((114:Nat):Rat):=jbz (by omega);rw [show ((114:Nat):Rat)=114 from rfl] at c;refine ⟨r1,r2,by grind,by grind⟩
theorem juz (hx:(t:Rat)=x*DD w) (h0:0≤x) (h1:x≤2) (w0:0≤w) (w1:w≤1000) {m:Nat} (hm:4*(w / 8+6).toNat+1≤m):Near 2048 (sinLo t w (w / 8+6).toNat) (sinHi t w (w / 8+6).toNat) (Sn m x*DD w):=by
  obtain ⟨r1,r2,r3,r4⟩:=jux w0 hx h0 h1 (show 1≤(w / 8+6).toNat by omega) hm;have e:tS (2*(w / 8+6).toNat) x*DD w≤1:=jg1 h0 h1 (by omega) (by omega);have c:(((w / 8+6).toNat:Nat):Rat)≤((131:Nat):Rat):=jbz (by omega);rw [show ((131:Nat):Rat)=131 from rfl] at c;refine ⟨r1,r2,by grind,by grind⟩
theorem ju0 (hx:(t:Rat)=x*DD w) (h0:0≤x) (h1:x≤2) (w0:0≤w) (w1:w≤1000) {m:Nat} (hm:4*(w / 8+6).toNat+1≤m):Near 2048 (cosLo t w (w / 8+6).toNat) (cosHi t w (w / 8+6).toNat) (Cn m x*DD w):=by
  obtain ⟨r1,r2,r3,r4⟩:=juy w0 hx h0 h1 (show 1≤(w / 8+6).toNat by omega) hm;have e:tC (2*(w / 8+6).toNat) x*DD w≤1:=jg1 h0 h1 (by omega) (by omega);have c:(((w / 8+6).toNat:Nat):Rat)≤((131:Nat):Rat):=jbz (by omega);rw [show ((131:Nat):Rat)=131 from rfl] at c;refine ⟨r1,r2,by grind,by grind⟩
end
theorem jno {x y:Rat} (h0:0≤x) (h:x≤y) (h1:y≤1/2) (n:Nat):Hn n x≤Hn n y∧Hn n y≤Hn n x+4/3*(y - x):=by
  have r:=(jqr n).rise (m:=0) h (fun z a b=>(G_bd (Rat.le_trans h0 a) (Rat.le_trans b h1) n).1);have f:=(jqr n).fall (m:=4/3) h (fun z a b=>(G_bd (Rat.le_trans h0 a) (Rat.le_trans b h1) n).2)
  grind
theorem jws {x y:Rat} (h0:0≤x) (h:x≤y) (h1:y≤1/2) (n:Nat):Tn n x≤Tn n y∧Tn n y≤Tn n x+2*(y - x):=by
  have r:=(jpv n).rise (m:=0) h (fun z a b=>(Q_bd (Rat.le_trans h0 a) (Rat.le_trans b h1) n).1);have f:=(jpv n).fall (m:=2) h (fun z a b=>(Q_bd (Rat.le_trans h0 a) (Rat.le_trans b h1) n).2)
  grind
theorem jwt {e:Nat→Rat} (h:∀k,0≤e k):∀n,0≤sumR e n
  | 0=>Rat.le_refl
  | n+1=>Rat.add_nonneg (jwt h n) (h n)
theorem jnp {x y:Rat} (h0:0≤x) (h:x≤y) (n:Nat):En n x≤En n y:=by
  rcases n with _ | n
  · exact Rat.le_refl
  · have r:=(jps n).rise (m:=0) h (fun z a b=>by
      rw [jyl];exact jwt (fun k=>jbp (Rat.le_trans h0 a) k) n)
    grind
theorem Near.cast {c c' u:Rat} {lo hi P:Int} (hP:0<P) (h:Near c lo hi (u*(P:Rat))) (hc:c≤(P:Rat)*c'):Near (c'+1) (lo / P) (0 - (0 - hi) / P) u:=by
  obtain ⟨h1,h2,h3,h4⟩:=h;have p:(0:Rat)<(P:Rat):=Rat.intCast_pos.2 hP;obtain ⟨f1,f2⟩:=fl (n:=lo) hP;obtain ⟨g1,g2⟩:=fl (n:=0 - hi) hP;rw [show (((0 - hi:Int)):Rat) = -(hi:Rat) by rw [Rat.intCast_sub];show (0:Rat) - _=_;grind] at g1 g2;have e:(((0 - (0 - hi) / P:Int)):Rat) = -(((0 - hi) / P:Int):Rat):=by rw [Rat.intCast_sub];show (0:Rat) - _=_;grind
  unfold Near;rw [e]
  generalize (((0 - hi) / P:Int):Rat)=b at *
  generalize ((lo / P:Int):Rat)=a at *
  refine ⟨?_,?_,?_,?_⟩ <;> refine Rat.le_of_mul_le_mul_right (c:=(P:Rat)) ?_ p <;> grind
theorem Near.mono {c c' u:Rat} {lo hi:Int} (h:Near c lo hi u) (k:c≤c'):Near c' lo hi u:=by unfold Near at *;grind
theorem Near.ends {c c' u v w:Rat} {lo hi a b:Int} (h:Near c lo a u) (g:Near c b hi v) (k1:u≤w) (k2:w≤v) (k3:w≤u+c') (k4:v≤w+c'):Near (c+c') lo hi w:=by unfold Near at *;grind
theorem jnq {a b:Int} (ha:0≤a) (hb:0≤b):DD (a+b)=DD a*DD b:=by
  rw [jdy,jdy,jdy,show (a+b).toNat=a.toNat+b.toNat by omega,pow_add]
theorem DD16:DD 16=65536:=rfl
theorem j36 {q:Int} (h:0≤q):65536≤DD (q+16):=by
  rw [jnq h (by omega),DD16,jdy];have:=exp_red.one_le_two_pow q.toNat
  grind
theorem jnr (q:Int) {c:Int} (hc:0<c):∃x0 x1:Rat,((1*2^(q+16).toNat / c:Int):Rat)=x0*DD (q+16)∧((1*2^(q+16).toNat / c+1:Int):Rat)=x1*DD (q+16)∧0≤x0∧x0*(c:Rat)≤1∧1≤x1*(c:Rat)∧(x1 - x0)*DD (q+16)=1:=by
  have d:=DD_pos (q+16);have inv:=Rat.mul_inv_cancel (DD (q+16)) (by grind);have ip:=Rat.inv_pos.2 d;obtain ⟨f1,f2⟩:=fl (n:=1*2^(q+16).toNat) hc
  have nn:(0:Int)≤1*2^(q+16).toNat / c:=Int.ediv_nonneg (by
    have:(0:Int)<2^(q+16).toNat:=Int.pow_pos (by omega)
    omega) (by omega)
  have nr:(0:Rat)≤((1*2^(q+16).toNat / c:Int):Rat):=Rat.intCast_nonneg.2 nn;rw [show (((1*2^(q+16).toNat:Int)):Rat)=DD (q+16) by rw [Int.one_mul];rfl] at f1 f2
  generalize 1*2^(q+16).toNat / c=t at *
  refine ⟨(t:Rat)*(DD (q+16))⁻¹,((t:Rat)+1)*(DD (q+16))⁻¹,by grind,by rw [Rat.intCast_add];show (t:Rat)+1=_;grind,Rat.mul_nonneg nr (Rat.le_of_lt ip),?_,?_,by grind⟩
  · have:=Rat.mul_le_mul_of_nonneg_right f1 (Rat.le_of_lt ip)
    grind
  · have:=Rat.mul_le_mul_of_nonneg_right f2 (Rat.le_of_lt ip)
    grind
theorem j1i {q:Int} (h:0≤q) {x0 x1:Rat} (hd:(x1 - x0)*DD (q+16)=1):x1≤x0+1/65536∧x0≤x1:=by
  have d:=DD_pos (q+16);have g:=j36 h
  constructor
  · by_cases k:x1≤x0+1/65536
    · exact k
    · have:=Rat.mul_lt_mul_of_pos_right (show (1:Rat)/65536<x1 - x0 by grind) d
      have:=Rat.mul_le_mul_of_nonneg_left g (show (0:Rat)≤1/65536 by grind)
      grind
  · by_cases k:x0≤x1
    · exact k
    · have:=Rat.mul_le_mul_of_nonneg_right (show x1 - x0≤0 by grind) (Rat.le_of_lt d)
      grind
theorem two16 (q:Int):(2:Int)^(q+16 - q).toNat=65536:=by rw [show (q+16 - q).toNat=16 by omega];rfl
theorem c2 (x:Int):((x*2:Int):Rat)=2*(x:Rat):=by rw [Rat.intCast_mul];show (x:Rat)*2=_;grind
theorem jc1 {q:Int} (h0:0≤q) (h1:q≤900) {m:Nat} (hm:((q+16) / 3+2).toNat≤m):Near 2 (lnLoZ q) (lnHiZ q) (lnn m*DD q):=by
  obtain ⟨x0,x1,e0,e1,p0,l0,l1,hd⟩:=jnr q (c:=3) (by omega);rw [show ((3:Int):Rat)=3 from rfl] at l0 l1;obtain ⟨b1,b2⟩:=j1i h0 hd;have s0:x0*x0≤1/9:=by have:=jcf p0 (show x0≤1/3 by grind) p0 (show x0≤1/3 by grind);grind
  have s1:x1*x1≤1/8:=by
    have:=jcf (show 0≤x1 by grind) (show x1≤1/3+1/65536 by grind) (show 0≤x1 by grind) (show x1≤1/3+1/65536 by grind)
    grind
  have A:=jek e0 p0 (by grind) (by grind) (by omega) (by omega) hm;have B:=jek e1 (by grind) s1 (by grind) (by omega) (by omega) hm;have d:=DD_pos (q+16);obtain ⟨m1,m2⟩:=jno (x:=x0) (y:=1/3) p0 (by grind) (by grind) m;obtain ⟨m3,m4⟩:=jno (x:=1/3) (y:=x1) (by grind) (by grind) (by grind) m;have k1:=Rat.mul_le_mul_of_nonneg_right m1 (Rat.le_of_lt d);have k2:=Rat.mul_le_mul_of_nonneg_right m2 (Rat.le_of_lt d);have k3:=Rat.mul_le_mul_of_nonneg_right m3 (Rat.le_of_lt d);have k4:=Rat.mul_le_mul_of_nonneg_right m4 (Rat.le_of_lt d);have k5:=Rat.mul_le_mul_of_nonneg_right (show 1/3 - x0≤x1 - x0 by grind) (Rat.le_of_lt d);have k6:=Rat.mul_le_mul_of_nonneg_right (show x1 - 1/3≤x1 - x0 by grind) (Rat.le_of_lt d);have N:=A.ends B (w:=Hn m (1/3)*DD (q+16)) (c':=2) k1 k3 (by grind) (by grind)
  have N2:Near 4100 (atanhLo (1*2^(q+16).toNat / 3) (q+16) ((q+16) / 3+2).toNat*2) (atanhHi (1*2^(q+16).toNat / 3+1) (q+16) ((q+16) / 3+2).toNat*2) (lnn m*DD q*((65536:Int):Rat)):=by
    have e:lnn m*DD q*((65536:Int):Rat)=2*(Hn m (1/3)*DD (q+16)):=by
      rw [jnq h0 (by omega),DD16,show ((65536:Int):Rat)=65536 from rfl];unfold lnn;grind
    rw [e];unfold Near at *;rw [c2,c2]
    grind
  have r:=N2.cast (c':=1) (by omega) (by rw [show ((65536:Int):Rat)=65536 from rfl];grind);unfold lnLoZ lnHiZ;rw [two16];exact r.mono (by grind)
theorem jq2 {q:Int} (h0:0≤q) (h1:q≤900) {c:Int} (hc:5≤c) {m:Nat} (hm:2*((q+16) / 9+2).toNat≤m):Near 2050 (atLoZ c q) (atHiZ c q) (Tn m ((c:Rat)⁻¹)*DD (q+16)):=by
  obtain ⟨x0,x1,e0,e1,p0,l0,l1,hd⟩:=jnr q (c:=c) (by omega);obtain ⟨b1,b2⟩:=j1i h0 hd;have cr:(5:Rat)≤(c:Rat):=Rat.intCast_le_intCast.2 hc;have ci:=Rat.mul_inv_cancel (c:Rat) (by grind);have cp:=Rat.inv_pos.2 (show (0:Rat)<(c:Rat) by grind);have c5:=Rat.mul_le_mul_of_nonneg_right cr (Rat.le_of_lt cp);have g0:=Rat.mul_le_mul_of_nonneg_right l0 (Rat.le_of_lt cp);have g1:=Rat.mul_le_mul_of_nonneg_right l1 (Rat.le_of_lt cp)
  generalize ((c:Rat)⁻¹)=z at *
  have ea:x0*(c:Rat)*z=x0:=by grind
  have eb:x1*(c:Rat)*z=x1:=by grind
  have ec:(c:Rat)*z=1:=ci;rw [ea] at g0;rw [eb] at g1;rw [ec] at c5;have z0:x0≤z:=by grind
  have z1:z≤x1:=by grind
  have z5:z≤1/5:=by grind
  have s0:x0*x0≤1/25:=by have:=jcf p0 (show x0≤1/5 by grind) p0 (show x0≤1/5 by grind);grind
  have s1:x1*x1≤1/23:=by
    have:=jcf (show 0≤x1 by grind) (show x1≤1/5+1/65536 by grind) (show 0≤x1 by grind) (show x1≤1/5+1/65536 by grind)
    grind
  have A:=jkg e0 p0 (by grind) (by grind) (by omega) (by omega) hm;have B:=jkg e1 (by grind) s1 (by grind) (by omega) (by omega) hm;have d:=DD_pos (q+16);obtain ⟨m1,m2⟩:=jws (x:=x0) (y:=z) p0 z0 (by grind) m;obtain ⟨m3,m4⟩:=jws (x:=z) (y:=x1) (by grind) z1 (by grind) m;have k1:=Rat.mul_le_mul_of_nonneg_right m1 (Rat.le_of_lt d);have k2:=Rat.mul_le_mul_of_nonneg_right m2 (Rat.le_of_lt d);have k3:=Rat.mul_le_mul_of_nonneg_right m3 (Rat.le_of_lt d);have k4:=Rat.mul_le_mul_of_nonneg_right m4 (Rat.le_of_lt d);have k5:=Rat.mul_le_mul_of_nonneg_right (show z - x0≤x1 - x0 by grind) (Rat.le_of_lt d);have k6:=Rat.mul_le_mul_of_nonneg_right (show x1 - z≤x1 - x0 by grind) (Rat.le_of_lt d);exact (A.ends B (w:=Tn m z*DD (q+16)) (c':=2) k1 k3 (by grind) (by grind)).mono (by grind)
theorem near_pi {q:Int} (h0:0≤q) (h1:q≤900) {m:Nat} (hm:2*((q+16) / 9+2).toNat≤m):Near 2 (piLoZ q) (piHiZ q) (2*hpn m*DD q):=by
  have A:=jq2 h0 h1 (c:=5) (by omega) hm;have B:=jq2 h0 h1 (c:=239) (by omega) hm;rw [show (((5:Int):Rat)⁻¹)=1/5 by rw [show ((5:Int):Rat)=5 from rfl];grind] at A;rw [show (((239:Int):Rat)⁻¹)=1/239 by rw [show ((239:Int):Rat)=239 from rfl];grind] at B
  have N:Near 50000 (atLoZ 5 q*16+(0 - atHiZ 239 q*4)) (atHiZ 5 q*16+(0 - atLoZ 239 q*4)) (2*hpn m*DD q*((65536:Int):Rat)):=by
    have e:2*hpn m*DD q*((65536:Int):Rat)=16*(Tn m (1/5)*DD (q+16)) - 4*(Tn m (1/239)*DD (q+16)):=by
      rw [jnq h0 (by omega),DD16,show ((65536:Int):Rat)=65536 from rfl];unfold hpn;grind
    have cast:∀a b:Int,((a*16+(0 - b*4):Int):Rat)=16*(a:Rat) - 4*(b:Rat):=fun a b=>by
      rw [Rat.intCast_add,Rat.intCast_sub,Rat.intCast_mul,Rat.intCast_mul]
      show (a:Rat)*16+(0 - (b:Rat)*4)=_
      grind
    rw [e];unfold Near at *;rw [cast,cast]
    grind
  have r:=N.cast (c':=1) (by omega) (by rw [show ((65536:Int):Rat)=65536 from rfl];grind);unfold piLoZ piHiZ;rw [two16];exact r.mono (by grind)
theorem jjb (m:Nat) (hm:2≤m):69/100≤lnn m∧lnn m≤7/10:=by
  have h:=jym (1/3) m;have t:=jg0 (x:=1/3) (by grind) (by grind);have R0:∀k,0≤tO k (1/3):=fun k=>(t k).1
  have s:=jnk (e:=oR fun k=>tO k (1/3)) (fun k=>Rat.mul_nonneg (R0 k) (Rat.le_of_lt (inv_pos (2*k)))) (n:=2) (fun k hk=>jgz R0 (n:=0) (fun k _=>(t k).2) k (Nat.zero_le _)) hm;have nn:0≤oR (fun k=>tO k (1/3)) m:=Rat.mul_nonneg (R0 m) (Rat.le_of_lt (inv_pos (2*m)));rw [←h] at s;have e2:69/200≤sumR (oR fun k=>tO k (1/3)) 2:=by decide +kernel
  have e3:sumR (oR fun k=>tO k (1/3)) 2+2*oR (fun k=>tO k (1/3)) 2≤7/20:=by decide +kernel
  unfold lnn;grind
theorem jq3 (m:Nat) (hm:2≤m):15/10≤hpn m∧hpn m≤16/10:=by
  have t5:=jg0 (x:=1/5) (by grind) (by grind);have t9:=jg0 (x:=1/239) (by grind) (by grind);have n5:∀k,0≤oR (fun k=>tO k (1/5)) k:=fun k=>Rat.mul_nonneg (t5 k).1 (Rat.le_of_lt (inv_pos (2*k)))
  have n9:∀k,0≤oR (fun k=>tO k (1/239)) k:=fun k=>Rat.mul_nonneg (t9 k).1 (Rat.le_of_lt (inv_pos (2*k)))
  have s5:=ji8 (e:=oR fun k=>tO k (1/5)) n5 (n:=1) (fun k hk=>by
    have:=jgz (fun k=>(t5 k).1) (n:=0) (fun k _=>(t5 k).2) k (Nat.zero_le _);have:=n5 (k+1);grind) hm
  have s9:=ji8 (e:=oR fun k=>tO k (1/239)) n9 (n:=1) (fun k hk=>by
    have:=jgz (fun k=>(t9 k).1) (n:=0) (fun k _=>(t9 k).2) k (Nat.zero_le _);have:=n9 (k+1);grind) hm
  rw [←jyn _ m] at s5 s9;have a1:197/1000≤altR (oR fun k=>tO k (1/5)) (oR fun k=>tO k (1/5)) (2*1):=by decide +kernel
  have a2:altR (oR fun k=>tO k (1/5)) (oR fun k=>tO k (1/5)) (2*1)+oR (fun k=>tO k (1/5)) (2*1)≤198/1000:=by decide +kernel
  have b1:4/1000≤altR (oR fun k=>tO k (1/239)) (oR fun k=>tO k (1/239)) (2*1):=by decide +kernel
  have b2:altR (oR fun k=>tO k (1/239)) (oR fun k=>tO k (1/239)) (2*1)+oR (fun k=>tO k (1/239)) (2*1)≤5/1000:=by decide +kernel
  unfold hpn
  generalize altR (oR fun k=>tO k (1/5)) (oR fun k=>tO k (1/5)) (2*1)=u at *
  generalize oR (fun k=>tO k (1/5)) (2*1)=u' at *
  generalize altR (oR fun k=>tO k (1/239)) (oR fun k=>tO k (1/239)) (2*1)=v at *
  generalize oR (fun k=>tO k (1/239)) (2*1)=v' at *
  generalize Tn m (1/5)=a at *
  generalize Tn m (1/239)=b at *
  clear t5 t9 n5 n9
  grind
def two (k:Int):Rat:=if 0≤k then 2^k.toNat else (2^(-k).toNat)⁻¹
theorem two_pos (k:Int):0<two k:=by
  unfold two
  split
  · exact Rat.pow_pos (by grind)
  · exact Rat.inv_pos.2 (Rat.pow_pos (by grind))
def Tells (F:Nat→Rat) (lo hi k q:Int):Prop:=Lim fun m ε=>∃v:Rat,Near 2 lo hi (v*DD q)∧Bd ε (v*two k - F m)
theorem rat_le {a b:Int} (h:(a:Rat)≤(b:Rat)):a≤b:=Rat.intCast_le_intCast.1 h
theorem jag {a b:Int} (h:a≤b):(a:Rat)≤(b:Rat):=Rat.intCast_le_intCast.2 h
theorem j1j {q:Int} (h:0≤q):DD (q+40)=DD q*((2^40:Int):Rat):=by
  rw [jnq h (by omega)];rfl
theorem jg2 {q:Int} (h:0≤q):1099511627776≤DD (q+40):=by
  have e:((2^40:Int):Rat)=1099511627776:=rfl;rw [j1j h,e,jdy];have:=exp_red.one_le_two_pow q.toNat
  grind
theorem fewer {c v:Rat} {lo hi q:Int} (hq:0≤q) (h:Near c lo hi (v*DD (q+40))) (hc:c≤1099511627776):Near 2 (lo / 2^40) (0 - (0 - hi) / 2^40) (v*DD q):=by
  rw [j1j hq,←Rat.mul_assoc] at h;exact (h.cast (c':=1) (by omega) (by rw [show ((2^40:Int):Rat)=1099511627776 from rfl];grind)).mono (by grind)
section
variable {x D:Rat} {lo0 hi0 L H q:Int}
def rLo (lo0 k L H:Int):Int:=lo0 - (if k<0 then k*L else k*H)
def rHi (hi0 k L H:Int):Int:=hi0 - (if k<0 then k*H else k*L)
theorem jgc {l:Rat} {k:Int} (h1:(lo0:Rat)≤x*D) (h2:x*D≤(hi0:Rat)) (l1:(L:Rat)≤l*D) (l2:l*D≤(H:Rat)):((rLo lo0 k L H:Int):Rat)≤(x - (k:Rat)*l)*D∧(x - (k:Rat)*l)*D≤((rHi hi0 k L H:Int):Rat):=by
  unfold rLo rHi
  by_cases hk:k<0
  · have kr:(k:Rat)≤0:=jag (show k≤0 by omega)
    have m1:=Rat.mul_le_mul_of_nonneg_left l1 (show (0:Rat)≤-(k:Rat) by grind);have m2:=Rat.mul_le_mul_of_nonneg_left l2 (show (0:Rat)≤-(k:Rat) by grind);rw [if_pos hk,if_pos hk,Rat.intCast_sub,Rat.intCast_sub,Rat.intCast_mul,Rat.intCast_mul]
    grind
  · have kr:(0:Rat)≤(k:Rat):=jag (show 0≤k by omega)
    have m1:=Rat.mul_le_mul_of_nonneg_left l1 kr;have m2:=Rat.mul_le_mul_of_nonneg_left l2 kr;rw [if_neg hk,if_neg hk,Rat.intCast_sub,Rat.intCast_sub,Rat.intCast_mul,Rat.intCast_mul]
    grind
end
theorem jme {x y:Rat} (h0:0≤x) (h:x≤y) (h1:y≤1) (n:Nat):En n y≤En n x+3*(y - x):=by
  rcases n with _ | n
  · show (0:Rat)≤0+_;grind
  · have f:=(jps n).fall (m:=3) h (fun z a b=>by
      have s:=j1e (B:=1) (by grind) (m:=1) (fun k hk=>by
        have:((2:Nat):Rat)≤((k+1:Nat):Rat):=jbz (by omega);rw [show ((2:Nat):Rat)=2 from rfl] at this
        grind) n
      have e:En 1 (1:Rat)+2*tE 1 1≤3:=by decide +kernel
      have mo:En n z≤En n 1:=by
        have:=(P_bd (a:=fE) (b:=fE) bE (show Bd 1 z by unfold Bd;grind) n).2;exact this
      grind)
    grind
theorem jap {a b w:Rat} (hw:0<w) (h:a*w≤b*w):a≤b:=Rat.le_of_mul_le_mul_right h hw
theorem frac (t:Int) (w:Int):∃y:Rat,(t:Rat)=y*DD w:=by
  have inv:=Rat.mul_inv_cancel (DD w) (by have:=DD_pos w;grind);exact ⟨(t:Rat)*(DD w)⁻¹,by grind⟩
theorem jcd {w tl th:Int} {y:Rat} (w0:24≤w) (w1:w≤1000) (h0:0≤tl) (h1:(th:Rat)≤DD w) (a:(tl:Rat)≤y*DD w) (b:y*DD w≤(th:Rat)) {c:Rat} (hc:(th:Rat) - (tl:Rat)≤c) {m:Nat} (hm:(w / 4+10).toNat≤m) :
    Near (2048+3*c) (expLo tl w (w / 4+10).toNat) (expHi th w (w / 4+10).toNat) (En m y*DD w):=by
  have d:=DD_pos w;obtain ⟨u,hu⟩:=frac tl w;obtain ⟨v,hv⟩:=frac th w;have u0:0≤u:=jap d (by rw [←hu];have:(0:Rat)≤(tl:Rat):=jag h0;grind);have uy:u≤y:=jap d (by rw [←hu];exact a);have yv:y≤v:=jap d (by rw [←hv];exact b);have v1:v≤1:=jap d (by rw [←hv];grind);have A:=jnn hu u0 (by grind) w0 w1 hm;have B:=jnn hv (by grind) v1 w0 w1 hm;have k1:=Rat.mul_le_mul_of_nonneg_right (jnp u0 uy m) (Rat.le_of_lt d);have k2:=Rat.mul_le_mul_of_nonneg_right (jnp (by grind) yv m) (Rat.le_of_lt d);have k3:=Rat.mul_le_mul_of_nonneg_right (jme u0 uy (by grind) m) (Rat.le_of_lt d);have k4:=Rat.mul_le_mul_of_nonneg_right (jme (by grind) yv v1 m) (Rat.le_of_lt d);exact A.ends B (c':=3*c) k1 k2 (by grind) (by grind)
theorem jyu (k:Nat):two (k:Int)=2^k:=by unfold two;rw [if_pos (by omega)];rfl
theorem jyv (k:Nat):two (-(k:Int))*2^k=1:=by
  unfold two
  by_cases h:k=0
  · subst h;rw [if_pos (by omega)];decide +kernel
  · rw [if_neg (by omega),show (- -(k:Int)).toNat=k by omega]
    exact Rat.inv_mul_cancel _ (Rat.ne_of_gt (Rat.pow_pos (by grind)))
theorem jdg (k:Int) (B:Rat):Lim fun n ε=>∀x,Bd B x→Bd ε (En n (x - (k:Rat)*lnn n)*two k - En n x):=by
  by_cases h:0≤k
  · obtain ⟨j,rfl⟩:∃j:Nat,k=j:=⟨k.toNat,by omega⟩
    refine (exp_red j B).mono fun n ε he h x hx=>?_
    rw [jyu,Rat.intCast_natCast];exact (h x hx).1
  · obtain ⟨j,rfl⟩:∃j:Nat,k = -(j:Int):=⟨(-k).toNat,by omega⟩
    have tp:=two_pos (-(j:Int));refine (exp_red j B).trim (K:=two (-(j:Int))) (Rat.le_of_lt tp) fun n δ hd h ε hε x hx=>?_
    have a:=(h x hx).2.mul (show Bd (two (-(j:Int))) (two (-(j:Int))) by unfold Bd;grind);have e:=jyv j;rw [Rat.intCast_neg,Rat.intCast_natCast,show x - -(j:Rat)*lnn n=x+(j:Rat)*lnn n by grind];have e2:(En n (x+(j:Rat)*lnn n) - En n x*2^j)*two (-(j:Int))=En n (x+(j:Rat)*lnn n)*two (-(j:Int)) - En n x:=by grind
    rw [e2] at a;exact a.mono (by grind)
structure RedOK (x:Rat) (q lo0 hi0 k:Int):Prop where
  t0:0≤rLo lo0 k (lnLoZ (q+40)) (lnHiZ (q+40))
  t1:rHi hi0 k (lnLoZ (q+40)) (lnHiZ (q+40))≤2^(q+40).toNat
  k0 : -1520≤k
  k1:k≤1520
  tt:rHi hi0 k (lnLoZ (q+40)) (lnHiZ (q+40))≤rLo lo0 k (lnLoZ (q+40)) (lnHiZ (q+40))+7000
theorem ln_facts {w:Int} (h0:40≤w) (h1:w≤900):0<lnLoZ w∧lnLoZ w≤lnHiZ w∧lnHiZ w≤lnLoZ w+4∧(68/100:Rat)*DD w≤(lnLoZ w:Rat)∧(lnHiZ w:Rat)≤71/100*DD w:=by
  have N:=jc1 (q:=w) (by omega) h1 (m:=((w+16) / 3+2).toNat) (Nat.le_refl _);have l:=jjb ((w+16) / 3+2).toNat (by omega)
  have big:1099511627776≤DD w:=by
    have:=jg2 (q:=w - 40) (by omega);rw [show w - 40+40=w by omega] at this;exact this
  generalize lnn ((w+16) / 3+2).toNat=v at *
  have d:=DD_pos w;have k1:=Rat.mul_le_mul_of_nonneg_right l.1 (Rat.le_of_lt d);have k2:=Rat.mul_le_mul_of_nonneg_right l.2 (Rat.le_of_lt d);obtain ⟨n1,n2,n3,n4⟩:=N;have a:(68/100:Rat)*DD w≤(lnLoZ w:Rat):=by grind
  refine ⟨Rat.intCast_pos.1 (by grind),rat_le (by grind),rat_le (by rw [Rat.intCast_add];show _≤_+(4:Rat);grind),a,by grind⟩
theorem jyw {L H D lo0 hi0:Int} (f1:0<L) (f2:L≤H) (f3:H≤L+4) (f4':68*D≤100*L) (f5':100*H≤71*D) (big2:1099511627776≤D) (h3:hi0≤lo0+1) (a1:lo0≤1024*D) (a2 : -1024*D≤lo0+1) (k:Int) (hk:k=lo0 / (if lo0<0 then L else H)) :
    0≤rLo lo0 k L H∧rHi hi0 k L H≤D∧-1520≤k∧k≤1520∧rHi hi0 k L H≤rLo lo0 k L H+7000:=by
  unfold rLo rHi
  by_cases hn:lo0<0
  · rw [if_pos hn] at hk
    have e1:=Int.emod_add_mul_ediv lo0 L;have e2:=Int.emod_nonneg lo0 (show L≠0 by omega);have e3:=Int.emod_lt_of_pos lo0 f1;have kn:lo0 / L<0:=Int.ediv_neg_of_neg_of_pos hn f1;rw [←hk] at e1 kn
    have kb : -1520≤k:=by
      by_cases c : -1520≤k
      · exact c
      · have m:=Int.mul_le_mul_of_nonneg_left (show k≤-1521 by omega) (Int.le_of_lt f1)
        omega
    have m:=Int.mul_le_mul_of_nonneg_right (show -k≤1520 by omega) (show 0≤H - L by omega);have em:L*k=k*L:=Int.mul_comm _ _;have e4 : -k*(H - L) = -(k*H)+k*L:=by rw [Int.neg_mul,Int.mul_sub];omega
    simp only [if_pos kn]
    omega
  · rw [if_neg hn] at hk
    have hp:0<H:=by omega
    have e1:=Int.emod_add_mul_ediv lo0 H;have e2:=Int.emod_nonneg lo0 (show H≠0 by omega);have e3:=Int.emod_lt_of_pos lo0 hp;have kn:0≤lo0 / H:=Int.ediv_nonneg (by omega) (by omega);rw [←hk] at e1 kn
    have kb:k≤1520:=by
      by_cases c:k≤1520
      · exact c
      · have m:=Int.mul_le_mul_of_nonneg_left (show 1521≤k by omega) (Int.le_of_lt hp)
        omega
    have m:=Int.mul_le_mul_of_nonneg_right kb (show 0≤H - L by omega);have em:H*k=k*H:=Int.mul_comm _ _;have e4:k*(H - L)=k*H - k*L:=Int.mul_sub _ _ _;simp only [if_neg (show ¬ k<0 by omega)]
    omega
theorem j1k {x:Rat} {q lo0 hi0:Int} (q0:0≤q) (q1:q≤800) (hx:Bd 1024 x) (h1:(lo0:Rat)≤x*DD (q+40)) (h2:x*DD (q+40)≤(hi0:Rat)) (h3:hi0≤lo0+1) :
    RedOK x q lo0 hi0 (lo0 / (if lo0<0 then lnLoZ (q+40) else lnHiZ (q+40))):=by
  obtain ⟨f1,f2,f3,f4,f5⟩:=ln_facts (w:=q+40) (by omega) (by omega);have big:=jg2 q0;have d:=DD_pos (q+40);have x1:=Rat.mul_le_mul_of_nonneg_right hx.1 (Rat.le_of_lt d);have x2:=Rat.mul_le_mul_of_nonneg_right hx.2 (Rat.le_of_lt d);have dz:DD (q+40)=(((2:Int)^(q+40).toNat:Int):Rat):=rfl;have hl:(hi0:Rat)≤(lo0:Rat)+1:=by have:=jag h3;rw [Rat.intCast_add] at this;exact this
  have big2:(1099511627776:Int)≤2^(q+40).toNat:=rat_le (by rw [←dz];exact big);have f4':68*2^(q+40).toNat≤100*lnLoZ (q+40):=rat_le (by rw [Rat.intCast_mul,Rat.intCast_mul,←dz];show (68:Rat)*_≤100*_;grind);have f5':100*lnHiZ (q+40)≤71*2^(q+40).toNat:=rat_le (by rw [Rat.intCast_mul,Rat.intCast_mul,←dz];show (100:Rat)*_≤71*_;grind);have a1:lo0≤1024*2^(q+40).toNat:=rat_le (by rw [Rat.intCast_mul,←dz];show _≤(1024:Rat)*_;grind);have a2 : -1024*2^(q+40).toNat≤lo0+1:=rat_le (by rw [Rat.intCast_mul,←dz,Rat.intCast_add];show (-1024:Rat)*_≤_+(1:Rat);grind);obtain ⟨r1,r2,r3,r4,r5⟩:=jyw f1 f2 f3 f4' f5' big2 h3 a1 a2 _ rfl;exact ⟨r1,r2,r3,r4,r5⟩
theorem jq4 {x:Rat} {q lo0 hi0 k:Int} (q0:0≤q) (q1:q≤800) (hx:Bd 1024 x) (h1:(lo0:Rat)≤x*DD (q+40)) (h2:x*DD (q+40)≤(hi0:Rat)) (R:RedOK x q lo0 hi0 k) {w:Int} (hw:w=q+40) :
    Tells (fun m=>En m x) (expLo (rLo lo0 k (lnLoZ w) (lnHiZ w)) w (w / 4+10).toNat / 2^40) (0 - (0 - expHi (rHi hi0 k (lnLoZ w) (lnHiZ w)) w (w / 4+10).toNat) / 2^40) k q:=by
  subst hw;refine ((jdg k 1024).and (Lim.late (P:=fun m _=>((q+40) / 4+10).toNat+((q+40+16) / 3+2).toNat≤m) (((q+40) / 4+10).toNat+((q+40+16) / 3+2).toNat) fun n ε h _=>h)).mono fun m ε he ⟨hl,hm⟩=>?_
  refine ⟨En m (x - (k:Rat)*lnn m),?_,hl x hx⟩;have N:=jc1 (q:=q+40) (by omega) (by omega) (m:=m) (by omega);obtain ⟨e1,e2⟩:=jgc (k:=k) h1 h2 N.1 N.2.1;have t1:((rHi hi0 k (lnLoZ (q+40)) (lnHiZ (q+40)):Int):Rat)≤DD (q+40):=jag R.t1;have tt:=jag R.tt;rw [Rat.intCast_add] at tt;have ce:((7000:Int):Rat)=7000:=rfl;exact fewer q0 (jcd (by omega) (by omega) R.t0 t1 e1 e2 (c:=7000) (by grind) (by omega)) (by grind)
def mulLo (a b c d w:Int):Int:=vDn (min4 (a*c) (a*d) (b*c) (b*d)) w
def mulHi (a b c d w:Int):Int:=vOv (max4 (a*c) (a*d) (b*c) (b*d)) w
def divLo (a b c d w:Int):Int:=min4 (vLo w a c) (vLo w a d) (vLo w b c) (vLo w b d)
def divHi (a b c d w:Int):Int:=max4 (vHi w a c) (vHi w a d) (vHi w b c) (vHi w b d)
theorem jyx (a b c d:Int):min4 a b c d≤a∧min4 a b c d≤b∧min4 a b c d≤c∧min4 a b c d≤d:=by unfold min4;omega
theorem jyy (a b c d:Int):a≤max4 a b c d∧b≤max4 a b c d∧c≤max4 a b c d∧d≤max4 a b c d:=by unfold max4;omega
theorem jp0 {a b c d:Int} {u v:Rat} (h1:(a:Rat)≤u) (h2:u≤(b:Rat)) (h3:(c:Rat)≤v) (h4:v≤(d:Rat)) :
    ((min4 (a*c) (a*d) (b*c) (b*d):Int):Rat)≤u*v∧u*v≤((max4 (a*c) (a*d) (b*c) (b*d):Int):Rat):=by
  obtain ⟨m1,m2,m3,m4⟩:=jyx (a*c) (a*d) (b*c) (b*d);obtain ⟨n1,n2,n3,n4⟩:=jyy (a*c) (a*d) (b*c) (b*d);have m1:=jag m1;have m2:=jag m2;have m3:=jag m3;have m4:=jag m4;have n1:=jag n1;have n2:=jag n2;have n3:=jag n3;have n4:=jag n4;rw [Rat.intCast_mul] at m1 m2 m3 m4 n1 n2 n3 n4
  generalize ((min4 (a*c) (a*d) (b*c) (b*d):Int):Rat)=x at *
  generalize ((max4 (a*c) (a*d) (b*c) (b*d):Int):Rat)=y at *
  have p1:=Rat.mul_nonneg (show 0≤u - (a:Rat) by grind) (show 0≤v - (c:Rat) by grind);have p2:=Rat.mul_nonneg (show 0≤u - (a:Rat) by grind) (show 0≤(d:Rat) - v by grind);have p3:=Rat.mul_nonneg (show 0≤(b:Rat) - u by grind) (show 0≤v - (c:Rat) by grind);have p4:=Rat.mul_nonneg (show 0≤(b:Rat) - u by grind) (show 0≤(d:Rat) - v by grind)
  by_cases hv:0≤v
  · have q1:=Rat.mul_le_mul_of_nonneg_right h1 hv
    have q2:=Rat.mul_le_mul_of_nonneg_right h2 hv
    by_cases ha:0≤(a:Rat)
    · have:=Rat.mul_le_mul_of_nonneg_left h3 ha
      have:=Rat.mul_le_mul_of_nonneg_left h4 (show 0≤(b:Rat) by grind)
      grind
    · have:=Rat.mul_le_mul_of_nonneg_left h4 (show 0≤-(a:Rat) by grind)
      by_cases hb:0≤(b:Rat)
      · have:=Rat.mul_le_mul_of_nonneg_left h4 hb
        grind
      · have:=Rat.mul_le_mul_of_nonneg_left h3 (show 0≤-(b:Rat) by grind)
        grind
  · have q1:=Rat.mul_le_mul_of_nonneg_right h1 (show 0≤-v by grind)
    have q2:=Rat.mul_le_mul_of_nonneg_right h2 (show 0≤-v by grind)
    by_cases hb:0≤(b:Rat)
    · have:=Rat.mul_le_mul_of_nonneg_left h3 hb
      by_cases ha:0≤(a:Rat)
      · have:=Rat.mul_le_mul_of_nonneg_left h4 ha
        grind
      · have:=Rat.mul_le_mul_of_nonneg_left h3 (show 0≤-(a:Rat) by grind)
        grind
    · have:=Rat.mul_le_mul_of_nonneg_left h4 (show 0≤-(b:Rat) by grind)
      have:=Rat.mul_le_mul_of_nonneg_left h3 (show 0≤-(a:Rat) by grind)
      grind
theorem jyz {z w:Int} (hw:0≤w):((vDn z w:Int):Rat)*DD w≤(z:Rat)∧(z:Rat)≤((vDn z w:Int):Rat)*DD w+DD w:=by
  unfold vDn
  split
  · have e:w=0:=by omega
    subst e;rw [show (2:Int)^(-(0:Int)).toNat=1 from rfl,Int.mul_one,show DD 0=1 from rfl]
    grind
  · exact fl (n:=z) (d:=2^w.toNat) (Int.pow_pos (by omega))
theorem j1l {z w:Int} (hw:0≤w):(z:Rat)≤((vOv z w:Int):Rat)*DD w∧((vOv z w:Int):Rat)*DD w≤(z:Rat)+DD w:=by
  have:=jyz (z := -z) hw;unfold vOv;rw [Rat.intCast_neg] at *
  grind
theorem jjc {a b c d w:Int} {u v:Rat} (hw:0≤w) (h1:(a:Rat)≤u*DD w) (h2:u*DD w≤(b:Rat)) (h3:(c:Rat)≤v*DD w) (h4:v*DD w≤(d:Rat)) :
    ((mulLo a b c d w:Int):Rat)≤u*v*DD w∧u*v*DD w≤((mulHi a b c d w:Int):Rat):=by
  obtain ⟨c1,c2⟩:=jp0 h1 h2 h3 h4;have d1:=(jyz (z:=min4 (a*c) (a*d) (b*c) (b*d)) hw).1;have d2:=(j1l (z:=max4 (a*c) (a*d) (b*c) (b*d)) hw).1;have dp:=DD_pos w
  constructor
  · refine jap dp (Rat.le_trans d1 (Rat.le_trans c1 ?_))
    grind
  · refine jap dp (Rat.le_trans ?_ (Rat.le_trans c2 d2))
    grind
theorem jkh {a b c d w:Int} (hw:0≤w) (h0:0≤a) (h1:a≤b) (h2:0≤c) (h3:c≤d):0≤mulLo a b c d w∧(((mulHi a b c d w:Int):Rat) - ((mulLo a b c d w:Int):Rat))*DD w≤(b:Rat)*(d:Rat) - (a:Rat)*(c:Rat)+2*DD w∧((mulHi a b c d w:Int):Rat)*DD w≤(b:Rat)*(d:Rat)+DD w:=by
  have i1:=Int.mul_le_mul_of_nonneg_left h3 h0;have i2:=Int.mul_le_mul_of_nonneg_left h3 (show 0≤b by omega);have i3:=Int.mul_le_mul_of_nonneg_right h1 h2;have i4:=Int.mul_le_mul_of_nonneg_right h1 (show 0≤d by omega);have i5:=Int.mul_nonneg h0 h2;have e1:min4 (a*c) (a*d) (b*c) (b*d)=a*c:=by unfold min4;omega
  have e2:max4 (a*c) (a*d) (b*c) (b*d)=b*d:=by unfold max4;omega
  have d1:=(jyz (z:=a*c) hw).2;have d2:=(j1l (z:=b*d) hw).2;unfold mulLo mulHi;rw [e1,e2];rw [Rat.intCast_mul] at d1 d2;refine ⟨?_,by grind,d2⟩;unfold vDn
  split
  · exact Int.mul_nonneg i5 (Int.le_of_lt (Int.pow_pos (by omega)))
  · exact Int.ediv_nonneg i5 (Int.le_of_lt (Int.pow_pos (by omega)))
theorem jq5 {x y w:Int} (hy:0<y):((vLo w x y:Int):Rat)*(y:Rat)≤(x:Rat)*DD w∧(x:Rat)*DD w≤((vLo w x y:Int):Rat)*(y:Rat)+(y:Rat):=by
  have f:=fl (n:=x*2^w.toNat) hy;unfold vLo;rw [jey hy,Int.neg_neg,Int.neg_neg];rw [Rat.intCast_mul] at f;exact f
theorem jq6 {x y w:Int} (hy:0<y):(x:Rat)*DD w≤((vHi w x y:Int):Rat)*(y:Rat)∧((vHi w x y:Int):Rat)*(y:Rat)≤(x:Rat)*DD w+(y:Rat):=by
  have f:=fl (n := -(x*2^w.toNat)) hy;unfold vHi;rw [jey hy];rw [Rat.intCast_neg (x*2^w.toNat),Rat.intCast_mul] at f;rw [Rat.intCast_neg];have e:(((2:Int)^w.toNat:Int):Rat)=DD w:=rfl;rw [e] at f
  grind
theorem twp (w:Int):(0:Int)≤2^w.toNat:=Int.le_of_lt (Int.pow_pos (by omega))
theorem jjd {x x' y y' w:Int} (h0:0≤x) (hx:x≤x') (hy:0<y') (h:y'≤y):vLo w x y≤vLo w x' y':=by
  obtain ⟨a1,-⟩:=jq5 (w:=w) (x:=x) (y:=y) (by omega);obtain ⟨-,a2⟩:=jq5 (w:=w) (x:=x') (y:=y') hy;have d:=DD_pos w;have yp:=jag h;have y1:(0:Rat)<(y':Rat):=Rat.intCast_pos.2 hy;have xr:=Rat.mul_le_mul_of_nonneg_right (jag hx) (Rat.le_of_lt d)
  by_cases c:vLo w x y≤vLo w x' y'
  · exact c
  · have c2:vLo w x' y'+1≤vLo w x y:=by omega
    have c3:=jag c2;rw [Rat.intCast_add] at c3;have x0:(0:Rat)≤(x:Rat)*DD w:=Rat.mul_nonneg (jag h0) (Rat.le_of_lt d)
    have n0:0≤vLo w x y:=by
      unfold vLo;rw [jey (by omega),Int.neg_neg,Int.neg_neg];exact Int.ediv_nonneg (Int.mul_nonneg h0 (Int.le_of_lt (Int.pow_pos (by omega)))) (by omega)
    exfalso
    have f:=Int.emod_lt_of_pos (x'*2^w.toNat) hy;have f2:=Int.emod_add_mul_ediv (x'*2^w.toNat) y';have g:=Int.emod_nonneg (x*2^w.toNat) (show y≠0 by omega);have g2:=Int.emod_add_mul_ediv (x*2^w.toNat) y;have e1:vLo w x y=x*2^w.toNat / y:=by unfold vLo;rw [jey (by omega),Int.neg_neg,Int.neg_neg]
    have e2:vLo w x' y'=x'*2^w.toNat / y':=by unfold vLo;rw [jey (by omega),Int.neg_neg,Int.neg_neg]
    rw [←e1] at g2;rw [←e2] at f2;have m1:=Int.mul_le_mul_of_nonneg_right h n0;have m2:=Int.mul_le_mul_of_nonneg_left c2 (show 0≤y' by omega);have m3:=Int.mul_le_mul_of_nonneg_right hx (twp w);rw [Int.mul_add,Int.mul_one] at m2
    omega
theorem jje {x x' y y' w:Int} (h0:0≤x) (hx:x≤x') (hy:0<y') (h:y'≤y):vHi w x y≤vHi w x' y':=by
  obtain ⟨-,a1⟩:=jq6 (w:=w) (x:=x) (y:=y) (by omega);obtain ⟨a2,-⟩:=jq6 (w:=w) (x:=x') (y:=y') hy
  by_cases c:vHi w x y≤vHi w x' y'
  · exact c
  · exfalso
    have f:=Int.emod_nonneg (-(x'*2^w.toNat)) (show y'≠0 by omega);have f2:=Int.emod_add_mul_ediv (-(x'*2^w.toNat)) y';have g:=Int.emod_lt_of_pos (-(x*2^w.toNat)) (show 0<y by omega);have g2:=Int.emod_add_mul_ediv (-(x*2^w.toNat)) y;have e1 : -(x*2^w.toNat) / y = -vHi w x y:=by unfold vHi;rw [jey (by omega),Int.neg_neg]
    have e2 : -(x'*2^w.toNat) / y' = -vHi w x' y':=by unfold vHi;rw [jey (by omega),Int.neg_neg]
    rw [e1] at g2;rw [e2] at f2
    have n0:0≤vHi w x' y':=by
      by_cases c2:0≤vHi w x' y'
      · exact c2
      · have:=Int.mul_le_mul_of_nonneg_left (show vHi w x' y'≤-1 by omega) (show 0≤y' by omega)
        have:=Int.mul_nonneg (show 0≤x' by omega) (twp w);rw [Int.mul_neg] at f2
        omega
    have m1:=Int.mul_le_mul_of_nonneg_right h n0;have m2:=Int.mul_le_mul_of_nonneg_left (show vHi w x' y'+1≤vHi w x y by omega) (show 0≤y by omega);have m3:=Int.mul_le_mul_of_nonneg_right hx (twp w);rw [Int.mul_add,Int.mul_one] at m2;rw [Int.mul_neg] at f2 g2
    omega
theorem jq7 {a b c d w:Int} (h0:0≤a) (h1:a≤b) (h2:0<c) (h3:c≤d):divLo a b c d w=vLo w a d∧divHi a b c d w=vHi w b c:=by
  have l1:=jjd (w:=w) h0 (Int.le_refl a) h2 h3;have l2:=jjd (w:=w) h0 h1 (show 0<d by omega) (Int.le_refl d);have l3:=jjd (w:=w) h0 h1 h2 h3;have u1:=jje (w:=w) (show 0≤b by omega) (Int.le_refl b) h2 h3;have u2:=jje (w:=w) h0 h1 h2 (Int.le_refl c);have u3:=jje (w:=w) h0 h1 h2 h3;unfold divLo divHi min4 max4
  omega
theorem jjf {a b c d w:Int} {u v:Rat} (h0:0≤a) (h1:a≤b) (h2:0<c) (h3:c≤d) (k1:(a:Rat)≤u*v*DD w) (k2:u*v*DD w≤(b:Rat)) (k3:(c:Rat)≤v*DD w) (k4:v*DD w≤(d:Rat)) :
    ((divLo a b c d w:Int):Rat)≤u*DD w∧u*DD w≤((divHi a b c d w:Int):Rat):=by
  obtain ⟨e1,e2⟩:=jq7 (w:=w) h0 h1 h2 h3;rw [e1,e2];obtain ⟨a1,-⟩:=jq5 (w:=w) (x:=a) (y:=d) (by omega);obtain ⟨a2,-⟩:=jq6 (w:=w) (x:=b) (y:=c) h2;have dp:=DD_pos w;have cp:(0:Rat)<(c:Rat):=Rat.intCast_pos.2 h2;have dpp:(0:Rat)<(d:Rat):=Rat.intCast_pos.2 (by omega);have av:(0:Rat)≤(a:Rat):=jag h0
  have vp:0<v:=by
    by_cases c:0<v
    · exact c
    · have:=Rat.mul_le_mul_of_nonneg_right (show v≤0 by grind) (Rat.le_of_lt dp);grind
  have up:0≤u:=by
    by_cases c:0≤u
    · exact c
    · have:=Rat.mul_pos (Rat.mul_pos (show 0 < -u by grind) vp) dp;grind
  constructor
  · refine Rat.le_of_mul_le_mul_right (c:=(d:Rat)) (Rat.le_trans a1 ?_) dpp
    have m1:=Rat.mul_le_mul_of_nonneg_right k1 (Rat.le_of_lt dp);have m2:=Rat.mul_le_mul_of_nonneg_left k4 (Rat.mul_nonneg up (Rat.le_of_lt dp))
    grind
  · refine Rat.le_of_mul_le_mul_right (c:=(c:Rat)) (Rat.le_trans ?_ a2) cp
    have m1:=Rat.mul_le_mul_of_nonneg_right k2 (Rat.le_of_lt dp);have m2:=Rat.mul_le_mul_of_nonneg_left k3 (Rat.mul_nonneg up (Rat.le_of_lt dp))
    grind
theorem c1r (a:Int):((a+1:Int):Rat)=(a:Rat)+1:=by rw [Rat.intCast_add];rfl
structure TwoOK (q lo0 hi0:Int):Prop where
  t0:0≤mulLo lo0 hi0 (lnLoZ (q+40)) (lnHiZ (q+40)) (q+40)
  t1:mulHi lo0 hi0 (lnLoZ (q+40)) (lnHiZ (q+40)) (q+40)≤2^(q+40).toNat
  tt:mulHi lo0 hi0 (lnLoZ (q+40)) (lnHiZ (q+40)) (q+40)≤mulLo lo0 hi0 (lnLoZ (q+40)) (lnHiZ (q+40)) (q+40)+10
theorem j1m {q lo0 hi0:Int} (q0:0≤q) (q1:q≤800) (h0:0≤lo0) (h1:lo0≤hi0) (h2:hi0≤lo0+1) (h3:hi0≤2^(q+40).toNat):TwoOK q lo0 hi0:=by
  obtain ⟨f1,f2,f3,f4,f5⟩:=ln_facts (w:=q+40) (by omega) (by omega);obtain ⟨w1,w2,w3⟩:=jkh (w:=q+40) (by omega) h0 h1 (show 0≤lnLoZ (q+40) by omega) f2;have d:=DD_pos (q+40);have big:=jg2 q0;have r0:(0:Rat)≤(lo0:Rat):=jag h0;have r2:=jag h2;have r3:(hi0:Rat)≤DD (q+40):=jag h3;have r4:=jag f3;have r5:=jag f2;have l0:(0:Rat)≤(lnLoZ (q+40):Rat):=jag (show 0≤lnLoZ (q+40) by omega);rw [c1r] at r2;rw [Rat.intCast_add,show ((4:Int):Rat)=4 from rfl] at r4;have m1:=Rat.mul_le_mul_of_nonneg_left r4 (show (0:Rat)≤(hi0:Rat) by have:=jag h1;grind);have m2:=Rat.mul_le_mul_of_nonneg_right r2 l0;have m3:=Rat.mul_le_mul_of_nonneg_left f5 (show (0:Rat)≤(hi0:Rat) by have:=jag h1;grind);have m4:=Rat.mul_le_mul_of_nonneg_right r3 (show (0:Rat)≤71/100*DD (q+40) by grind);have sq:=Rat.mul_le_mul_of_nonneg_right big (Rat.le_of_lt d);refine ⟨w1,rat_le ?_,rat_le ?_⟩
  · show _≤DD (q+40)
    refine jap d ?_
    grind
  · rw [Rat.intCast_add,show ((10:Int):Rat)=10 from rfl]
    have:(((mulHi lo0 hi0 (lnLoZ (q+40)) (lnHiZ (q+40)) (q+40):Int):Rat) - ((mulLo lo0 hi0 (lnLoZ (q+40)) (lnHiZ (q+40)) (q+40):Int):Rat))≤10:=by
      refine jap d (Rat.le_trans w2 ?_);have f4':(lnHiZ (q+40):Rat)≤(lnLoZ (q+40):Rat)+4:=r4
      grind
    grind
theorem jq8 {x:Rat} {n q lo0 hi0:Int} (q0:0≤q) (q1:q≤800) (hx:Bd 1024 x) (h1:(lo0:Rat)≤(x - (n:Rat))*DD (q+40)) (h2:(x - (n:Rat))*DD (q+40)≤(hi0:Rat)) (R:TwoOK q lo0 hi0) {w:Int} (hw:w=q+40) :
    Tells (fun m=>En m (x*lnn m)) (expLo (mulLo lo0 hi0 (lnLoZ w) (lnHiZ w) w) w (w / 4+10).toNat / 2^40) (0 - (0 - expHi (mulHi lo0 hi0 (lnLoZ w) (lnHiZ w) w) w (w / 4+10).toNat) / 2^40) n q:=by
  subst hw;refine ((jdg n 1024).and (Lim.late (P:=fun m _=>((q+40) / 4+10).toNat+((q+40+16) / 3+2).toNat≤m) (((q+40) / 4+10).toNat+((q+40+16) / 3+2).toNat) fun n ε h _=>h)).mono fun m ε he ⟨hl,hm⟩=>?_
  have lb:=jmb m;have bx:Bd 1024 (x*lnn m):=(hx.mul (show Bd 1 (lnn m) by unfold Bd;grind)).mono (by grind);refine ⟨En m (x*lnn m - (n:Rat)*lnn m),?_,hl _ bx⟩;have N:=jc1 (q:=q+40) (by omega) (by omega) (m:=m) (by omega);obtain ⟨e1,e2⟩:=jjc (w:=q+40) (by omega) h1 h2 N.1 N.2.1;have ee:(x - (n:Rat))*lnn m=x*lnn m - (n:Rat)*lnn m:=by grind
  rw [ee] at e1 e2;have t1:((mulHi lo0 hi0 (lnLoZ (q+40)) (lnHiZ (q+40)) (q+40):Int):Rat)≤DD (q+40):=jag R.t1;have tt:=jag R.tt;rw [Rat.intCast_add,show ((10:Int):Rat)=10 from rfl] at tt;exact fewer q0 (jcd (by omega) (by omega) R.t0 t1 e1 e2 (c:=10) (by grind) (by omega)) (by grind)
theorem jjg {w tl th:Int} {y:Rat} (w0:0≤w) (w1:w≤1000) (h0:0≤tl) (h1:20*(th:Rat)≤7*DD w) (a:(tl:Rat)≤y*DD w) (b:y*DD w≤(th:Rat)) {c:Rat} (hc:(th:Rat) - (tl:Rat)≤c) {m:Nat} (hm:(w / 3+2).toNat≤m) :
    Near (2048+4/3*c) (atanhLo tl w (w / 3+2).toNat) (atanhHi th w (w / 3+2).toNat) (Hn m y*DD w):=by
  have d:=DD_pos w;obtain ⟨u,hu⟩:=frac tl w;obtain ⟨v,hv⟩:=frac th w;have u0:0≤u:=jap d (by rw [←hu];have:(0:Rat)≤(tl:Rat):=jag h0;grind);have uy:u≤y:=jap d (by rw [←hu];exact a);have yv:y≤v:=jap d (by rw [←hv];exact b);have v1:v≤7/20:=jap d (by rw [←hv];grind);have su:=jcf u0 (show u≤7/20 by grind) u0 (show u≤7/20 by grind);have sv:=jcf (show 0≤v by grind) v1 (show 0≤v by grind) v1;have A:=jek hu u0 (by grind) (by grind) w0 w1 hm;have B:=jek hv (by grind) (by grind) (by grind) w0 w1 hm;obtain ⟨m1,m2⟩:=jno u0 uy (by grind) m;obtain ⟨m3,m4⟩:=jno (x:=y) (y:=v) (by grind) yv (by grind) m;have k1:=Rat.mul_le_mul_of_nonneg_right m1 (Rat.le_of_lt d);have k2:=Rat.mul_le_mul_of_nonneg_right m3 (Rat.le_of_lt d);have k3:=Rat.mul_le_mul_of_nonneg_right m2 (Rat.le_of_lt d);have k4:=Rat.mul_le_mul_of_nonneg_right m4 (Rat.le_of_lt d);exact A.ends B (c':=4/3*c) k1 k2 (by grind) (by grind)
structure LogOK (w ml mh:Int):Prop where
  d0:2^w.toNat≤ml
  d1:ml≤mh
  z0:0≤divLo (ml - 2^w.toNat) (mh - 2^w.toNat) (ml+2^w.toNat) (mh+2^w.toNat) w
  z1:20*divHi (ml - 2^w.toNat) (mh - 2^w.toNat) (ml+2^w.toNat) (mh+2^w.toNat) w≤7*2^w.toNat
  zz:divHi (ml - 2^w.toNat) (mh - 2^w.toNat) (ml+2^w.toNat) (mh+2^w.toNat) w≤divLo (ml - 2^w.toNat) (mh - 2^w.toNat) (ml+2^w.toNat) (mh+2^w.toNat) w+4
theorem j1n {w ml mh:Int} (w0:40≤w) (h0:2^w.toNat≤ml) (h1:ml≤mh) (h2:mh≤ml+1) (h3:mh≤2*2^w.toNat):LogOK w ml mh:=by
  have big:1099511627776≤DD w:=by
    have:=jg2 (q:=w - 40) (by omega);rw [show w - 40+40=w by omega] at this;exact this
  have d:=DD_pos w;have dz:(((2:Int)^w.toNat:Int):Rat)=DD w:=rfl;have dpos:(0:Int)<2^w.toNat:=Int.pow_pos (by omega);obtain ⟨e1,e2⟩:=jq7 (w:=w) (a:=ml - 2^w.toNat) (b:=mh - 2^w.toNat) (c:=ml+2^w.toNat) (d:=mh+2^w.toNat) (by omega) (by omega) (by omega) (by omega);obtain ⟨a1,a2⟩:=jq5 (w:=w) (x:=ml - 2^w.toNat) (y:=mh+2^w.toNat) (by omega);obtain ⟨b1,b2⟩:=jq6 (w:=w) (x:=mh - 2^w.toNat) (y:=ml+2^w.toNat) (by omega)
  have lo0:0≤vLo w (ml - 2^w.toNat) (mh+2^w.toNat):=by
    unfold vLo;rw [jey (by omega),Int.neg_neg,Int.neg_neg];exact Int.ediv_nonneg (Int.mul_nonneg (by omega) (by omega)) (by omega)
  have r0:=jag h0;have r1:=jag h1;have r2:=jag h2;have r3:=jag h3;rw [Rat.intCast_mul,show ((2:Int):Rat)=2 from rfl,dz] at r3;rw [dz] at r0;rw [c1r] at r2;rw [Rat.intCast_sub,Rat.intCast_add,dz] at a1 a2 b1 b2;have l0:(0:Rat)≤((vLo w (ml - 2^w.toNat) (mh+2^w.toNat):Int):Rat):=jag lo0;refine ⟨h0,h1,by rw [e1];exact lo0,?_,?_⟩
  · rw [e2]
    refine rat_le ?_;rw [Rat.intCast_mul,Rat.intCast_mul,dz,show ((20:Int):Rat)=20 from rfl,show ((7:Int):Rat)=7 from rfl]
    generalize ((vHi w (mh - 2^w.toNat) (ml+2^w.toNat):Int):Rat)=h at *
    generalize (ml:Rat)=x at *
    generalize (mh:Rat)=y at *
    clear a1 a2 e1 e2 l0;have m1:=Rat.mul_le_mul_of_nonneg_right (show y - DD w≤x+1 - DD w by grind) (Rat.le_of_lt d);have m2:=Rat.mul_le_mul_of_nonneg_right (show x≤2*DD w by grind) (Rat.le_of_lt d);have m3:=Rat.mul_le_mul_of_nonneg_right big (Rat.le_of_lt d);refine Rat.le_of_mul_le_mul_right (c:=x+DD w) ?_ (by grind)
    grind
  · rw [e1,e2]
    refine rat_le ?_;rw [Rat.intCast_add,show ((4:Int):Rat)=4 from rfl]
    generalize ((vHi w (mh - 2^w.toNat) (ml+2^w.toNat):Int):Rat)=h at *
    generalize ((vLo w (ml - 2^w.toNat) (mh+2^w.toNat):Int):Rat)=g at *
    generalize (ml:Rat)=x at *
    generalize (mh:Rat)=y at *
    clear e1 e2
    have gd:g≤DD w:=by
      refine Rat.le_of_mul_le_mul_right (c:=y+DD w) ?_ (by grind);have:=Rat.mul_nonneg (Rat.le_of_lt d) (Rat.le_of_lt d);have:=Rat.mul_le_mul_of_nonneg_right r1 (Rat.le_of_lt d)
      grind
    have m1:=Rat.mul_le_mul_of_nonneg_right (show y - DD w≤x - DD w+1 by grind) (Rat.le_of_lt d);have m2:=Rat.mul_le_mul_of_nonneg_left (show y+DD w≤x+DD w+1 by grind) l0;refine Rat.le_of_mul_le_mul_right (c:=x+DD w) ?_ (by grind)
    grind
theorem jft {w ml mh:Int} {x:Rat} (w0:40≤w) (w1:w≤1000) (R:LogOK w ml mh) (h1:(ml:Rat)≤x*DD w) (h2:x*DD w≤(mh:Rat)) {z:Rat} (hz:z*(x+1)=x - 1) {m:Nat} (hm:(w / 3+2).toNat≤m) :
    Near 4200 (atanhLo (divLo (ml - 2^w.toNat) (mh - 2^w.toNat) (ml+2^w.toNat) (mh+2^w.toNat) w) w (w / 3+2).toNat*2) (atanhHi (divHi (ml - 2^w.toNat) (mh - 2^w.toNat) (ml+2^w.toNat) (mh+2^w.toNat) w) w (w / 3+2).toNat*2) (2*Hn m z*DD w):=by
  have d:=DD_pos w;have dz:(((2:Int)^w.toNat:Int):Rat)=DD w:=rfl;have dpos:(0:Int)<2^w.toNat:=Int.pow_pos (by omega);have D0:=R.d0;have D1:=R.d1;obtain ⟨e1,e2⟩:=jjf (w:=w) (a:=ml - 2^w.toNat) (b:=mh - 2^w.toNat) (c:=ml+2^w.toNat) (d:=mh+2^w.toNat) (u:=z) (v:=x+1) (by omega) (by omega) (by omega) (by omega) (by rw [hz,Rat.intCast_sub,dz];grind) (by rw [hz,Rat.intCast_sub,dz];grind) (by rw [Rat.intCast_add,dz];grind) (by rw [Rat.intCast_add,dz];grind);have z1:=jag R.z1;rw [Rat.intCast_mul,Rat.intCast_mul,dz,show ((20:Int):Rat)=20 from rfl,show ((7:Int):Rat)=7 from rfl] at z1;have zz:=jag R.zz;rw [Rat.intCast_add,show ((4:Int):Rat)=4 from rfl] at zz;have N:=jjg (by omega) w1 R.z0 z1 e1 e2 (c:=4) (by grind) hm;unfold Near at *;rw [c2,c2]
  grind
def logF (z:Rat) (e:Int) (m:Nat):Rat:=2*Hn m z+(e:Rat)*lnn m
theorem jq9 {q ml mh e:Int} {x z:Rat} (q0:0≤q) (q1:q≤800) (he0 : -1200≤e) (he1:e≤1200) (R:LogOK (q+40) ml mh) (h1:(ml:Rat)≤x*DD (q+40)) (h2:x*DD (q+40)≤(mh:Rat)) (hz:z*(x+1)=x - 1) {w:Int} (hw:w=q+40) :
    Tells (logF z e) ((atanhLo (divLo (ml - 2^w.toNat) (mh - 2^w.toNat) (ml+2^w.toNat) (mh+2^w.toNat) w) w (w / 3+2).toNat*2+(if e<0 then lnHiZ w*e else lnLoZ w*e)) / 2^40) (0 - (0 - (atanhHi (divHi (ml - 2^w.toNat) (mh - 2^w.toNat) (ml+2^w.toNat) (mh+2^w.toNat) w) w (w / 3+2).toNat*2+(if e<0 then lnLoZ w*e else lnHiZ w*e))) / 2^40) 0 q:=by
  subst hw
  refine Lim.late (((q+40) / 3+2).toNat+((q+40+16) / 3+2).toNat) fun m ε hm hε=>⟨logF z e m,?_,by
    have:two 0=1:=rfl;rw [this];unfold Bd;grind⟩
  have N:=jc1 (q:=q+40) (by omega) (by omega) (m:=m) (by omega);have S:=jft (by omega) (by omega) R h1 h2 hz (m:=m) (by omega);obtain ⟨-,-,f3,-,-⟩:=ln_facts (w:=q+40) (by omega) (by omega);refine fewer (c:=10000) q0 ?_ (by grind);have er0:=jag he0;have er1:=jag he1;rw [show ((-1200:Int):Rat) = -1200 from rfl] at er0;rw [show ((1200:Int):Rat)=1200 from rfl] at er1;unfold logF
  by_cases hk:e<0
  · have kr:(e:Rat)≤0:=jag (show e≤0 by omega)
    obtain ⟨n1,n2,n3,n4⟩:=N;have m1:=Rat.mul_le_mul_of_nonneg_left n1 (show (0:Rat)≤-(e:Rat) by grind);have m2:=Rat.mul_le_mul_of_nonneg_left n2 (show (0:Rat)≤-(e:Rat) by grind);have m3:=Rat.mul_le_mul_of_nonneg_left n3 (show (0:Rat)≤-(e:Rat) by grind);have m4:=Rat.mul_le_mul_of_nonneg_left n4 (show (0:Rat)≤-(e:Rat) by grind);rw [if_pos hk,if_pos hk];unfold Near at *;rw [Rat.intCast_add,Rat.intCast_add,Rat.intCast_mul (lnHiZ _) e,Rat.intCast_mul (lnLoZ _) e]
    grind
  · have kr:(0:Rat)≤(e:Rat):=jag (show 0≤e by omega)
    obtain ⟨n1,n2,n3,n4⟩:=N;have m1:=Rat.mul_le_mul_of_nonneg_left n1 kr;have m2:=Rat.mul_le_mul_of_nonneg_left n2 kr;have m3:=Rat.mul_le_mul_of_nonneg_left n3 kr;have m4:=Rat.mul_le_mul_of_nonneg_left n4 kr;rw [if_neg hk,if_neg hk];unfold Near at *;rw [Rat.intCast_add,Rat.intCast_add,Rat.intCast_mul (lnHiZ _) e,Rat.intCast_mul (lnLoZ _) e]
    grind
theorem jki {d:Nat→Int} {T x:Int} (hd:∀k,0<d (k+1)) (hT:0≤T) (hx:0≤x):∀k,0≤rA d T x k
  | 0=>hx
  | k+1=>Int.ediv_nonneg (Int.mul_nonneg (jki hd hT hx k) hT) (Int.le_of_lt (hd k))
theorem j1o {a:Nat→Int} (h:∀k,0≤a k):∀n,0≤su a n
  | 0=>Int.le_refl _
  | n+1=>Int.add_nonneg (j1o h n) (h n)
theorem jns {t w:Int} (h:0≤t) (n:Nat):0≤atanhLo t w n:=
  j1o (fun k=>Int.ediv_nonneg (Int.mul_nonneg (jki (fun k=>by unfold dPow;exact Int.mul_pos (by omega) (Int.pow_pos (by omega))) (Int.mul_nonneg h h) h k) (by omega)) (Int.mul_nonneg (by omega) (by rw [show (2:Int)^(0:Int).toNat=1 from rfl];omega))) n
def log2F (z:Rat) (e:Int) (m:Nat):Rat:=2*Hn m z*(lnn m)⁻¹+(e:Rat)
structure Log2OK (w sl sh:Int):Prop where
  s0:0≤sl
  s1:sl≤sh
  dd:divLo sl sh (lnLoZ w) (lnHiZ w) w≤divHi sl sh (lnLoZ w) (lnHiZ w) w
theorem jy0 {w sl sh:Int} (w0:40≤w) (w1:w≤900) (s0:0≤sl) (s1:sl≤sh) {u:Rat} {m:Nat} (hm:((w+16) / 3+2).toNat≤m) (N:Near 4200 sl sh (u*DD w)) (hu:u≤9/10) :
    Near 20000 (divLo sl sh (lnLoZ w) (lnHiZ w) w) (divHi sl sh (lnLoZ w) (lnHiZ w) w) (u*(lnn m)⁻¹*DD w):=by
  obtain ⟨f1,f2,f3,f4,f5⟩:=ln_facts (w:=w) w0 w1;have L:=jc1 (q:=w) (by omega) (by omega) hm;have lm:=jjb m (by omega);have inv:=Rat.inv_mul_cancel (lnn m) (by grind);have d:=DD_pos w;obtain ⟨n1,n2,n3,n4⟩:=N;have eu:u*(lnn m)⁻¹*lnn m=u:=by grind
  obtain ⟨e1,e2⟩:=jjf (w:=w) (u:=u*(lnn m)⁻¹) (v:=lnn m) s0 s1 f1 f2 (by rw [eu];exact n1) (by rw [eu];exact n2) L.1 L.2.1;obtain ⟨q1,q2⟩:=jq7 (w:=w) s0 s1 f1 f2;obtain ⟨a1,a2⟩:=jq5 (w:=w) (x:=sl) (y:=lnHiZ w) (by omega);obtain ⟨b1,b2⟩:=jq6 (w:=w) (x:=sh) (y:=lnLoZ w) f1;rw [q1] at e1;rw [q2] at e2;rw [q1,q2];have r3:=jag f3;have r2:=jag f2;rw [Rat.intCast_add,show ((4:Int):Rat)=4 from rfl] at r3
  have lo0:0≤vLo w sl (lnHiZ w):=by
    unfold vLo;rw [jey (by omega),Int.neg_neg,Int.neg_neg];exact Int.ediv_nonneg (Int.mul_nonneg s0 (twp w)) (by omega)
  have l0:(0:Rat)≤((vLo w sl (lnHiZ w):Int):Rat):=jag lo0
  have sl9:(sl:Rat)≤9/10*DD w:=by
    have:=Rat.mul_le_mul_of_nonneg_right hu (Rat.le_of_lt d);grind
  unfold Near
  generalize u*(lnn m)⁻¹*DD w=v at *
  generalize ((vLo w sl (lnHiZ w):Int):Rat)=lo at *
  generalize ((vHi w sh (lnLoZ w):Int):Rat)=hi at *
  generalize (lnLoZ w:Rat)=L' at *
  generalize (lnHiZ w:Rat)=H' at *
  generalize (sl:Rat)=s at *
  generalize (sh:Rat)=t at *
  clear q1 q2 L lm inv eu
  have lo2:lo≤2*DD w:=by
    refine Rat.le_of_mul_le_mul_right (c:=H') (Rat.le_trans a1 ?_) (by grind);have x1:=Rat.mul_le_mul_of_nonneg_right sl9 (Rat.le_of_lt d);have x2:=Rat.mul_le_mul_of_nonneg_left (show 68/100*DD w≤H' by grind) (show (0:Rat)≤2*DD w by grind);have x3:=Rat.mul_nonneg (Rat.le_of_lt d) (Rat.le_of_lt d)
    grind
  have wide:hi≤lo+20000:=by
    refine Rat.le_of_mul_le_mul_right (c:=L') (Rat.le_trans b2 ?_) (by grind);have x1:=Rat.mul_le_mul_of_nonneg_right (show t≤s+8400 by grind) (Rat.le_of_lt d);have x2:=Rat.mul_le_mul_of_nonneg_left r3 l0
    grind
  clear f1 f2 f3 f4 f5 d lo0 l0 r3 r2 n1 n2 n3 n4 sl9 lo2 a1 a2 b1 b2
  grind
theorem log2_tells {q ml mh e:Int} {x z:Rat} (q0:0≤q) (q1:q≤800) (R:LogOK (q+40) ml mh) (x1:1≤x) (x2:x≤2) (h1:(ml:Rat)≤x*DD (q+40)) (h2:x*DD (q+40)≤(mh:Rat)) (hz:z*(x+1)=x - 1) {w:Int} (hw:w=q+40) {sl sh:Int}
    (hsl:sl=atanhLo (divLo (ml - 2^w.toNat) (mh - 2^w.toNat) (ml+2^w.toNat) (mh+2^w.toNat) w) w (w / 3+2).toNat*2) (hsh:sh=atanhHi (divHi (ml - 2^w.toNat) (mh - 2^w.toNat) (ml+2^w.toNat) (mh+2^w.toNat) w) w (w / 3+2).toNat*2) :
    Log2OK w sl sh∧Tells (log2F z e) ((divLo sl sh (lnLoZ w) (lnHiZ w) w+2^w.toNat*e) / 2^40) (0 - (0 - (divHi sl sh (lnLoZ w) (lnHiZ w) w+2^w.toNat*e)) / 2^40) 0 q:=by
  subst hw
  have z0:0≤z:=by
    by_cases c:0≤z
    · exact c
    · have:=Rat.mul_pos (show 0 < -z by grind) (show 0<x+1 by grind);grind
  have z3:z≤1/3:=by
    refine Rat.le_of_mul_le_mul_right (c:=x+1) ?_ (by grind)
    grind
  have s0:0≤sl:=by rw [hsl];have:=jns (w:=q+40) R.z0 ((q+40) / 3+2).toNat;omega
  have dz:(((2:Int)^(q+40).toNat:Int):Rat)=DD (q+40):=rfl
  have key:∀m,((q+40) / 3+2).toNat+((q+40+16) / 3+2).toNat≤m→Near 4200 sl sh (2*Hn m z*DD (q+40))∧2*Hn m z≤9/10:=fun m hm=>by
    rw [hsl,hsh];have hb:=(H_bd z0 (show z≤1/2 by grind) m).2;exact ⟨jft (by omega) (by omega) R h1 h2 hz (m:=m) (by omega),by grind⟩
  have s1:sl≤sh:=by
    have k:=(key _ (Nat.le_refl _)).1;exact rat_le (Rat.le_trans k.1 k.2.1)
  have key2:=fun m hm=>jy0 (w:=q+40) (by omega) (by omega) s0 s1 (m:=m) (by omega) (key m hm).1 (key m hm).2
  refine ⟨⟨s0,s1,?_⟩,Lim.late (((q+40) / 3+2).toNat+((q+40+16) / 3+2).toNat) fun m ε hm hε=>⟨log2F z e m,?_,by
    have:two 0=1:=rfl;rw [this];unfold Bd;grind⟩⟩
  · have k:=key2 _ (Nat.le_refl _)
    exact rat_le (Rat.le_trans k.1 k.2.1)
  · refine fewer (c:=20000) q0 ?_ (by grind)
    have k:=key2 m hm;unfold log2F;unfold Near at *;rw [Rat.intCast_add,Rat.intCast_add,Rat.intCast_mul,dz]
    grind
theorem jkj {c ε:Rat} (he:0<ε) (h:c*c≤1+ε):Bd (1+ε) c:=by
  constructor
  · by_cases k : -(1+ε)≤c
    · exact k
    · have:=jcf (show (0:Rat)≤1+ε by grind) (show 1+ε≤-c by grind) (show (0:Rat)≤1+ε by grind) (show 1+ε≤-c by grind)
      have:=Rat.mul_pos he he
      grind
  · by_cases k:c≤1+ε
    · exact k
    · have:=jcf (show (0:Rat)≤1+ε by grind) (show 1+ε≤c by grind) (show (0:Rat)≤1+ε by grind) (show 1+ε≤c by grind)
      have:=Rat.mul_pos he he
      grind
theorem ju1 (B:Rat):Lim fun n ε=>∀x,Bd B x→Bd (1+ε) (Cn n x)∧Bd (1+ε) (Sn n x):=(circle B).mono fun n ε he h x hx=>by
  have c:=h x hx;have s1:=jbv (Cn n x);have s2:=jbv (Sn n x);unfold Bd at c;exact ⟨jkj he (by grind),jkj he (by grind)⟩
theorem ju2 (B:Rat):Lim fun n ε=>∀x y,Bd B x→Bd B y→x≤y→Bd ((1+ε)*(y - x)) (Sn n y - Sn n x)∧Bd ((1+ε)*(y - x)) (Cn n y - Cn n x):=by
  refine (ju1 B).prev.mono ?_;rintro _ ε he ⟨n,rfl,h⟩ x y hx hy hxy;exact ⟨(jpt n).lip hxy fun z a b=>(h z (by unfold Bd at *;grind)).1,(jpu n).lip hxy fun z a b=>(h z (by unfold Bd at *;grind)).2.neg⟩
theorem clamp {s t d ε:Rat} (h:Bd ((1+ε)*d) (s - t)) (he:0<ε) (hd:0≤d):∃v,Bd d (v - t)∧Bd (ε*d) (v - s):=by
  have ed:=Rat.mul_nonneg (Rat.le_of_lt he) hd;unfold Bd at *
  by_cases h1:s - t≤d
  · by_cases h2 : -d≤s - t
    · exact ⟨s,by grind,by grind⟩
    · exact ⟨t - d,by grind,by grind⟩
  · exact ⟨t+d,by grind,by grind⟩
def hLoZ (w:Int):Int:=piLoZ w / 2
def hHiZ (w:Int):Int:=0 - (0 - piHiZ w) / 2
theorem jkk {w:Int} (h0:0≤w) (h1:w≤900) {m:Nat} (hm:2*((w+16) / 9+2).toNat≤m):Near 2 (hLoZ w) (hHiZ w) (hpn m*DD w):=by
  have N:=near_pi h0 h1 hm;have e:2*hpn m*DD w=hpn m*DD w*((2:Int):Rat):=by rw [show ((2:Int):Rat)=2 from rfl];grind
  rw [e] at N;exact (N.cast (c':=1) (by omega) (by rw [show ((2:Int):Rat)=2 from rfl];grind)).mono (by grind)
theorem half_facts {w:Int} (h0:40≤w) (h1:w≤900):0<hLoZ w∧hLoZ w≤hHiZ w∧hHiZ w≤hLoZ w+4∧(14/10:Rat)*DD w≤(hLoZ w:Rat)∧(hHiZ w:Rat)≤17/10*DD w:=by
  have N:=jkk (w:=w) (by omega) h1 (m:=2*((w+16) / 9+2).toNat) (Nat.le_refl _);have l:=jq3 (2*((w+16) / 9+2).toNat) (by omega)
  have big:1099511627776≤DD w:=by
    have:=jg2 (q:=w - 40) (by omega);rw [show w - 40+40=w by omega] at this;exact this
  generalize hpn (2*((w+16) / 9+2).toNat)=v at *
  have d:=DD_pos w;have k1:=Rat.mul_le_mul_of_nonneg_right l.1 (Rat.le_of_lt d);have k2:=Rat.mul_le_mul_of_nonneg_right l.2 (Rat.le_of_lt d);obtain ⟨n1,n2,n3,n4⟩:=N;have a:(14/10:Rat)*DD w≤(hLoZ w:Rat):=by grind
  refine ⟨Rat.intCast_pos.1 (by grind),rat_le (by grind),rat_le (by rw [Rat.intCast_add];show _≤_+(4:Rat);grind),a,by grind⟩
theorem ju3 {L H D lo0 hi0:Int} (f1:0<L) (f2:L≤H) (f3:H≤L+4) (f4:14*D≤10*L) (f5:10*H≤17*D) (big2:1099511627776≤D) (h0:0≤lo0) (h2:lo0≤hi0) (h3:hi0≤lo0+1) (a1:lo0≤1024*D) (k:Int) (hk:k=lo0 / H) :
    0≤k∧k≤800∧0≤lo0 - H*k∧lo0 - H*k≤2*D∧lo0 - H*k≤hi0 - L*k∧hi0 - L*k≤lo0 - H*k+4000:=by
  have hp:0<H:=by omega
  have e1:=Int.emod_add_mul_ediv lo0 H;have e2:=Int.emod_nonneg lo0 (show H≠0 by omega);have e3:=Int.emod_lt_of_pos lo0 hp;have kn:0≤lo0 / H:=Int.ediv_nonneg (by omega) (by omega);rw [←hk] at e1 kn
  have kb:k≤800:=by
    by_cases c:k≤800
    · exact c
    · have m:=Int.mul_le_mul_of_nonneg_left (show 801≤k by omega) (Int.le_of_lt hp)
      omega
  have m:=Int.mul_le_mul_of_nonneg_right kb (show 0≤H - L by omega);have m0:=Int.mul_nonneg kn (show 0≤H - L by omega);have e4:k*(H - L)=H*k - L*k:=by rw [Int.mul_sub,Int.mul_comm k,Int.mul_comm k]
  omega
theorem wave_ok {y:Rat} {q lo0 hi0:Int} (q0:0≤q) (q1:q≤800) (y1:y≤1024) (h0:0≤lo0) (h1:(lo0:Rat)≤y*DD (q+40)) (h2:lo0≤hi0) (h3:hi0≤lo0+1) (k:Int) (hk:k=lo0 / hHiZ (q+40)) :
    0≤k∧k≤800∧0≤lo0 - hHiZ (q+40)*k∧lo0 - hHiZ (q+40)*k≤2*2^(q+40).toNat∧lo0 - hHiZ (q+40)*k≤hi0 - hLoZ (q+40)*k∧hi0 - hLoZ (q+40)*k≤lo0 - hHiZ (q+40)*k+4000:=by
  obtain ⟨f1,f2,f3,f4,f5⟩:=half_facts (w:=q+40) (by omega) (by omega);have big:=jg2 q0;have d:=DD_pos (q+40);have x2:=Rat.mul_le_mul_of_nonneg_right y1 (Rat.le_of_lt d);have dz:DD (q+40)=(((2:Int)^(q+40).toNat:Int):Rat):=rfl;have big2:(1099511627776:Int)≤2^(q+40).toNat:=rat_le (by rw [←dz];exact big);have f4':14*2^(q+40).toNat≤10*hLoZ (q+40):=rat_le (by rw [Rat.intCast_mul,Rat.intCast_mul,←dz];show (14:Rat)*_≤10*_;grind);have f5':10*hHiZ (q+40)≤17*2^(q+40).toNat:=rat_le (by rw [Rat.intCast_mul,Rat.intCast_mul,←dz];show (10:Rat)*_≤17*_;grind);have a1:lo0≤1024*2^(q+40).toNat:=rat_le (by rw [Rat.intCast_mul,←dz];show _≤(1024:Rat)*_;grind);exact ju3 f1 f2 f3 f4' f5' big2 h0 h2 h3 a1 k hk
theorem jkl {y:Rat} {q lo0 hi0 k:Int} (b:Bool) (q0:0≤q) (q1:q≤800) (y0:0≤y) (y1:y≤1024) (h0:0≤lo0) (h1:(lo0:Rat)≤y*DD (q+40)) (h1':y*DD (q+40)≤(hi0:Rat)) (h2:lo0≤hi0) (h3:hi0≤lo0+1) (hk:k=lo0 / hHiZ (q+40)) {w:Int} (hw:w=q+40) {tl th:Int} (htl:tl=lo0 - hHiZ w*k) (hth:th=hi0 - hLoZ w*k) :
    Lim fun m ε=>∃v:Rat,Near 12000 ((if b then cosLo tl w (w / 8+6).toNat else sinLo tl w (w / 8+6).toNat) - (th - tl)) ((if b then cosHi tl w (w / 8+6).toNat else sinHi tl w (w / 8+6).toNat)+(th - tl)) (v*DD w)∧Bd ε (v - (if b then Cn m (y - (k:Rat)*hpn m) else Sn m (y - (k:Rat)*hpn m))):=by
  subst hw;obtain ⟨k0,k8,t0,t1,t2,t3⟩:=wave_ok q0 q1 y1 h0 h1 h2 h3 k hk;rw [←htl] at t0 t1 t2 t3;rw [←hth] at t2 t3;have d:=DD_pos (q+40);obtain ⟨u,hu⟩:=frac tl (q+40);have kr:(0:Rat)≤(k:Rat):=jag k0;have k8r:(k:Rat)≤800:=jag k8;refine ((ju2 5000).and (Lim.late (P:=fun m _=>2*((q+40+16) / 9+2).toNat+(4*((q+40) / 8+6).toNat+1)≤m) (2*((q+40+16) / 9+2).toNat+(4*((q+40) / 8+6).toNat+1)) fun n ε h _=>h)).trim (K:=5000) (by grind) ?_;rintro m δ hd ⟨wl,hm⟩ ε hε;have N:=jkk (w:=q+40) (by omega) (by omega) (m:=m) (by omega);have hp:=jq3 m (by omega)
  have r1:(tl:Rat)≤(y - (k:Rat)*hpn m)*DD (q+40):=by
    rw [htl,Rat.intCast_sub,Rat.intCast_mul];have:=Rat.mul_le_mul_of_nonneg_left N.2.1 kr
    grind
  have r2:(y - (k:Rat)*hpn m)*DD (q+40)≤(th:Rat):=by
    rw [hth,Rat.intCast_sub,Rat.intCast_mul];have:=Rat.mul_le_mul_of_nonneg_left N.1 kr
    grind
  have u0:0≤u:=jap d (by rw [←hu];have:(0:Rat)≤(tl:Rat):=jag t0;grind);have dz:(((2:Int)^(q+40).toNat:Int):Rat)=DD (q+40):=rfl;have t1r:=jag t1;rw [Rat.intCast_mul,dz,show ((2:Int):Rat)=2 from rfl] at t1r;have u2:u≤2:=jap d (by rw [←hu];exact t1r);have ur:u≤y - (k:Rat)*hpn m:=jap d (by rw [←hu];exact r1);have t3r:=jag t3;rw [Rat.intCast_add,show ((4000:Int):Rat)=4000 from rfl] at t3r;have kh:=Rat.mul_nonneg kr (show 0≤hpn m by grind);have br:Bd 5000 (y - (k:Rat)*hpn m):=by unfold Bd;grind
  have bu:Bd 5000 u:=by unfold Bd;grind
  have big:=jg2 q0;have gd:((y - (k:Rat)*hpn m) - u)*DD (q+40)≤(th:Rat) - (tl:Rat):=by grind
  generalize y - (k:Rat)*hpn m=r at *
  have g0:0≤r - u:=by grind
  have gs:r - u≤4000:=by
    have:=Rat.mul_le_mul_of_nonneg_left (show (1:Rat)≤DD (q+40) by grind) g0
    grind
  have wl:=wl u r bu br ur;have dg:=Rat.mul_le_mul_of_nonneg_left gs (Rat.le_of_lt hd);have gc:(((th - tl:Int)):Rat)=(th:Rat) - (tl:Rat):=Rat.intCast_sub _ _
  cases b with
  | true=>
    obtain ⟨v,c1,c2⟩:=clamp wl.2 hd g0;have R:=ju0 hu u0 u2 (w:=q+40) (by omega) (by omega) (m:=m) (by omega);refine ⟨v,?_,c2.mono (by grind)⟩;rw [if_pos rfl,if_pos rfl];have vd:=c1.mul (show Bd (DD (q+40)) (DD (q+40)) by unfold Bd;grind);unfold Near at *;rw [Rat.intCast_sub,Rat.intCast_add,gc];unfold Bd at vd
    grind
  | false=>
    obtain ⟨v,c1,c2⟩:=clamp wl.1 hd g0;have R:=juz hu u0 u2 (w:=q+40) (by omega) (by omega) (m:=m) (by omega);refine ⟨v,?_,c2.mono (by grind)⟩;rw [if_neg (by decide),if_neg (by decide)];have vd:=c1.mul (show Bd (DD (q+40)) (DD (q+40)) by unfold Bd;grind);unfold Near at *;rw [Rat.intCast_sub,Rat.intCast_add,gc];unfold Bd at vd
    grind
theorem Near.neg {c v:Rat} {lo hi:Int} (h:Near c lo hi v):Near c (hi * -1) (lo * -1) (-v):=by
  unfold Near at *;rw [show hi * -1 = -hi by omega,show lo * -1 = -lo by omega,Rat.intCast_neg,Rat.intCast_neg]
  grind
theorem j1p (j:Nat) (s c:Rat):rotS j s c=if j%4<2 then (if j%2=1 then c else s) else -(if j%2=1 then c else s):=by
  unfold rotS;have:j%4=0∨j%4=1∨j%4=2∨j%4=3:=by omega
  rcases this with h | h | h | h
  · rw [if_pos h,if_pos (by omega),if_neg (by omega)]
  · rw [if_neg (by omega),if_pos h,if_pos (by omega),if_pos (by omega)]
  · rw [if_neg (by omega),if_neg (by omega),if_pos h,if_neg (by omega),if_neg (by omega)]
  · rw [if_neg (by omega),if_neg (by omega),if_neg (by omega),if_neg (by omega),if_pos (by omega)]
theorem jie {x y:Rat} {q lo0 hi0 k:Int} (qt:Nat) (hqt:qt≤1) (neg:Bool) (hxy:x=if neg then -y else y) (q0:0≤q) (q1:q≤800) (y0:0≤y) (y1:y≤1024) (h0:0≤lo0) (h1:(lo0:Rat)≤y*DD (q+40)) (h1':y*DD (q+40)≤(hi0:Rat)) (h2:lo0≤hi0) (h3:hi0≤lo0+1) (hk:k=lo0 / hHiZ (q+40)) {w:Int} (hw:w=q+40) {tl th:Int} (htl:tl=lo0 - hHiZ w*k) (hth:th=hi0 - hLoZ w*k)
    (b fl:Bool) (hb:b=decide ((k.toNat+qt)%2=1)) (hf:fl=(decide (2≤(k.toNat+qt)%4) != (neg && decide (qt=0)))) {lo hi:Int}
    (hlo:lo=(if b then cosLo tl w (w / 8+6).toNat else sinLo tl w (w / 8+6).toNat) - (th - tl)) (hhi:hi=(if b then cosHi tl w (w / 8+6).toNat else sinHi tl w (w / 8+6).toNat)+(th - tl)) :
    Tells (fun m=>if qt=1 then Cn m x else Sn m x) ((if fl then hi * -1 else lo) / 2^40) (0 - (0 - (if fl then lo * -1 else hi)) / 2^40) 0 q:=by
  have wc:=jkl b q0 q1 y0 y1 h0 h1 h1' h2 h3 hk hw htl hth;rw [←hlo,←hhi] at wc;subst hw;obtain ⟨k0,k8,-⟩:=wave_ok q0 q1 y1 h0 h1 h2 h3 k hk;obtain ⟨j,rfl⟩:∃j:Nat,k=j:=⟨k.toNat,by omega⟩;rw [Int.toNat_natCast] at hb hf;have kr:(0:Rat)≤(j:Rat):=Rat.natCast_nonneg;have k8r:(j:Rat)≤800:=by have:=jag k8;rw [Rat.intCast_natCast] at this;exact this
  refine ((wc.and (quarters j 6000)).trim (K:=2) (by grind) ?_);rintro m δ hd ⟨⟨v,N,hv⟩,hq⟩ ε hε;rw [Rat.intCast_natCast] at hv;have hp:=jut m
  have br:Bd 6000 (y - (j:Rat)*hpn m):=by
    have:=(show Bd (j:Rat) (j:Rat) by unfold Bd;grind).mul hp;unfold Bd at *;grind
  have hq:=hq _ br;rw [show y - (j:Rat)*hpn m+(j:Rat)*hpn m=y by grind] at hq;have t0:two 0=1:=rfl
  have hS:Bd (2*δ) ((if decide (2≤(j+qt)%4) then -v else v) - (if qt=1 then Cn m y else Sn m y)):=by
    have hg:Bd δ ((if qt=1 then Cn m y else Sn m y) - rotS (j+qt) (Sn m (y - (j:Rat)*hpn m)) (Cn m (y - (j:Rat)*hpn m))):=by
      by_cases hqt1:qt=1
      · rw [if_pos hqt1,hqt1];exact hq.2
      · rw [if_neg hqt1,show qt=0 by omega];exact hq.1
    rw [j1p] at hg;rw [hb] at hv
    by_cases hj:(j+qt)%4<2
    · rw [if_pos hj] at hg
      rw [if_neg (by rw [decide_eq_true_iff];omega)]
      by_cases ho:(j+qt)%2=1
      · rw [if_pos ho] at hg;rw [if_pos (decide_eq_true ho)] at hv;unfold Bd at *;grind
      · rw [if_neg ho] at hg;rw [if_neg (by rw [decide_eq_true_iff];exact ho)] at hv;unfold Bd at *;grind
    · rw [if_neg hj] at hg
      rw [if_pos (decide_eq_true (by omega))]
      by_cases ho:(j+qt)%2=1
      · rw [if_pos ho] at hg;rw [if_pos (decide_eq_true ho)] at hv;unfold Bd at *;grind
      · rw [if_neg ho] at hg;rw [if_neg (by rw [decide_eq_true_iff];exact ho)] at hv;unfold Bd at *;grind
  have hX:(if qt=1 then Cn m x else Sn m x)=if (neg && decide (qt=0)) then -(if qt=1 then Cn m y else Sn m y) else (if qt=1 then Cn m y else Sn m y):=by
    rw [hxy]
    cases neg with
    | false=>rfl
    | true=>
      rw [if_pos rfl]
      by_cases hqt1:qt=1
      · subst hqt1
        rw [if_pos rfl,if_pos rfl,juq];rfl
      · rw [if_neg hqt1,if_neg hqt1,show qt=0 by omega,jur];rfl
  have NF:Near 12000 (if fl then hi * -1 else lo) (if fl then lo * -1 else hi) ((if fl then -v else v)*DD (q+40)):=by
    cases fl with
    | false=>exact N
    | true=>
      rw [if_pos rfl,if_pos rfl,if_pos rfl,show -v*DD (q+40) = -(v*DD (q+40)) by grind];exact N.neg
  refine ⟨if fl then -v else v,fewer q0 NF (by grind),?_⟩
  show Bd ε ((if fl then -v else v)*two 0 - (if qt=1 then Cn m x else Sn m x))
  rw [hX,t0,hf];refine Bd.mono (K:=2*δ) ?_ hε
  generalize (if qt=1 then Cn m y else Sn m y)=F at *
  generalize decide (2≤(j+qt)%4)=a at *
  generalize (neg && decide (qt=0))=c at *
  clear hX NF
  cases a <;> cases c <;> simp only [Bool.false_eq_true,if_false,if_true,bne_self_eq_false,Bool.bne_true,Bool.not_false,Bool.true_bne,Bool.not_true,Bool.false_bne] at * <;> unfold Bd at * <;> grind
end An
end Go.Proofs.YtllgjggkchgpbaaGreat
