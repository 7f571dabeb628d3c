/- Plain: analysis over rational numbers: slopes, series of e, sine, cosine, atanh, atan, and what they satisfy. -/
set_option linter.unusedVariables false
set_option linter.unusedSimpArgs false
namespace Go.Proofs.YtllgjggkchgpbaaGreat
namespace An
def Bd (K x:Rat):Prop := -K≤x∧x≤K
theorem Bd.mono {K L x:Rat} (h:Bd K x) (k:K≤L):Bd L x:=by unfold Bd at *;grind
theorem Bd.nonneg {K x:Rat} (h:Bd K x):0≤K:=by unfold Bd at *;grind
theorem Bd.add {K L x y:Rat} (h:Bd K x) (k:Bd L y):Bd (K+L) (x+y):=by unfold Bd at *;grind
theorem Bd.sub {K L x y:Rat} (h:Bd K x) (k:Bd L y):Bd (K+L) (x - y):=by unfold Bd at *;grind
theorem Bd.neg {K x:Rat} (h:Bd K x):Bd K (-x):=by unfold Bd at *;grind
theorem jcf {a b c d:Rat} (h1:0≤a) (h2:a≤b) (h3:0≤c) (h4:c≤d):a*c≤b*d:=
  Rat.le_trans (Rat.mul_le_mul_of_nonneg_right h2 h3) (Rat.mul_le_mul_of_nonneg_left h4 (Rat.le_trans h1 h2))
theorem Bd.mul {K L x y:Rat} (h:Bd K x) (k:Bd L y):Bd (K*L) (x*y):=by
  unfold Bd at *;have h1:=Rat.mul_nonneg (show (0:Rat)≤K - x by grind) (show (0:Rat)≤L - y by grind);have h2:=Rat.mul_nonneg (show (0:Rat)≤K+x by grind) (show (0:Rat)≤L+y by grind);have h3:=Rat.mul_nonneg (show (0:Rat)≤K - x by grind) (show (0:Rat)≤L+y by grind);have h4:=Rat.mul_nonneg (show (0:Rat)≤K+x by grind) (show (0:Rat)≤L - y by grind)
  constructor <;> grind
theorem Bd.zero:Bd 0 0:=by unfold Bd;grind
theorem jia (x:Rat):∃K,0≤K∧Bd K x:=by
  by_cases h:0≤x
  · exact ⟨x,h,by unfold Bd;grind⟩
  · exact ⟨-x,by grind,by unfold Bd;grind⟩
theorem jbv (x:Rat):0≤x*x:=by
  by_cases h:0≤x
  · exact Rat.mul_nonneg h h
  · have:=Rat.mul_nonneg (show (0:Rat)≤-x by grind) (show (0:Rat)≤-x by grind)
    grind
theorem arch (e d:Rat) (he:0<e):∃N:Nat,0<N∧d<e*N:=by
  refine ⟨(d / e).floor.toNat+1,by omega,?_⟩;have h:=Rat.lt_floor_add_one (d / e);have h2:((d/e).floor+1:Int)≤(((d / e).floor.toNat+1:Nat):Int):=by omega
  have h3:(((d/e).floor+1:Int):Rat)≤((((d / e).floor.toNat+1:Nat):Int):Rat):=Rat.intCast_le_intCast.2 h2;rw [Rat.intCast_natCast] at h3;have h4:d / e<(((d / e).floor.toNat+1:Nat):Rat):=by grind
  rw [Rat.div_lt_iff he] at h4;rw [Rat.mul_comm];exact h4
theorem jde {c d e:Rat} (h:∀N:Nat,0<N→c*N≤d*N+e):c≤d:=by
  by_cases k:c≤d
  · exact k
  · obtain ⟨N,hN,hl⟩:=arch (c - d) e (by grind)
    have:=h N hN
    grind
theorem jqm {c d K:Rat} (hK:0≤K) (h:∀ε:Rat,0<ε→c≤d+K*ε):c≤d:=by
  refine jde (e:=K) fun N hN=>?_
  have hp:(0:Rat)<N:=Rat.natCast_pos.2 hN;have hi:(0:Rat)<(N:Rat)⁻¹:=Rat.inv_pos.2 hp;have:=Rat.mul_le_mul_of_nonneg_right (h _ hi) (Rat.le_of_lt hp);have e:=Rat.inv_mul_cancel (N:Rat) (by grind);have e2:(d+K*(N:Rat)⁻¹)*N=d*N+K:=by grind
  rw [e2] at this;exact this
def Lim (P:Nat→Rat→Prop):Prop:=∀ε:Rat,0<ε→∃N:Nat,∀n,N≤n→P n ε
theorem Lim.mono {P Q:Nat→Rat→Prop} (h:Lim P) (k:∀n ε,0<ε→P n ε→Q n ε):Lim Q:=fun ε he=>by
  obtain ⟨N,hN⟩:=h ε he;exact ⟨N,fun n hn=>k n ε he (hN n hn)⟩
theorem Lim.and {P Q:Nat→Rat→Prop} (h:Lim P) (k:Lim Q):Lim fun n ε=>P n ε∧Q n ε:=fun ε he=>by
  obtain ⟨N,hN⟩:=h ε he;obtain ⟨M,hM⟩:=k ε he;exact ⟨N+M,fun n hn=>⟨hN n (by omega),hM n (by omega)⟩⟩
theorem Lim.small {P:Nat→Rat→Prop} (h:Lim P) {c:Rat} (hc:0<c):Lim fun n ε=>∃δ,0<δ∧δ≤ε∧δ≤c∧P n δ:=fun ε he=>by
  by_cases k:ε≤c
  · obtain ⟨N,hN⟩:=h ε he
    exact ⟨N,fun n hn=>⟨ε,he,by grind,k,hN n hn⟩⟩
  · obtain ⟨N,hN⟩:=h c hc
    exact ⟨N,fun n hn=>⟨c,hc,by grind,by grind,hN n hn⟩⟩
theorem Lim.all {P:Nat→Rat→Prop} (h:∀n ε,0<ε→P n ε):Lim P:=fun ε he=>⟨0,fun n _=>h n ε he⟩
theorem Lim.late {P:Nat→Rat→Prop} (m:Nat) (h:∀n ε,m≤n→0<ε→P n ε):Lim P:=fun ε he=>⟨m,fun n hn=>h n ε hn he⟩
theorem Lim.le {c d K:Rat} (hK:0≤K) (h:Lim fun _ ε=>c≤d+K*ε):c≤d:=
  jqm hK fun ε he=>by
    obtain ⟨N,hN⟩:=h ε he;exact hN N (Nat.le_refl _)
def Dif (f g:Rat→Rat):Prop:=∀B:Rat,∃K:Rat,0≤K∧∀x y,Bd B x→Bd B y→Bd K (f x)∧Bd K (g x)∧Bd (K*((y - x)*(y - x))) (f y - f x - (y - x)*g x)
theorem Dif.const (c:Rat):Dif (fun _=>c) (fun _=>0):=fun B=>by
  obtain ⟨K,h0,hK⟩:=jia c;refine ⟨K,h0,fun x y _ _=>⟨hK,Bd.mono Bd.zero h0,?_⟩⟩;have e:c - c - (y - x)*0=(0:Rat):=by grind
  rw [e];exact Bd.mono Bd.zero (Rat.mul_nonneg h0 (jbv _))
theorem Dif.id:Dif (fun x=>x) (fun _=>1):=fun B=>by
  obtain ⟨K,h0,hK⟩:=jia B;refine ⟨K+1,by grind,fun x y hx _=>⟨hx.mono (by unfold Bd at hK;grind),by unfold Bd;grind,?_⟩⟩;have e:y - x - (y - x)*1=(0:Rat):=by grind
  rw [e];exact Bd.mono Bd.zero (Rat.mul_nonneg (by grind) (jbv _))
theorem Dif.add {f g f' g':Rat→Rat} (h:Dif f f') (k:Dif g g'):Dif (fun x=>f x+g x) (fun x=>f' x+g' x):=fun B=>by
  obtain ⟨K,h0,hK⟩:=h B;obtain ⟨L,l0,hL⟩:=k B;refine ⟨K+L,by grind,fun x y hx hy=>?_⟩;obtain ⟨a1,a2,a3⟩:=hK x y hx hy;obtain ⟨b1,b2,b3⟩:=hL x y hx hy;refine ⟨a1.add b1,a2.add b2,?_⟩;have:=a3.add b3;have e:f y+g y - (f x+g x) - (y - x)*(f' x+g' x)=f y - f x - (y - x)*f' x+(g y - g x - (y - x)*g' x):=by grind
  rw [e];exact this.mono (by grind)
theorem Dif.mul {f g f' g':Rat→Rat} (h:Dif f f') (k:Dif g g'):Dif (fun x=>f x*g x) (fun x=>f' x*g x+f x*g' x):=fun B=>by
  obtain ⟨K,h0,hK⟩:=h B;obtain ⟨L,l0,hL⟩:=k B;obtain ⟨D,d0,hD⟩:=jia B;have kl:=Rat.mul_nonneg h0 l0;refine ⟨K*L*2+K*L+(K*L+(K*(2*D)+K)*(L*(2*D)+L)),?_,fun x y hx hy=>?_⟩
  · have m1:=Rat.mul_nonneg h0 (show (0:Rat)≤2*D by grind)
    have m2:=Rat.mul_nonneg l0 (show (0:Rat)≤2*D by grind);have:=Rat.mul_nonneg (show (0:Rat)≤K*(2*D)+K by grind) (show (0:Rat)≤L*(2*D)+L by grind)
    grind
  obtain ⟨a1,a2,a3⟩:=hK x y hx hy;obtain ⟨b1,b2,b3⟩:=hL x y hx hy;have m1:=Rat.mul_nonneg h0 (show (0:Rat)≤2*D by grind);have m2:=Rat.mul_nonneg l0 (show (0:Rat)≤2*D by grind);have m3:=Rat.mul_nonneg (show (0:Rat)≤K*(2*D)+K by grind) (show (0:Rat)≤L*(2*D)+L by grind);refine ⟨(a1.mul b1).mono (by grind),((a2.mul b1).add (a1.mul b2)).mono (by grind),?_⟩;have hyx:Bd (2*D) (y - x):=(hy.sub hx).mono (by unfold Bd at hD;grind);have c1:=a3.mul b1;have c2:=a1.mul b3;have sq0:=jbv (y - x)
  have key:Bd ((K*(2*D)+K)*(L*(2*D)+L)*((y - x)*(y - x))) ((f y - f x)*(g y - g x)):=by
    have absb:∃d,0≤d∧Bd d (y - x)∧d*d=(y - x)*(y - x)∧d≤2*D:=by
      by_cases hp:0≤y - x
      · exact ⟨y - x,hp,by unfold Bd;grind,rfl,hyx.2⟩
      · exact ⟨-(y - x),by grind,by unfold Bd;grind,by grind,by unfold Bd at hyx;grind⟩
    obtain ⟨d,dn,db,dd,dl⟩:=absb
    have f1:Bd (d*(K*(2*D)+K)) (f y - f x):=by
      have t1:=a3.add (db.mul a2);have e1:f y - f x - (y - x)*f' x+(y - x)*f' x=f y - f x:=by grind
      rw [e1,←dd] at t1;refine t1.mono ?_;have:=Rat.mul_le_mul_of_nonneg_left dl (Rat.mul_nonneg h0 dn)
      grind
    have f2:Bd (d*(L*(2*D)+L)) (g y - g x):=by
      have t1:=b3.add (db.mul b2);have e1:g y - g x - (y - x)*g' x+(y - x)*g' x=g y - g x:=by grind
      rw [e1,←dd] at t1;refine t1.mono ?_;have:=Rat.mul_le_mul_of_nonneg_left dl (Rat.mul_nonneg l0 dn)
      grind
    refine (f1.mul f2).mono ?_;rw [←dd]
    grind
  have e:f y*g y - f x*g x - (y - x)*(f' x*g x+f x*g' x)=(f y - f x - (y - x)*f' x)*g x+f x*(g y - g x - (y - x)*g' x)+(f y - f x)*(g y - g x):=by grind
  rw [e];refine ((c1.add c2).add key).mono ?_;have n1:=Rat.mul_nonneg kl sq0
  grind
theorem Dif.neg {f f':Rat→Rat} (h:Dif f f'):Dif (fun x => - f x) (fun x => - f' x):=fun B=>by
  obtain ⟨K,h0,hK⟩:=h B;refine ⟨K,h0,fun x y hx hy=>?_⟩;obtain ⟨a1,a2,a3⟩:=hK x y hx hy;refine ⟨a1.neg,a2.neg,?_⟩;have:=a3.neg;have e : - f y - - f x - (y - x) * - f' x = - (f y - f x - (y - x)*f' x):=by grind
  rw [e];exact this
theorem Dif.sub {f g f' g':Rat→Rat} (h:Dif f f') (k:Dif g g'):Dif (fun x=>f x - g x) (fun x=>f' x - g' x):=by
  have:=h.add k.neg;have e1:(fun x=>f x + - g x)=fun x=>f x - g x:=funext fun x=>by grind
  have e2:(fun x=>f' x + - g' x)=fun x=>f' x - g' x:=funext fun x=>by grind
  rw [e1,e2] at this;exact this
theorem Dif.of {f g f' g':Rat→Rat} (h:Dif f f') (e1:∀x,f x=g x) (e2:∀x,f' x=g' x):Dif g g':=by
  rw [show g=f from (funext e1).symm,show g'=f' from (funext e2).symm];exact h
theorem Dif.comp {f g f' g':Rat→Rat} (h:Dif f f') (k:Dif g g'):Dif (fun x=>g (f x)) (fun x=>f' x*g' (f x)):=fun B=>by
  obtain ⟨K,h0,hK⟩:=h B;obtain ⟨L,l0,hL⟩:=k K;obtain ⟨D,d0,hD⟩:=jia B;have m1:=Rat.mul_nonneg h0 (show (0:Rat)≤2*D by grind);have m3:=Rat.mul_nonneg (show (0:Rat)≤K*(2*D)+K by grind) (show (0:Rat)≤K*(2*D)+K by grind);have m4:=Rat.mul_nonneg l0 m3;have kl:=Rat.mul_nonneg h0 l0;refine ⟨L+K*L+L*((K*(2*D)+K)*(K*(2*D)+K)),by grind,fun x y hx hy=>?_⟩;obtain ⟨a1,a2,a3⟩:=hK x y hx hy;obtain ⟨a1',-,-⟩:=hK y y hy hy;obtain ⟨b1,b2,b3⟩:=hL (f x) (f y) a1 a1';have sq0:=jbv (y - x);refine ⟨b1.mono (by grind),(a2.mul b2).mono (by grind),?_⟩;have hyx:Bd (2*D) (y - x):=(hy.sub hx).mono (by unfold Bd at hD;grind)
  have absb:∃d,0≤d∧Bd d (y - x)∧d*d=(y - x)*(y - x)∧d≤2*D:=by
    by_cases hp:0≤y - x
    · exact ⟨y - x,hp,by unfold Bd;grind,rfl,hyx.2⟩
    · exact ⟨-(y - x),by grind,by unfold Bd;grind,by grind,by unfold Bd at hyx;grind⟩
  obtain ⟨d,dn,db,dd,dl⟩:=absb
  have f1:Bd (d*(K*(2*D)+K)) (f y - f x):=by
    have t1:=a3.add (db.mul a2);have e1:f y - f x - (y - x)*f' x+(y - x)*f' x=f y - f x:=by grind
    rw [e1,←dd] at t1;refine t1.mono ?_;have:=Rat.mul_le_mul_of_nonneg_left dl (Rat.mul_nonneg h0 dn)
    grind
  have key:(f y - f x)*(f y - f x)≤(K*(2*D)+K)*(K*(2*D)+K)*((y - x)*(y - x)):=by
    have:=(f1.mul f1).2;rw [←dd]
    grind
  have key2:=Rat.mul_le_mul_of_nonneg_left key l0;have c1:=a3.mul b2;have e:g (f y) - g (f x) - (y - x)*(f' x*g' (f x))=(f y - f x - (y - x)*f' x)*g' (f x)+(g (f y) - g (f x) - (f y - f x)*g' (f x)):=by grind
  rw [e];refine (c1.add b3).mono ?_;have n1:=Rat.mul_nonneg kl sq0;have n2:=Rat.mul_nonneg l0 sq0
  grind
theorem Dif.rise {f g:Rat→Rat} (h:Dif f g) {a b m:Rat} (hab:a≤b) (hm:∀x,a≤x→x≤b→m≤g x):m*(b - a)≤f b - f a:=by
  obtain ⟨K,h0,hK⟩:=h ((if 0≤a then a else -a)+(if 0≤b then b else -b))
  have hB:∀x,a≤x→x≤b→Bd ((if 0≤a then a else -a)+(if 0≤b then b else -b)) x:=by
    intro x h1 h2;unfold Bd;split <;> split <;> constructor <;> grind
  generalize (if 0≤a then a else -a)+(if 0≤b then b else -b)=B at hB hK
  have e0:0≤K*((b - a)*(b - a)):=Rat.mul_nonneg h0 (jbv _);refine jde (e:=K*((b - a)*(b - a))) fun N hN=>?_
  have hp:(0:Rat)<N:=Rat.natCast_pos.2 hN;have inv:=Rat.mul_inv_cancel (N:Rat) (by grind);have hi:(0:Rat)<(N:Rat)⁻¹:=Rat.inv_pos.2 hp
  generalize (N:Rat)⁻¹=i at inv hi
  have step:∀j:Nat,j≤N→(j:Rat)*((b - a)*i*m - K*(((b - a)*i)*((b - a)*i)))≤f (a+(j:Rat)*((b - a)*i)) - f a:=by
    intro j
    induction j with
    | zero=>
      intro _;have e:a+((0:Nat):Rat)*((b - a)*i)=a:=by grind
      rw [e];grind
    | succ j ih=>
      intro hj;have ih:=ih (by omega);have hw:(0:Rat)≤(b - a)*i:=Rat.mul_nonneg (by grind) (Rat.le_of_lt hi)
      have hjn:((j:Nat):Rat)+1≤(N:Rat):=by
        have:((j+1:Nat):Rat)≤((N:Nat):Rat):=Rat.natCast_le_natCast.2 hj;rw [Rat.natCast_add] at this;exact this
      have j0:(0:Rat)≤(j:Rat):=Rat.natCast_nonneg;have t1:=Rat.mul_le_mul_of_nonneg_right hjn hw;have tN:(N:Rat)*((b - a)*i)=b - a:=by grind
      have t2:=Rat.mul_nonneg j0 hw;have c:=hK (a+(j:Rat)*((b - a)*i)) (a+((j+1:Nat):Rat)*((b - a)*i)) (hB _ (by grind) (by grind)) (hB _ (by rw [Rat.natCast_add];grind) (by rw [Rat.natCast_add];grind));have mm:=hm (a+(j:Rat)*((b - a)*i)) (by grind) (by grind);have mm2:=Rat.mul_le_mul_of_nonneg_left mm hw;have c3:=c.2.2.1
      have e1:a+((j+1:Nat):Rat)*((b - a)*i) - (a+(j:Rat)*((b - a)*i))=(b - a)*i:=by
        rw [Rat.natCast_add];grind
      rw [e1] at c3;rw [Rat.natCast_add] at *
      grind
  have s:=step N (Nat.le_refl _);have e1:a+(N:Rat)*((b - a)*i)=b:=by grind
  rw [e1] at s;have s2:=Rat.mul_le_mul_of_nonneg_right s (Rat.le_of_lt hp);have e2:(N:Rat)*((b - a)*i*m - K*(((b - a)*i)*((b - a)*i)))*N=m*(b - a)*N - K*((b - a)*(b - a)):=by grind
  rw [e2] at s2
  generalize m*(b - a)*N=u at *
  generalize (f b - f a)*N=v at *
  generalize K*((b - a)*(b - a))=z at *
  clear hK hB hm step
  grind
theorem Dif.fall {f g:Rat→Rat} (h:Dif f g) {a b m:Rat} (hab:a≤b) (hm:∀x,a≤x→x≤b→g x≤m):f b - f a≤m*(b - a):=by
  have:=h.neg.rise (m := -m) hab (fun x h1 h2=>by have:=hm x h1 h2;grind)
  grind
theorem Dif.lip {f g:Rat→Rat} (h:Dif f g) {a b m:Rat} (hab:a≤b) (hm:∀x,a≤x→x≤b→Bd m (g x)):Bd (m*(b - a)) (f b - f a):=by
  have h1:=h.fall hab (fun x h1 h2=>(hm x h1 h2).2);have h2:=h.rise hab (fun x h1 h2=>(hm x h1 h2).1);unfold Bd;grind
def P (a:Nat→Rat):Nat→Rat→Rat
  | 0,_=>0
  | n+1,x=>P a n x+a n*x^n
def D (a:Nat→Rat) (i:Nat):Rat:=((i+1:Nat):Rat)*a (i+1)
theorem pow_succ' (x:Rat) (n:Nat):x^(n+1)=x^n*x:=Rat.pow_succ x n
theorem jqn:∀n:Nat,Dif (fun x=>x^(n+1)) (fun x=>((n+1:Nat):Rat)*x^n)
  | 0=>Dif.id.of (fun x=>by grind) (fun x=>by grind)
  | n+1=>((jqn n).mul Dif.id).of (fun x=>by rw [pow_succ' x (n+1)]) (fun x=>by
      rw [pow_succ' x n,Rat.natCast_add,Rat.natCast_add (n+1) 1];grind)
theorem jpr (a:Nat→Rat):∀n:Nat,Dif (P a (n+1)) (P (D a) n)
  | 0=>(Dif.const (a 0)).of (fun x=>by show _=0+a 0*x^0;rw [Rat.pow_zero];grind) (fun x=>rfl)
  | n+1=>((jpr a n).add ((Dif.const (a (n+1))).mul (jqn n))).of (fun x=>rfl) (fun x=>by
      show _=P (D a) n x+D a n*x^n
      unfold D;grind)
theorem j1d (a:Nat→Rat):∀(n:Nat) (x:Rat),P (fun i => - a i) n x = - P a n x
  | 0,x=>by show (0:Rat) = -0;grind
  | n+1,x=>by
    show P (fun i => - a i) n x + - a n*x^n = - (P a n x+a n*x^n)
    rw [j1d a n x];grind
theorem jib (a:Nat→Rat):∀n:Nat,P a (n+1) 0=a 0
  | 0=>by show 0+a 0*(0:Rat)^0=a 0;rw [Rat.pow_zero];grind
  | n+1=>by
    show P a (n+1) 0+a (n+1)*(0:Rat)^(n+1)=a 0
    rw [jib a n,pow_succ'];grind
def fE:Nat→Rat
  | 0=>1
  | n+1=>fE n*((n+1:Nat):Rat)⁻¹
def cSC:Nat→Rat×Rat
  | 0=>(0,1)
  | n+1=>((cSC n).2*((n+1:Nat):Rat)⁻¹,-(cSC n).1*((n+1:Nat):Rat)⁻¹)
def cS (n:Nat):Rat:=(cSC n).1
def cC (n:Nat):Rat:=(cSC n).2
theorem jyh (n:Nat):((n+1:Nat):Rat)≠0:=by
  have:(0:Rat)<((n+1:Nat):Rat):=Rat.natCast_pos.2 (by omega)
  grind
theorem jbh (n:Nat):((n+1:Nat):Rat)*((n+1:Nat):Rat)⁻¹=1:=Rat.mul_inv_cancel _ (jyh n)
theorem inv_pos (n:Nat):0<((n+1:Nat):Rat)⁻¹:=Rat.inv_pos.2 (Rat.natCast_pos.2 (by omega))
theorem D_E:D fE=fE:=funext fun n=>by
  show ((n+1:Nat):Rat)*(fE n*((n+1:Nat):Rat)⁻¹)=fE n
  have:=jbh n;grind
theorem D_S:D cS=cC:=funext fun n=>by
  show ((n+1:Nat):Rat)*(cC n*((n+1:Nat):Rat)⁻¹)=cC n
  have:=jbh n;grind
theorem D_C:D cC=fun n => - cS n:=funext fun n=>by
  show ((n+1:Nat):Rat)*(-cS n*((n+1:Nat):Rat)⁻¹) = -cS n
  have:=jbh n;grind
abbrev En:=P fE
abbrev Sn:=P cS
abbrev Cn:=P cC
theorem jps (n:Nat):Dif (En (n+1)) (En n):=by
  have:=jpr fE n;rw [D_E] at this;exact this
theorem jpt (n:Nat):Dif (Sn (n+1)) (Cn n):=by
  have:=jpr cS n;rw [D_S] at this;exact this
theorem jpu (n:Nat):Dif (Cn (n+1)) (fun x => - Sn n x):=by
  have:=jpr cC n;rw [D_C] at this;exact this.of (fun _=>rfl) (fun x=>j1d cS n x)
theorem jf4:∀n,0<fE n
  | 0=>by show (0:Rat)<1;grind
  | n+1=>Rat.mul_pos (jf4 n) (inv_pos n)
theorem jqo:∀n,Bd (fE n) (cS n)∧Bd (fE n) (cC n)
  | 0=>by
    refine ⟨?_,?_⟩
    · show -(1:Rat)≤0∧(0:Rat)≤1;grind
    · show -(1:Rat)≤1∧(1:Rat)≤1;grind
  | n+1=>by
    obtain ⟨h1,h2⟩:=jqo n;have hp:=inv_pos n;have hb:Bd ((n+1:Nat):Rat)⁻¹ ((n+1:Nat):Rat)⁻¹:=by unfold Bd;grind
    exact ⟨h2.mul hb,h1.neg.mul hb⟩
theorem jd1 {B x:Rat} (h:Bd B x):∀n:Nat,Bd (B^n) (x^n)
  | 0=>by rw [Rat.pow_zero,Rat.pow_zero];unfold Bd;grind
  | n+1=>by rw [pow_succ',pow_succ'];exact (jd1 h n).mul h
theorem P_bd {a b:Nat→Rat} (hab:∀i,Bd (b i) (a i)) {B x:Rat} (h:Bd B x):∀n,Bd (P b n B) (P a n x)
  | 0=>Bd.zero
  | n+1=>(P_bd hab h n).add ((hab n).mul (jd1 h n))
theorem jyi {B:Rat} (hB:0≤B):∀n m,n≤m→En n B≤En m B:=by
  intro n m h
  induction m with
  | zero=>rw [show n=0 by omega];grind
  | succ m ih=>
    by_cases k:n=m+1
    · rw [k];grind
    · have:=ih (by omega)
      show En n B≤En m B+fE m*B^m
      have:=Rat.mul_nonneg (Rat.le_of_lt (jf4 m)) (Rat.pow_nonneg hB (n:=m))
      grind
def tE (n:Nat) (B:Rat):Rat:=fE n*B^n
theorem jbp {B:Rat} (hB:0≤B) (n:Nat):0≤tE n B:=Rat.mul_nonneg (Rat.le_of_lt (jf4 n)) (Rat.pow_nonneg hB)
theorem jqp (n:Nat) (B:Rat):tE (n+1) B*((n+1:Nat):Rat)=tE n B*B:=by
  unfold tE
  show fE n*((n+1:Nat):Rat)⁻¹*B^(n+1)*((n+1:Nat):Rat)=fE n*B^n*B
  rw [pow_succ'];have:=jbh n;grind
theorem jl5 {B:Rat} (hB:0≤B) {n:Nat} (h:2*B≤((n+1:Nat):Rat)):2*tE (n+1) B≤tE n B:=by
  have e:=jqp n B;have p0:=jbp hB n;have p1:=jbp hB (n+1);have hp:(0:Rat)<((n+1:Nat):Rat):=Rat.natCast_pos.2 (by omega);have h2:=Rat.mul_le_mul_of_nonneg_left h p0;refine Rat.le_of_mul_le_mul_right (c:=((n+1:Nat):Rat)) ?_ hp
  generalize ((n+1:Nat):Rat)=k at *
  have e2:2*tE (n+1) B*k=2*(tE n B*B):=by grind
  rw [e2];grind
theorem jl6 (B:Rat):∃m:Nat,∀n,m≤n→2*B≤((n+1:Nat):Rat):=by
  obtain ⟨N,hN,hl⟩:=arch 1 (2*B) (by grind);refine ⟨N,fun n hn=>?_⟩;have:((N:Nat):Rat)≤((n+1:Nat):Rat):=Rat.natCast_le_natCast.2 (by omega)
  grind
theorem j1e {B:Rat} (hB:0≤B) {m:Nat} (hm:∀n,m≤n→2*B≤((n+1:Nat):Rat)):∀n,En n B≤En m B+2*tE m B:=by
  have key:∀j,En (m+j) B+2*tE (m+j) B≤En m B+2*tE m B:=by
    intro j
    induction j with
    | zero=>rw [Nat.add_zero];grind
    | succ j ih=>
      have h:=jl5 hB (hm (m+j) (by omega))
      show En (m+j) B+tE (m+j) B+2*tE (m+j+1) B≤_
      grind
  intro n
  rcases Nat.le_total n m with h | h
  · have:=jyi hB n m h
    have:=jbp hB m
    grind
  · obtain ⟨j,rfl⟩:=Nat.exists_eq_add_of_le h
    have:=key j;have:=jbp hB (m+j)
    grind
theorem j31 (B:Rat):∃M:Rat,0≤M∧∀a:Nat→Rat,(∀i,Bd (fE i) (a i))→∀n x,Bd B x→Bd M (P a n x):=by
  by_cases hB:0≤B
  · obtain ⟨m,hm⟩:=jl6 B
    have s:=j1e hB hm;refine ⟨En m B+2*tE m B,?_,fun a ha n x hx=>(P_bd ha hx n).mono (s n)⟩;have:=s 0;exact this
  · exact ⟨0,Rat.le_refl,fun a _ n x hx=>by have:=hx.nonneg;grind⟩
theorem jqq (B:Rat):Lim fun n ε=>tE n B≤ε:=fun ε he=>by
  by_cases hB:0≤B
  · obtain ⟨m,hm⟩:=jl6 B
    have key:∀j:Nat,tE (m+j) B*((j+1:Nat):Rat)≤tE m B:=by
      intro j
      induction j with
      | zero=>rw [Nat.add_zero];show tE m B*((1:Nat):Rat)≤_;grind
      | succ j ih=>
        have h:=jl5 hB (hm (m+j) (by omega));have p1:=jbp hB (m+j+1);have hj:(0:Rat)≤(j:Rat):=Rat.natCast_nonneg
        show tE (m+j+1) B*((j+1+1:Nat):Rat)≤_
        rw [Rat.natCast_add (j+1) 1,Rat.natCast_add j 1] at *;have q:=Rat.mul_le_mul_of_nonneg_right h (show (0:Rat)≤(j:Rat)+1 by grind);have q2:=Rat.mul_nonneg p1 hj
        grind
    obtain ⟨N,hN,hl⟩:=arch ε (tE m B) he;refine ⟨m+N,fun n hn=>?_⟩;obtain ⟨j,rfl⟩:=Nat.exists_eq_add_of_le (show m≤n by omega);have k:=key j;have p1:=jbp hB (m+j);have hj:((N:Nat):Rat)≤((j+1:Nat):Rat):=Rat.natCast_le_natCast.2 (by omega);have hp:(0:Rat)<((j+1:Nat):Rat):=Rat.natCast_pos.2 (by omega);refine Rat.le_of_mul_le_mul_right (c:=((j+1:Nat):Rat)) ?_ hp;have:=Rat.mul_le_mul_of_nonneg_left hj (Rat.le_of_lt he)
    grind
  · obtain ⟨m,hm⟩:=tE_lim_neg B (by grind) ε he
    exact ⟨m,hm⟩
where
  tE_lim_neg (B:Rat) (hB:B<0) (ε:Rat) (he:0<ε):∃N:Nat,∀n,N≤n→tE n B≤ε:=by
    obtain ⟨m,hm⟩:=jl6 (-B)
    have key:∀j:Nat,tE (m+j) (-B)*((j+1:Nat):Rat)≤tE m (-B):=by
      intro j
      induction j with
      | zero=>rw [Nat.add_zero];show tE m (-B)*((1:Nat):Rat)≤_;grind
      | succ j ih=>
        have h:=jl5 (show (0:Rat)≤-B by grind) (hm (m+j) (by omega));have p1:=jbp (show (0:Rat)≤-B by grind) (m+j+1);have hj:(0:Rat)≤(j:Rat):=Rat.natCast_nonneg
        show tE (m+j+1) (-B)*((j+1+1:Nat):Rat)≤_
        rw [Rat.natCast_add (j+1) 1,Rat.natCast_add j 1] at *;have q:=Rat.mul_le_mul_of_nonneg_right h (show (0:Rat)≤(j:Rat)+1 by grind);have q2:=Rat.mul_nonneg p1 hj
        grind
    obtain ⟨N,hN,hl⟩:=arch ε (tE m (-B)) he;refine ⟨m+N,fun n hn=>?_⟩;obtain ⟨j,rfl⟩:=Nat.exists_eq_add_of_le (show m≤n by omega);have k:=key j;have p1:=jbp (show (0:Rat)≤-B by grind) (m+j);have hj:((N:Nat):Rat)≤((j+1:Nat):Rat):=Rat.natCast_le_natCast.2 (by omega);have hp:(0:Rat)<((j+1:Nat):Rat):=Rat.natCast_pos.2 (by omega)
    have t:tE (m+j) (-B)≤ε:=by
      refine Rat.le_of_mul_le_mul_right (c:=((j+1:Nat):Rat)) ?_ hp;have:=Rat.mul_le_mul_of_nonneg_left hj (Rat.le_of_lt he)
      grind
    have b:Bd (tE (m+j) (-B)) (tE (m+j) B):=by
      have h1:Bd (fE (m+j)) (fE (m+j)):=by have:=jf4 (m+j);unfold Bd;grind
      exact h1.mul (jd1 (show Bd (-B) B by unfold Bd;grind) _)
    have:=b.2
    grind
theorem Dif.lip0 {f g:Rat→Rat} (h:Dif f g) {B b m:Rat} (hb:Bd B b) (hm:∀x,Bd B x→Bd m (g x)):Bd (m*B) (f b - f 0):=by
  have m0:=(hm 0 (by have:=hb.nonneg;unfold Bd;grind)).nonneg;have B0:=hb.nonneg
  by_cases k:0≤b
  · have:=h.lip k (fun x h1 h2=>hm x (by unfold Bd at *;grind))
    refine this.mono ?_;have:=Rat.mul_le_mul_of_nonneg_left (show b - 0≤B by unfold Bd at hb;grind) m0;exact this
  · have:=(h.lip (show b≤0 by grind) (fun x h1 h2=>hm x (by unfold Bd at *;grind))).neg
    have e : -(f 0 - f b)=f b - f 0:=by grind
    rw [e] at this;refine this.mono ?_;have:=Rat.mul_le_mul_of_nonneg_left (show 0 - b≤B by unfold Bd at hb;grind) m0;exact this
theorem je8 (c:Rat) {f g:Rat→Rat} (h:Dif f g):Dif (fun t=>f (c - t)) (fun t => - g (c - t)):=by
  have h1:Dif (fun t=>c - t) (fun _ => -1):=((Dif.const c).sub Dif.id).of (fun x=>rfl) (fun x=>by grind);exact (h1.comp h).of (fun x=>rfl) (fun x=>by grind)
theorem bE (i:Nat):Bd (fE i) (fE i):=by have:=jf4 i;unfold Bd;grind
theorem bS (i:Nat):Bd (fE i) (cS i):=(jqo i).1
theorem bC (i:Nat):Bd (fE i) (cC i):=(jqo i).2
theorem jcc {a:Nat→Rat} (ha:∀i,Bd (fE i) (a i)) {B x:Rat} (h:Bd B x) (n:Nat):Bd (tE n B) (a n*x^n):=(ha n).mul (jd1 h n)
theorem bounds (B:Rat):∃M:Rat,0≤M∧(∀n x,Bd B x→Bd M (En n x)∧Bd M (Sn n x)∧Bd M (Cn n x)):=by
  obtain ⟨M,h0,h⟩:=j31 B;exact ⟨M,h0,fun n x hx=>⟨h _ bE n x hx,h _ bS n x hx,h _ bC n x hx⟩⟩
theorem E0 (n:Nat):En (n+1) 0=1:=jib fE n
theorem S0 (n:Nat):Sn (n+1) 0=0:=jib cS n
theorem C0 (n:Nat):Cn (n+1) 0=1:=jib cC n
theorem lims {P:Nat→Rat→Prop} (B:Rat) {K:Rat} (hK:0≤K) (h:∀n δ,0≤δ→tE n B≤δ→P (n+1) (K*δ)) (mono:∀n ε ε',ε≤ε'→P n ε→P n ε'):Lim P:=fun ε he=>by
  have hp:(0:Rat)<K+1:=by grind
  have hi:=Rat.inv_pos.2 hp;have inv:=Rat.mul_inv_cancel (K+1) (by grind)
  generalize (K+1)⁻¹=i at hi inv
  obtain ⟨N,hN⟩:=jqq B (ε*i) (Rat.mul_pos he hi);refine ⟨N+1,fun n hn=>?_⟩;obtain ⟨m,rfl⟩:∃m,n=m+1:=⟨n - 1,by omega⟩;refine mono _ _ _ ?_ (h m (ε*i) (Rat.le_of_lt (Rat.mul_pos he hi)) (hN m (by omega)));have:=Rat.mul_pos he hi;have e:(K+1)*(ε*i)=ε:=by grind
  grind
theorem jl7 {B:Rat} {f:Nat→Rat→Rat→Rat}:∀n (ε ε':Rat),ε≤ε'→(∀a b,Bd B a→Bd B b→Bd ε (f n a b))→(∀a b,Bd B a→Bd B b→Bd ε' (f n a b)):=fun n ε ε' h k a b ha hb=>(k a b ha hb).mono h
theorem jl8 (B:Rat):Lim fun n ε=>∀a b,Bd B a→Bd B b→Bd ε (En n (a+b) - En n a*En n b):=by
  obtain ⟨M,h0,hM⟩:=bounds (4*B)
  by_cases hB:0≤B
  · refine lims (P:=fun n ε=>∀a b,Bd B a→Bd B b→Bd ε (En n (a+b) - En n a*En n b)) (4*B) (K:=2*M*B) (by have:=Rat.mul_nonneg h0 hB;grind) (fun n δ hd ht a b ha hb=>?_) jl7
    have hf:Dif (fun t=>En (n+1) (a+b - t)*En (n+1) t) (fun t=>(fE n*(a+b - t)^n)*En n t - En n (a+b - t)*(fE n*t^n)):=
      ((je8 (a+b) (jps n)).mul (jps n)).of (fun x=>rfl) (fun x=>by
        show -En n (a+b - x)*(En n x+fE n*x^n)+(En n (a+b - x)+fE n*(a+b - x)^n)*En n x=_
        grind)
    have l:=hf.lip0 hb (m:=2*M*δ) (fun x hx=>by
      have u:Bd (4*B) (a+b - x):=((ha.add hb).sub hx).mono (by grind);have v:Bd (4*B) x:=hx.mono (by grind);have t1:=(jcc bE u n).mono ht;have t2:=(jcc bE v n).mono ht;exact ((t1.mul (hM n x v).1).sub ((hM n _ u).1.mul t2)).mono (by grind))
    have e1:a+b - b=a:=by grind
    have e2:a+b - 0=a+b:=by grind
    rw [e1,e2,E0] at l;have e:En (n+1) (a+b) - En (n+1) a*En (n+1) b = -(En (n+1) a*En (n+1) b - En (n+1) (a+b)*1):=by grind
    rw [e];exact l.neg.mono (by grind)
  · exact fun ε he=>⟨0,fun n _ a b ha _=>by have:=ha.nonneg;grind⟩
theorem ji4 (B:Rat):Lim fun n ε=>∀a b,Bd B a→Bd B b→Bd ε (Cn n (a+b) - (Cn n a*Cn n b - Sn n a*Sn n b)):=by
  obtain ⟨M,h0,hM⟩:=bounds (4*B)
  by_cases hB:0≤B
  · refine lims (P:=fun n ε=>∀a b,Bd B a→Bd B b→Bd ε (Cn n (a+b) - (Cn n a*Cn n b - Sn n a*Sn n b))) (4*B) (K:=4*M*B) (by have:=Rat.mul_nonneg h0 hB;grind) (fun n δ hd ht a b ha hb=>?_) jl7
    have hf:Dif (fun t=>Cn (n+1) (a+b - t)*Cn (n+1) t - Sn (n+1) (a+b - t)*Sn (n+1) t) (fun t=>(Sn n (a+b - t)*(cC n*t^n) - (cC n*(a+b - t)^n)*Sn n t)+(Cn n (a+b - t)*(cS n*t^n) - (cS n*(a+b - t)^n)*Cn n t)):=
      (((je8 (a+b) (jpu n)).mul (jpu n)).sub ((je8 (a+b) (jpt n)).mul (jpt n))).of (fun x=>rfl) (fun x=>by
        show - -Sn n (a+b - x)*(Cn n x+cC n*x^n)+(Cn n (a+b - x)+cC n*(a+b - x)^n) * -Sn n x - (-Cn n (a+b - x)*(Sn n x+cS n*x^n)+(Sn n (a+b - x)+cS n*(a+b - x)^n)*Cn n x)=_
        grind)
    have l:=hf.lip0 hb (m:=4*M*δ) (fun x hx=>by
      have u:Bd (4*B) (a+b - x):=((ha.add hb).sub hx).mono (by grind);have v:Bd (4*B) x:=hx.mono (by grind);have c1:=(jcc bC u n).mono ht;have c2:=(jcc bC v n).mono ht;have s1:=(jcc bS u n).mono ht;have s2:=(jcc bS v n).mono ht;obtain ⟨-,p1,p2⟩:=hM n x v;obtain ⟨-,q1,q2⟩:=hM n _ u;exact (((q1.mul c2).sub (c1.mul p1)).add ((q2.mul s2).sub (s1.mul p2))).mono (by grind))
    have e1:a+b - b=a:=by grind
    have e2:a+b - 0=a+b:=by grind
    rw [e1,e2,C0,S0] at l;have e:Cn (n+1) (a+b) - (Cn (n+1) a*Cn (n+1) b - Sn (n+1) a*Sn (n+1) b) = -(Cn (n+1) a*Cn (n+1) b - Sn (n+1) a*Sn (n+1) b - (Cn (n+1) (a+b)*1 - Sn (n+1) (a+b)*0)):=by grind
    rw [e];exact l.neg.mono (by grind)
  · exact fun ε he=>⟨0,fun n _ a b ha _=>by have:=ha.nonneg;grind⟩
theorem jl9 (B:Rat):Lim fun n ε=>∀a b,Bd B a→Bd B b→Bd ε (Sn n (a+b) - (Sn n a*Cn n b+Cn n a*Sn n b)):=by
  obtain ⟨M,h0,hM⟩:=bounds (4*B)
  by_cases hB:0≤B
  · refine lims (P:=fun n ε=>∀a b,Bd B a→Bd B b→Bd ε (Sn n (a+b) - (Sn n a*Cn n b+Cn n a*Sn n b))) (4*B) (K:=4*M*B) (by have:=Rat.mul_nonneg h0 hB;grind) (fun n δ hd ht a b ha hb=>?_) jl7
    have hf:Dif (fun t=>Sn (n+1) (a+b - t)*Cn (n+1) t+Cn (n+1) (a+b - t)*Sn (n+1) t) (fun t=>((cC n*(a+b - t)^n)*Cn n t - Cn n (a+b - t)*(cC n*t^n))+(Sn n (a+b - t)*(cS n*t^n) - (cS n*(a+b - t)^n)*Sn n t)):=
      (((je8 (a+b) (jpt n)).mul (jpu n)).add ((je8 (a+b) (jpu n)).mul (jpt n))).of (fun x=>rfl) (fun x=>by
        show -Cn n (a+b - x)*(Cn n x+cC n*x^n)+(Sn n (a+b - x)+cS n*(a+b - x)^n) * -Sn n x+(- -Sn n (a+b - x)*(Sn n x+cS n*x^n)+(Cn n (a+b - x)+cC n*(a+b - x)^n)*Cn n x)=_
        grind)
    have l:=hf.lip0 hb (m:=4*M*δ) (fun x hx=>by
      have u:Bd (4*B) (a+b - x):=((ha.add hb).sub hx).mono (by grind);have v:Bd (4*B) x:=hx.mono (by grind);have c1:=(jcc bC u n).mono ht;have c2:=(jcc bC v n).mono ht;have s1:=(jcc bS u n).mono ht;have s2:=(jcc bS v n).mono ht;obtain ⟨-,p1,p2⟩:=hM n x v;obtain ⟨-,q1,q2⟩:=hM n _ u;exact (((c1.mul p2).sub (q2.mul c2)).add ((q1.mul s2).sub (s1.mul p1))).mono (by grind))
    have e1:a+b - b=a:=by grind
    have e2:a+b - 0=a+b:=by grind
    rw [e1,e2,C0,S0] at l;have e:Sn (n+1) (a+b) - (Sn (n+1) a*Cn (n+1) b+Cn (n+1) a*Sn (n+1) b) = -(Sn (n+1) a*Cn (n+1) b+Cn (n+1) a*Sn (n+1) b - (Sn (n+1) (a+b)*1+Cn (n+1) (a+b)*0)):=by grind
    rw [e];exact l.neg.mono (by grind)
  · exact fun ε he=>⟨0,fun n _ a b ha _=>by have:=ha.nonneg;grind⟩
theorem ji5:∀n:Nat,(-1:Rat)^n*cC n=cC n∧(-1:Rat)^n*cS n = - cS n
  | 0=>by
    rw [Rat.pow_zero]
    show 1*(1:Rat)=1∧1*(0:Rat) = -0
    grind
  | n+1=>by
    obtain ⟨h1,h2⟩:=ji5 n;have e1:cC (n+1) = -cS n*((n+1:Nat):Rat)⁻¹:=rfl;have e2:cS (n+1)=cC n*((n+1:Nat):Rat)⁻¹:=rfl;rw [pow_succ',e1,e2]
    constructor <;> grind
theorem ji6 (x:Rat):∀n:Nat,(-x)^n=(-1:Rat)^n*x^n
  | 0=>by rw [Rat.pow_zero,Rat.pow_zero,Rat.pow_zero];grind
  | n+1=>by rw [pow_succ',pow_succ',pow_succ',ji6 x n];grind
theorem juq (x:Rat):∀n,Cn n (-x)=Cn n x
  | 0=>rfl
  | n+1=>by
    show Cn n (-x)+cC n*(-x)^n=Cn n x+cC n*x^n
    rw [juq x n,ji6];have:=(ji5 n).1;grind
theorem jur (x:Rat):∀n,Sn n (-x) = - Sn n x
  | 0=>by show (0:Rat) = -0;grind
  | n+1=>by
    show Sn n (-x)+cS n*(-x)^n = -(Sn n x+cS n*x^n)
    rw [jur x n,ji6];have:=(ji5 n).2;grind
theorem circle (B:Rat):Lim fun n ε=>∀a,Bd B a→Bd ε (Cn n a*Cn n a+Sn n a*Sn n a - 1):=
  ((ji4 B).and (Lim.late 1 (P:=fun n _=>1≤n) fun n ε h _=>h)).mono fun n ε he h a ha=>by
    have:=h.1 a (-a) ha ha.neg;rw [juq,jur] at this;have e:a + -a=0:=by grind
    obtain ⟨m,hm⟩:∃m,n=m+1:=⟨n - 1,by have:=h.2;omega⟩;rw [e,hm,C0,←hm] at this;have e2:Cn n a*Cn n a+Sn n a*Sn n a - 1 = -(1 - (Cn n a*Cn n a - Sn n a * - Sn n a)):=by grind
    rw [e2];exact this.neg
theorem Lim.prev {P:Nat→Rat→Prop} (h:Lim P):Lim fun n ε=>∃m,n=m+1∧P m ε:=fun ε he=>by
  obtain ⟨N,hN⟩:=h ε he;exact ⟨N+1,fun n hn=>⟨n - 1,by omega,hN _ (by omega)⟩⟩
theorem Lim.trim {P Q:Nat→Rat→Prop} (h:Lim P) {K:Rat} (hK:0≤K) (k:∀n δ,0<δ→P n δ→∀ε,K*δ≤ε→Q n ε):Lim Q:=fun ε he=>by
  have hp:(0:Rat)<K+1:=by grind
  have hi:=Rat.inv_pos.2 hp;have inv:=Rat.mul_inv_cancel (K+1) (by grind)
  generalize (K+1)⁻¹=i at hi inv
  have hd:=Rat.mul_pos he hi;obtain ⟨N,hN⟩:=h (ε*i) hd;refine ⟨N,fun n hn=>k n _ hd (hN n hn) ε ?_⟩;have e:(K+1)*(ε*i)=ε:=by grind
  grind
theorem jic {u g r k:Rat} (hk:0≤k) (hu:1≤k*u) (h:Bd r (u*g)):Bd (k*r) g:=by
  have h1:=Rat.mul_le_mul_of_nonneg_left h.1 hk;have h2:=Rat.mul_le_mul_of_nonneg_left h.2 hk;have e:k*(u*g)=k*u*g:=by grind
  rw [e] at h1 h2
  generalize k*u=v at *
  by_cases hg:0≤g
  · have:=Rat.mul_le_mul_of_nonneg_right hu hg
    unfold Bd;grind
  · have:=Rat.mul_le_mul_of_nonneg_right hu (show (0:Rat)≤-g by grind)
    unfold Bd;grind
theorem ji7:∀n:Nat,((1:Rat)/2)^n*((n+1:Nat):Rat)≤1
  | 0=>by rw [Rat.pow_zero];show (1:Rat)*((1:Nat):Rat)≤1;grind
  | n+1=>by
    have h:=ji7 n;have p:(0:Rat)≤((1:Rat)/2)^n:=Rat.pow_nonneg (by grind);have hn:(0:Rat)≤(n:Rat):=Rat.natCast_nonneg;have q:=Rat.mul_nonneg p hn;rw [pow_succ',Rat.natCast_add (n+1) 1];rw [Rat.natCast_add] at *
    grind
theorem pow_lim:Lim fun n ε=>∀z,Bd (1/2) z→Bd ε (z^n):=fun ε he=>by
  obtain ⟨N,hN,hl⟩:=arch ε 1 he;refine ⟨N,fun n hn z hz=>(jd1 hz n).mono ?_⟩;have h:=ji7 n;have hp:(0:Rat)<((n+1:Nat):Rat):=Rat.natCast_pos.2 (by omega);have hj:((N:Nat):Rat)≤((n+1:Nat):Rat):=Rat.natCast_le_natCast.2 (by omega);refine Rat.le_of_mul_le_mul_right (c:=((n+1:Nat):Rat)) ?_ hp;have:=Rat.mul_le_mul_of_nonneg_left hj (Rat.le_of_lt he)
  grind
theorem ode {f g:Rat→Rat} (h:Dif f g) {c L δ δ' A:Rat} (hL:L*c≤1/2) (L0:0≤L) (h0:Bd δ (f 0)) (hA:∀z,0≤z→z≤c→Bd A (f z)) (d0:0≤δ')
    (hg:∀z b,0≤z→z≤c→Bd b (f z)→Bd (L*b+δ') (g z)):∀z,0≤z→z≤c→Bd (2*(δ+c*δ')) (f z):=by
  intro z hz hc;have D0:=h0.nonneg;have c0:0≤c:=Rat.le_trans hz hc;have A0:=(hA z hz hc).nonneg;have cd:=Rat.mul_nonneg c0 d0
  have step:∀j:Nat,∀z,0≤z→z≤c→Bd (A*((1:Rat)/2)^j+2*(δ+c*δ')) (f z):=by
    intro j
    induction j with
    | zero=>intro z h1 h2;rw [Rat.pow_zero];exact (hA z h1 h2).mono (by grind)
    | succ j ih=>
      intro z h1 h2;have p:(0:Rat)≤((1:Rat)/2)^j:=Rat.pow_nonneg (by grind);have ap:=Rat.mul_nonneg A0 p;have l:=h.lip h1 (fun x x1 x2=>hg x _ x1 (Rat.le_trans x2 h2) (ih x x1 (Rat.le_trans x2 h2)));have b:=l.add h0;have e:f z - f 0+f 0=f z:=by grind
      rw [e] at b;refine b.mono ?_;have e2:A*(((1:Rat)/2)^j*(1/2))=A*((1:Rat)/2)^j*(1/2):=by grind
      rw [pow_succ',e2]
      generalize A*((1:Rat)/2)^j=a at *
      have n1:0≤L*(a+2*(δ+c*δ'))+δ':=by
        have:=Rat.mul_nonneg L0 (show 0≤a+2*(δ+c*δ') by grind)
        grind
      have n2:=Rat.mul_le_mul_of_nonneg_left (show z - 0≤c by grind) n1;have n3:=Rat.mul_le_mul_of_nonneg_right hL (show 0≤a+2*(δ+c*δ') by grind);have e3:(L*(a+2*(δ+c*δ'))+δ')*c=L*c*(a+2*(δ+c*δ'))+c*δ':=by grind
      rw [e3] at n2
      generalize L*c*(a+2*(δ+c*δ'))=u at *
      clear e3 hg hA ih l
      grind
  have key:∀N:Nat,0<N→Bd (2*(δ+c*δ')*N+A) (f z*N):=by
    intro N hN;have hp:(0:Rat)<(N:Rat):=Rat.natCast_pos.2 hN;have b:=(step (N - 1) z hz hc).mul (show Bd (N:Rat) (N:Rat) by unfold Bd;grind);refine b.mono ?_;have hh:=ji7 (N - 1);rw [show N - 1+1=N by omega] at hh;have:=Rat.mul_le_mul_of_nonneg_left hh A0
    grind
  constructor
  · have:=jde (c := - f z) (d:=2*(δ+c*δ')) (e:=A) fun N hN=>by have:=(key N hN).1;grind
    grind
  · exact jde (e:=A) fun N hN=>(key N hN).2
def cT:Nat→Rat
  | n=>if n%2=0 then 0 else if n%4=1 then (n:Rat)⁻¹ else -(n:Rat)⁻¹
def cH:Nat→Rat
  | n=>if n%2=0 then 0 else (n:Rat)⁻¹
def gH (n:Nat):Rat:=if n%2=0 then 1 else 0
def gT (n:Nat):Rat:=if n%2=0 then (if n%4=0 then 1 else -1) else 0
theorem D_H:D cH=gH:=funext fun n=>by
  show ((n+1:Nat):Rat)*(if (n+1)%2=0 then 0 else ((n+1:Nat):Rat)⁻¹)=if n%2=0 then 1 else 0
  have:=jbh n
  split <;> split <;> first | omega | grind
theorem D_T:D cT=gT:=funext fun n=>by
  show ((n+1:Nat):Rat)*(if (n+1)%2=0 then 0 else if (n+1)%4=1 then ((n+1:Nat):Rat)⁻¹ else -((n+1:Nat):Rat)⁻¹)=if n%2=0 then (if n%4=0 then 1 else -1) else 0
  have:=jbh n
  split <;> split <;> (try split) <;> (try split) <;> first | omega | grind
def Hn (n:Nat):Rat→Rat:=P cH (2*n+1)
def Tn (n:Nat):Rat→Rat:=P cT (2*n+1)
def Gn (n:Nat):Rat→Rat:=P gH (2*n)
def Qn (n:Nat):Rat→Rat:=P gT (2*n)
theorem jqr (n:Nat):Dif (Hn n) (Gn n):=by have:=jpr cH (2*n);rw [D_H] at this;exact this
theorem jpv (n:Nat):Dif (Tn n) (Qn n):=by have:=jpr cT (2*n);rw [D_T] at this;exact this
theorem jgb (z:Rat):∀n:Nat,z^(2*n)=(z*z)^n
  | 0=>by rw [Rat.pow_zero,Rat.pow_zero]
  | n+1=>by
    rw [show 2*(n+1)=2*n+1+1 by omega,pow_succ',pow_succ',pow_succ',jgb z n];grind
theorem G_eq (z:Rat):∀n,(1 - z*z)*Gn n z=1 - (z*z)^n
  | 0=>by rw [Rat.pow_zero];show (1 - z*z)*0=1 - (1:Rat);grind
  | n+1=>by
    have h:=G_eq z n
    have e:Gn (n+1) z=Gn n z+(z*z)^n:=by
      show P gH (2*n+1+1) z=_
      show P gH (2*n) z+gH (2*n)*z^(2*n)+gH (2*n+1)*z^(2*n+1)=_
      have e1:gH (2*n)=1:=if_pos (by omega);have e2:gH (2*n+1)=0:=if_neg (by omega);rw [e1,e2,jgb]
      show Gn n z+_+_=_
      grind
    rw [e,pow_succ'];grind
theorem Q_eq (z:Rat):∀n,(1+z*z)*Qn n z=1 - (-(z*z))^n
  | 0=>by rw [Rat.pow_zero];show (1+z*z)*0=1 - (1:Rat);grind
  | n+1=>by
    have h:=Q_eq z n
    have e:Qn (n+1) z=Qn n z+(-(z*z))^n:=by
      show P gT (2*n+1+1) z=_
      show P gT (2*n) z+gT (2*n)*z^(2*n)+gT (2*n+1)*z^(2*n+1)=_
      have e2:gT (2*n+1)=0:=if_neg (by omega)
      have e1:gT (2*n)*z^(2*n)=(-(z*z))^n:=by
        rw [jgb,ji6 (z*z)]
        have k:∀m:Nat,gT (2*m)=(-1:Rat)^m:=by
          intro m
          induction m with
          | zero=>rfl
          | succ m ih=>
            rw [pow_succ',←ih];unfold gT;rw [if_pos (show 2*(m+1)%2=0 by omega),if_pos (show 2*m%2=0 by omega)]
            by_cases hm:m%2=0
            · rw [if_neg (by omega),if_pos (by omega)];grind
            · rw [if_pos (by omega),if_neg (by omega)];grind
        rw [k]
      rw [e2,e1]
      show Qn n z+_+_=_
      grind
    rw [e,pow_succ'];grind
theorem H0 (n:Nat):Hn n 0=0:=jib cH (2*n)
theorem T0 (n:Nat):Tn n 0=0:=jib cT (2*n)
theorem jc0 {z:Rat} (h0:0≤z) (h1:z≤1/2):0≤z*z∧z*z≤1/4:=by
  have:=jcf h0 h1 h0 h1;have:=Rat.mul_nonneg h0 h0
  grind
theorem jgu:∀n:Nat,(1:Rat)^n=1
  | 0=>Rat.pow_zero _
  | n+1=>by rw [pow_succ',jgu n];grind
theorem G_bd {z:Rat} (h0:0≤z) (h1:z≤1/2) (n:Nat):0≤Gn n z∧Gn n z≤4/3:=by
  obtain ⟨q0,q1⟩:=jc0 h0 h1;have e:=G_eq z n;have p0:0≤(z*z)^n:=Rat.pow_nonneg q0
  have p1:(z*z)^n≤1:=by
    have:=(jd1 (show Bd 1 (z*z) by unfold Bd;grind) n).2;rw [jgu] at this;exact this
  generalize (z*z)^n=w at *
  generalize Gn n z=g at *
  generalize z*z=q at *
  have b:=jic (u:=1 - q) (g:=g) (r:=1) (k:=4/3) (by grind) (by grind) (by rw [e];unfold Bd;grind);refine ⟨?_,by unfold Bd at b;grind⟩
  by_cases hg:0≤g
  · exact hg
  · have:=Rat.mul_le_mul_of_nonneg_right (show (1:Rat)/2≤1 - q by grind) (show 0≤-g by grind)
    grind
theorem H_bd {z:Rat} (h0:0≤z) (h1:z≤1/2) (n:Nat):0≤Hn n z∧Hn n z≤4/3*z:=by
  have r:=(jqr n).rise (m:=0) h0 (fun x a b=>(G_bd a (Rat.le_trans b h1) n).1);have f:=(jqr n).fall (m:=4/3) h0 (fun x a b=>(G_bd a (Rat.le_trans b h1) n).2);rw [H0] at r f
  grind
theorem j1f {z:Rat} (h0:0≤z) (h1:z≤1/2) (n:Nat):Bd ((1/2)^n) ((-(z*z))^n):=by
  obtain ⟨q0,q1⟩:=jc0 h0 h1;exact jd1 (by unfold Bd;grind) n
theorem jus (n:Nat):0≤((1:Rat)/2)^n∧((1:Rat)/2)^n≤1:=by
  refine ⟨Rat.pow_nonneg (by grind),?_⟩;have:=(jd1 (show Bd 1 ((1:Rat)/2) by unfold Bd;grind) n).2;rw [jgu] at this;exact this
theorem Q_bd {z:Rat} (h0:0≤z) (h1:z≤1/2) (n:Nat):0≤Qn n z∧Qn n z≤2:=by
  obtain ⟨q0,q1⟩:=jc0 h0 h1;have e:=Q_eq z n;have w:=j1f h0 h1 n;have hp:=jus n
  generalize (-(z*z))^n=w at *
  generalize ((1:Rat)/2)^n=p at *
  generalize Qn n z=g at *
  generalize z*z=q at *
  have b:=jic (u:=1+q) (g:=g) (r:=2) (k:=1) (by grind) (by grind) (by rw [e];unfold Bd at *;grind);refine ⟨?_,by unfold Bd at b;grind⟩
  by_cases hg:0≤g
  · exact hg
  · have:=Rat.mul_le_mul_of_nonneg_right (show (1:Rat)≤1+q by grind) (show 0≤-g by grind)
    unfold Bd at w
    grind
theorem T_bd {z:Rat} (h0:0≤z) (h1:z≤1/2) (n:Nat):0≤Tn n z∧Tn n z≤2*z:=by
  have r:=(jpv n).rise (m:=0) h0 (fun x a b=>(Q_bd a (Rat.le_trans b h1) n).1);have f:=(jpv n).fall (m:=2) h0 (fun x a b=>(Q_bd a (Rat.le_trans b h1) n).2);rw [T0] at r f
  grind
theorem jnj:Lim fun n ε=>((1:Rat)/2)^n≤ε:=pow_lim.mono fun n ε _ h=>(h (1/2) (by unfold Bd;grind)).2
theorem exp_atanh:Lim fun n ε=>∀z,0≤z→z≤1/3→Bd ε (En n (-(2*Hn n z))*(1+z) - (1 - z)):=by
  obtain ⟨M,h0,hM⟩:=bounds 2;refine ((jqq 2).and jnj).prev.trim (K:=6+4*M) (by grind) ?_;rintro _ δ hd ⟨n,rfl,h1,h2⟩ ε hε z hz hc
  have hu:∀x,0≤x→x≤1/3→Bd 2 (-(2*Hn (n+1) x)):=fun x a b=>by
    have:=H_bd a (show x≤1/2 by grind) (n+1);unfold Bd;grind
  have md:=Rat.mul_nonneg h0 (Rat.le_of_lt hd)
  have hf:Dif (fun z=>En (n+1) (-(2*Hn (n+1) z))*(1+z) - (1 - z)) (fun z=>(-(2*Gn (n+1) z))*En n (-(2*Hn (n+1) z))*(1+z)+En (n+1) (-(2*Hn (n+1) z))+1):=by
    have a1:Dif (fun z => -(2*Hn (n+1) z)) (fun z => -(2*Gn (n+1) z)):=(((Dif.const 2).mul (jqr (n+1))).neg).of (fun x=>rfl) (fun x=>by grind);exact (((a1.comp (jps n)).mul ((Dif.const 1).add Dif.id)).sub ((Dif.const 1).sub Dif.id)).of (fun x=>rfl) (fun x=>by grind)
  have o:=ode hf (c:=1/3) (L:=3/2) (δ:=0) (δ':=3/2*(2*δ+2*M*δ)) (A:=2*M+1) (by grind) (by grind) (by
      rw [H0,show -(2*(0:Rat))=0 by grind,E0];unfold Bd;grind) (fun x a b=>by
      have:=((hM (n+1) _ (hu x a b)).1.mul (show Bd 2 (1+x) by unfold Bd;grind)).sub (show Bd 1 (1 - x) by unfold Bd;grind)
      exact this.mono (by grind)) (by have:=Rat.mul_nonneg h0 (Rat.le_of_lt hd);grind) (fun x b x0 x1 hb=>by
      have ge:=G_eq x (n+1);have q:=jc0 x0 (show x≤1/2 by grind);have w:=jd1 (show Bd (1/2) (x*x) by unfold Bd;grind) (n+1)
      have w2:Bd δ ((x*x)^(n+1)):=w.mono (by
        rw [pow_succ'];have:=Rat.mul_le_mul_of_nonneg_right h2 (show (0:Rat)≤1/2 by grind)
        grind)
      have te:=(jcc bE (hu x x0 x1) n).mono h1;have me:=(hM n _ (hu x x0 x1)).1;have r:=(hb.neg.add (te.mul (show Bd 2 2 by unfold Bd;grind))).add ((w2.mul (show Bd 2 2 by unfold Bd;grind)).mul me)
      have e : -(En (n+1) (-(2*Hn (n+1) x))*(1+x) - (1 - x))+fE n*(-(2*Hn (n+1) x))^n*2+(x*x)^(n+1)*2*En n (-(2*Hn (n+1) x))=(1 - x)*((-(2*Gn (n+1) x))*En n (-(2*Hn (n+1) x))*(1+x)+En (n+1) (-(2*Hn (n+1) x))+1):=by
        have es:En (n+1) (-(2*Hn (n+1) x))=En n (-(2*Hn (n+1) x))+fE n*(-(2*Hn (n+1) x))^n:=rfl;rw [es]
        grind
      rw [e] at r;exact (jic (k:=3/2) (by grind) (by grind) r).mono (by grind))
  exact (o z hz hc).mono (by grind)
theorem tan_atan:Lim fun n ε=>∀z,0≤z→z≤1/2→Bd ε (Sn n (Tn n z) - z*Cn n (Tn n z)):=by
  obtain ⟨M,h0,hM⟩:=bounds 2;refine ((jqq 2).and jnj).prev.trim (K:=8+8*M) (by grind) ?_;rintro _ δ hd ⟨n,rfl,h1,h2⟩ ε hε z hz hc
  have hu:∀x,0≤x→x≤1/2→Bd 2 (Tn (n+1) x):=fun x a b=>by
    have:=T_bd a b (n+1);unfold Bd;grind
  have hf:Dif (fun z=>Sn (n+1) (Tn (n+1) z) - z*Cn (n+1) (Tn (n+1) z)) (fun z=>Qn (n+1) z*Cn n (Tn (n+1) z) - Cn (n+1) (Tn (n+1) z)+z*(Qn (n+1) z*Sn n (Tn (n+1) z))):=by
    exact (((jpv (n+1)).comp (jpt n)).sub (Dif.id.mul ((jpv (n+1)).comp (jpu n)))).of (fun x=>rfl) (fun x=>by grind)
  have md:=Rat.mul_nonneg h0 (Rat.le_of_lt hd)
  have o:=ode hf (c:=1/2) (L:=1) (δ:=0) (δ':=2*δ+2*M*δ) (A:=2*M) (by grind) (by grind) (by
      rw [T0,S0];unfold Bd;grind) (fun x a b=>by
      have k:=hM (n+1) _ (hu x a b);have:=k.2.1.sub ((show Bd 1 x by unfold Bd;grind).mul k.2.2)
      exact this.mono (by grind)) (by grind) (fun x b x0 x1 hb=>by
      have qe:=Q_eq x (n+1);have q:=jc0 x0 x1
      have w2:Bd δ ((-(x*x))^(n+1)):=(j1f x0 x1 (n+1)).mono (by
        rw [pow_succ'];have:=Rat.mul_le_mul_of_nonneg_right h2 (show (0:Rat)≤1/2 by grind)
        grind)
      have ts:=(jcc bS (hu x x0 x1) n).mono h1;have tc:=(jcc bC (hu x x0 x1) n).mono h1;have k:=hM n _ (hu x x0 x1);have bx:Bd 1 x:=by unfold Bd;grind
      have r:=(((hb.mul bx).sub (tc.add (bx.mul ts))).sub (w2.mul k.2.2)).sub ((bx.mul w2).mul k.2.1)
      have e:(Sn (n+1) (Tn (n+1) x) - x*Cn (n+1) (Tn (n+1) x))*x - (cC n*Tn (n+1) x^n+x*(cS n*Tn (n+1) x^n)) - (-(x*x))^(n+1)*Cn n (Tn (n+1) x) - x*(-(x*x))^(n+1)*Sn n (Tn (n+1) x)=(1+x*x)*(Qn (n+1) x*Cn n (Tn (n+1) x) - Cn (n+1) (Tn (n+1) x)+x*(Qn (n+1) x*Sn n (Tn (n+1) x))):=by
        have es:Sn (n+1) (Tn (n+1) x)=Sn n (Tn (n+1) x)+cS n*Tn (n+1) x^n:=rfl;have ec:Cn (n+1) (Tn (n+1) x)=Cn n (Tn (n+1) x)+cC n*Tn (n+1) x^n:=rfl;rw [es,ec]
        grind
      rw [e] at r;exact (jic (k:=1) (by grind) (by grind) r).mono (by grind))
  exact (o z hz hc).mono (by grind)
def Ang (a:Nat→Rat) (p q:Rat):Prop:=(∃B,∀n,Bd B (a n))∧Lim fun n ε=>Bd ε (Cn n (a n) - p)∧Bd ε (Sn n (a n) - q)
theorem jyj {a b:Nat→Rat} (h:∃B,∀n,Bd B (a n)) (k:∃B,∀n,Bd B (b n)):∃B,0≤B∧(∀n,Bd B (a n))∧(∀n,Bd B (b n)):=by
  obtain ⟨A,hA⟩:=h;obtain ⟨B,hB⟩:=k;have a0:=(hA 0).nonneg;have b0:=(hB 0).nonneg;exact ⟨A+B,by grind,fun n=>(hA n).mono (by grind),fun n=>(hB n).mono (by grind)⟩
theorem Ang.neg {a:Nat→Rat} {p q:Rat} (h:Ang a p q):Ang (fun n => - a n) p (-q):=by
  obtain ⟨⟨B,hB⟩,l⟩:=h;refine ⟨⟨B,fun n=>(hB n).neg⟩,l.mono fun n ε he k=>?_⟩;rw [juq,jur];unfold Bd at *;grind
theorem Ang.add {a b:Nat→Rat} {p q r t:Rat} (h:Ang a p q) (k:Ang b r t):Ang (fun n=>a n+b n) (p*r - q*t) (q*r+p*t):=by
  obtain ⟨ha,la⟩:=h;obtain ⟨hb,lb⟩:=k;obtain ⟨B,B0,hA,hB⟩:=jyj ha hb;refine ⟨⟨B+B,fun n=>(hA n).add (hB n)⟩,?_⟩;obtain ⟨M,M0,hM⟩:=bounds B
  obtain ⟨N,N0,hp,hq⟩:∃N,0≤N∧Bd N p∧Bd N q:=by
    obtain ⟨P,p0,hp⟩:=jia p;obtain ⟨Q,q0,hq⟩:=jia q;exact ⟨P+Q,by grind,hp.mono (by grind),hq.mono (by grind)⟩
  refine ((la.and lb).and ((ji4 B).and (jl9 B))).trim (K:=1+2*M+2*N) (by grind) ?_;rintro n δ hd ⟨⟨⟨c1,s1⟩,⟨c2,s2⟩⟩,⟨ca,sa⟩⟩ ε hε;have ca:=ca _ _ (hA n) (hB n);have sa:=sa _ _ (hA n) (hB n);obtain ⟨-,m1,m2⟩:=hM n _ (hB n);have md:=Rat.mul_nonneg M0 (Rat.le_of_lt hd);have nd:=Rat.mul_nonneg N0 (Rat.le_of_lt hd)
  constructor
  · have:=(((c1.mul m2).add (hp.mul c2)).sub ((s1.mul m1).add (hq.mul s2))).add ca
    have e:(Cn n (a n) - p)*Cn n (b n)+p*(Cn n (b n) - r) - ((Sn n (a n) - q)*Sn n (b n)+q*(Sn n (b n) - t))+(Cn n (a n+b n) - (Cn n (a n)*Cn n (b n) - Sn n (a n)*Sn n (b n)))=Cn n (a n+b n) - (p*r - q*t):=by grind
    rw [e] at this;exact this.mono (by grind)
  · have:=(((s1.mul m2).add (hq.mul c2)).add ((c1.mul m1).add (hp.mul s2))).add sa
    have e:(Sn n (a n) - q)*Cn n (b n)+q*(Cn n (b n) - r)+((Cn n (a n) - p)*Sn n (b n)+p*(Sn n (b n) - t))+(Sn n (a n+b n) - (Sn n (a n)*Cn n (b n)+Cn n (a n)*Sn n (b n)))=Sn n (a n+b n) - (q*r+p*t):=by grind
    rw [e] at this;exact this.mono (by grind)
theorem jqs {z p q:Rat} (h0:0≤z) (h1:z≤1/2) (hp:p*(1+z*z)=1 - z*z) (hq:q*(1+z*z)=2*z):Ang (fun n=>Tn n z+Tn n z) p q:=by
  have hb:∀n,Bd 1 (Tn n z):=fun n=>by have:=T_bd h0 h1 n;unfold Bd;grind
  refine ⟨⟨2,fun n=>((hb n).add (hb n)).mono (by grind)⟩,?_⟩;obtain ⟨M,M0,hM⟩:=bounds 1;refine ((tan_atan.and (circle 1)).and ((ji4 1).and (jl9 1))).trim (K:=20+20*M) (by grind) ?_;rintro n δ hd ⟨⟨ta,ci⟩,⟨ca,sa⟩⟩ ε hε;have ta:=ta z h0 h1;have ci:=ci _ (hb n);have ca:=ca _ _ (hb n) (hb n);have sa:=sa _ _ (hb n) (hb n);obtain ⟨-,m1,m2⟩:=hM n _ (hb n);have md:=Rat.mul_nonneg M0 (Rat.le_of_lt hd)
  generalize Cn n (Tn n z)=c at *
  generalize Sn n (Tn n z)=s at *
  generalize Cn n (Tn n z+Tn n z)=c2 at *
  generalize Sn n (Tn n z+Tn n z)=s2 at *
  have bz:Bd 1 z:=by unfold Bd;grind
  have qz:=jc0 h0 h1;have bzz:Bd 1 (z*z):=by unfold Bd;grind
  have b1:Bd 2 (1+z*z):=by unfold Bd;grind
  have b2:Bd 1 (1 - z*z):=by unfold Bd;grind
  have t1:=ta.mul m1;have t2:=ta.mul m2
  constructor
  · -- (1 + z z) (c2 - p)
    have f:=(((ca.mul b1).sub ((t1.mul b1).add ((bz.mul t2).mul b1))).add (b2.mul (ci.sub (t1.add (bz.mul t2)))));have e:(c2 - (c*c - s*s))*(1+z*z) - ((s - z*c)*s*(1+z*z)+z*((s - z*c)*c)*(1+z*z))+(1 - z*z)*(c*c+s*s - 1 - ((s - z*c)*s+z*((s - z*c)*c)))=(1+z*z)*(c2 - p):=by grind
    rw [e] at f;exact (jic (k:=1) (by grind) (by grind) f).mono (by grind)
  · have f:=(((sa.mul b1).add (((show Bd 2 2 by unfold Bd;grind).mul t2).mul b1)).add (((show Bd 2 2 by unfold Bd;grind).mul bz).mul (ci.sub (t1.add (bz.mul t2)))))
    have e:(s2 - (s*c+c*s))*(1+z*z)+2*((s - z*c)*c)*(1+z*z)+2*z*(c*c+s*s - 1 - ((s - z*c)*s+z*((s - z*c)*c)))=(1+z*z)*(s2 - q):=by grind
    rw [e] at f;exact (jic (k:=1) (by grind) (by grind) f).mono (by grind)
def hpn (n:Nat):Rat:=8*Tn n (1/5) - 2*Tn n (1/239)
theorem jma:Ang hpn 0 1:=by
  have a:=jqs (z:=1/5) (p:=12/13) (q:=5/13) (by grind) (by grind) (by grind) (by grind);have b:=jqs (z:=1/239) (p:=28560/28561) (q:=239/28561) (by grind) (by grind) (by grind) (by grind);have h:=((a.add a).add (a.add a)).add b.neg;have e:(fun n=>(Tn n (1/5)+Tn n (1/5)+(Tn n (1/5)+Tn n (1/5))+(Tn n (1/5)+Tn n (1/5)+(Tn n (1/5)+Tn n (1/5)))) + -(Tn n (1/239)+Tn n (1/239)))=hpn:=funext fun n=>by unfold hpn;grind
  rw [e] at h;have e1:((12/13*(12/13) - 5/13*(5/13))*(12/13*(12/13) - 5/13*(5/13)) - (5/13*(12/13)+12/13*(5/13))*(5/13*(12/13)+12/13*(5/13)))*(28560/28561) - ((5/13*(12/13)+12/13*(5/13))*(12/13*(12/13) - 5/13*(5/13))+(12/13*(12/13) - 5/13*(5/13))*(5/13*(12/13)+12/13*(5/13))) * -(239/28561)=(0:Rat):=by grind
  have e2:((5/13*(12/13)+12/13*(5/13))*(12/13*(12/13) - 5/13*(5/13))+(12/13*(12/13) - 5/13*(5/13))*(5/13*(12/13)+12/13*(5/13)))*(28560/28561)+((12/13*(12/13) - 5/13*(5/13))*(12/13*(12/13) - 5/13*(5/13)) - (5/13*(12/13)+12/13*(5/13))*(5/13*(12/13)+12/13*(5/13))) * -(239/28561)=(1:Rat):=by grind
  rw [e1,e2] at h;exact h
theorem jut (n:Nat):Bd 4 (hpn n):=by
  have a:=T_bd (z:=1/5) (by grind) (by grind) n;have b:=T_bd (z:=1/239) (by grind) (by grind) n;unfold hpn Bd;grind
theorem quarter (B:Rat):Lim fun n ε=>∀x,Bd B x→Bd ε (Sn n (x+hpn n) - Cn n x)∧Bd ε (Cn n (x+hpn n)+Sn n x):=by
  by_cases hB:0≤B
  · obtain ⟨M,M0,hM⟩:=bounds B
    refine (jma.2.and ((ji4 (B+4)).and (jl9 (B+4)))).trim (K:=1+2*M) (by grind) ?_;rintro n δ hd ⟨⟨c,s⟩,⟨ca,sa⟩⟩ ε hε x hx;have ca:=ca x (hpn n) (hx.mono (by grind)) ((jut n).mono (by grind));have sa:=sa x (hpn n) (hx.mono (by grind)) ((jut n).mono (by grind));obtain ⟨-,m1,m2⟩:=hM n x hx
    constructor
    · have f:=sa.add ((m1.mul c).add (m2.mul s))
      have e:Sn n (x+hpn n) - (Sn n x*Cn n (hpn n)+Cn n x*Sn n (hpn n))+(Sn n x*(Cn n (hpn n) - 0)+Cn n x*(Sn n (hpn n) - 1))=Sn n (x+hpn n) - Cn n x:=by grind
      rw [e] at f;exact f.mono (by grind)
    · have f:=ca.add ((m2.mul c).sub (m1.mul s))
      have e:Cn n (x+hpn n) - (Cn n x*Cn n (hpn n) - Sn n x*Sn n (hpn n))+(Cn n x*(Cn n (hpn n) - 0) - Sn n x*(Sn n (hpn n) - 1))=Cn n (x+hpn n)+Sn n x:=by grind
      rw [e] at f;exact f.mono (by grind)
  · exact fun ε he=>⟨0,fun n _ x hx=>by have:=hx.nonneg;grind⟩
def rotS (k:Nat) (s c:Rat):Rat:=if k%4=0 then s else if k%4=1 then c else if k%4=2 then -s else -c
theorem jwr {k:Nat} {δ s c s' c':Rat} (h:Bd δ (s - s')) (g:Bd δ (c - c')):Bd δ (rotS k s c - rotS k s' c'):=by
  unfold rotS Bd at *
  split
  · exact h
  · split
    · exact g
    · split <;> grind
theorem juu (k:Nat) (s c:Rat):rotS k c (-s)=rotS (k+1) s c:=by
  unfold rotS;have:k%4=0∨k%4=1∨k%4=2∨k%4=3:=by omega
  rcases this with h | h | h | h
  · rw [if_pos h,if_neg (by omega),if_pos (by omega)]
  · rw [if_neg (by omega),if_pos h,if_neg (by omega),if_neg (by omega),if_pos (by omega)]
  · rw [if_neg (by omega),if_neg (by omega),if_pos h,if_neg (by omega),if_neg (by omega),if_neg (by omega)]
  · rw [if_neg (by omega),if_neg (by omega),if_neg (by omega),if_pos (by omega)];grind
theorem quarters (k:Nat):∀B:Rat,Lim fun n ε=>∀x,Bd B x→Bd ε (Sn n (x+(k:Rat)*hpn n) - rotS k (Sn n x) (Cn n x))∧Bd ε (Cn n (x+(k:Rat)*hpn n) - rotS (k+1) (Sn n x) (Cn n x)):=by
  induction k with
  | zero=>
    intro B;refine Lim.all fun n ε he x hx=>?_
    have e:x+((0:Nat):Rat)*hpn n=x:=by
      have:((0:Nat):Rat)=0:=rfl;rw [this];grind
    rw [e];have h1:rotS 0 (Sn n x) (Cn n x)=Sn n x:=rfl;have h2:rotS (0+1) (Sn n x) (Cn n x)=Cn n x:=rfl;rw [h1,h2];unfold Bd;grind
  | succ k ih=>
    intro B;refine ((ih (B+4)).and (quarter B)).trim (K:=2) (by grind) ?_;rintro n δ hd ⟨h,q⟩ ε hε x hx;obtain ⟨q1,q2⟩:=q x hx;obtain ⟨h1,h2⟩:=h (x+hpn n) (hx.add (jut n));have e:x+((k+1:Nat):Rat)*hpn n=x+hpn n+(k:Rat)*hpn n:=by rw [Rat.natCast_add];grind
    rw [e]
    have q2':Bd δ (Cn n (x+hpn n) - - Sn n x):=by
      have e:Cn n (x+hpn n) - - Sn n x=Cn n (x+hpn n)+Sn n x:=by grind
      rw [e];exact q2
    have r1:=jwr (k:=k) q1 q2';have r2:=jwr (k:=k+1) q1 q2';rw [juu] at r1 r2;have f1:=h1.add r1;have f2:=h2.add r2
    constructor
    · refine Bd.mono (K:=δ+δ) ?_ (by grind)
      have e:Sn n (x+hpn n+(k:Rat)*hpn n) - rotS k (Sn n (x+hpn n)) (Cn n (x+hpn n))+(rotS k (Sn n (x+hpn n)) (Cn n (x+hpn n)) - rotS (k+1) (Sn n x) (Cn n x))=Sn n (x+hpn n+(k:Rat)*hpn n) - rotS (k+1) (Sn n x) (Cn n x):=by grind
      rw [e] at f1;exact f1
    · refine Bd.mono (K:=δ+δ) ?_ (by grind)
      have e:Cn n (x+hpn n+(k:Rat)*hpn n) - rotS (k+1) (Sn n (x+hpn n)) (Cn n (x+hpn n))+(rotS (k+1) (Sn n (x+hpn n)) (Cn n (x+hpn n)) - rotS (k+1+1) (Sn n x) (Cn n x))=Cn n (x+hpn n+(k:Rat)*hpn n) - rotS (k+1+1) (Sn n x) (Cn n x):=by grind
      rw [e] at f2;exact f2
def lnn (n:Nat):Rat:=2*Hn n (1/3)
theorem jmb (n:Nat):0≤lnn n∧lnn n≤1:=by
  have a:=H_bd (z:=1/3) (by grind) (by grind) n;unfold lnn;grind
theorem jpw (B:Rat):Lim fun n ε=>∀x,Bd B x→-ε≤En n x:=by
  by_cases hB:0≤B
  · refine (jl8 B).mono fun n ε he h x hx=>?_
    have:=h (x*(1/2)) (x*(1/2)) (by unfold Bd at *;grind) (by unfold Bd at *;grind);have e:x*(1/2)+x*(1/2)=x:=by grind
    rw [e] at this;have:=jbv (En n (x*(1/2)));unfold Bd at *;grind
  · exact fun ε he=>⟨0,fun n _ x hx=>by have:=hx.nonneg;grind⟩
theorem juv (B:Rat):Lim fun n ε=>∀x y,Bd B x→Bd B y→x≤y→En n x≤En n y+ε:=by
  by_cases hB:0≤B
  · refine (jpw B).prev.trim (K:=2*B) (by grind) ?_
    rintro _ δ hd ⟨n,rfl,h⟩ ε hε x y hx hy hxy;have:=(jps n).rise (m := -δ) hxy (fun t h1 h2=>h t (by unfold Bd at *;grind));have k:=Rat.mul_le_mul_of_nonneg_left (show y - x≤2*B by unfold Bd at *;grind) (Rat.le_of_lt hd)
    grind
  · exact fun ε he=>⟨0,fun n _ x y hx=>by have:=hx.nonneg;grind⟩
theorem jyk (B:Rat):Lim fun n ε=>∀x,Bd B x→Bd ε (En n x*En n (-x) - 1):=
  ((jl8 B).and (Lim.late 1 (P:=fun n _=>1≤n) fun n ε h _=>h)).mono fun n ε he h x hx=>by
    have:=(h.1 x (-x) hx hx.neg).neg;obtain ⟨m,hm⟩:∃m,n=m+1:=⟨n - 1,by have:=h.2;omega⟩;have e:x + -x=0:=by grind
    rw [e,hm,E0,←hm] at this;have e2 : -(1 - En n x*En n (-x))=En n x*En n (-x) - 1:=by grind
    rw [e2] at this;exact this
theorem j1g:Lim fun n ε=>Bd ε (En n (lnn n) - 2)∧Bd ε (En n (-lnn n) - 1/2):=by
  obtain ⟨M,M0,hM⟩:=bounds 1;refine (exp_atanh.and (jyk 1)).trim (K:=4+4*M) (by grind) ?_;rintro n δ hd ⟨h1,h2⟩ ε hε;have h1:=h1 (1/3) (by grind) (by grind);have lb:=jmb n;have h2:=h2 (lnn n) (by unfold Bd;grind);have m:=(hM n (lnn n) (by unfold Bd;grind)).1;have md:=Rat.mul_nonneg M0 (Rat.le_of_lt hd);have e0 : -(2*Hn n (1/3)) = -lnn n:=rfl;rw [e0] at h1
  generalize En n (lnn n)=a at *
  generalize En n (-lnn n)=b at *
  have f1:=h1.mul m;refine ⟨?_,by unfold Bd at *;grind⟩;have f2:=h2.sub f1;unfold Bd at *
  constructor <;> grind
theorem jpx (B:Rat):Lim fun n ε=>∀x,Bd B x→Bd ε (En n (x+lnn n) - 2*En n x)∧Bd ε (En n (x - lnn n) - 1/2*En n x):=by
  by_cases hB:0≤B
  · obtain ⟨M,M0,hM⟩:=bounds B
    refine ((jl8 (B+1)).and j1g).trim (K:=1+M) (by grind) ?_;rintro n δ hd ⟨h1,⟨h2,h3⟩⟩ ε hε x hx;have lb:=jmb n;have bl:Bd (B+1) (lnn n):=by unfold Bd;grind
    have a:=h1 x (lnn n) (hx.mono (by grind)) bl;have b:=h1 x (-lnn n) (hx.mono (by grind)) bl.neg;have m:=(hM n x hx).1;have e1:x + -lnn n=x - lnn n:=by grind
    rw [e1] at b
    constructor
    · have f:=a.add (m.mul h2)
      have e:En n (x+lnn n) - En n x*En n (lnn n)+En n x*(En n (lnn n) - 2)=En n (x+lnn n) - 2*En n x:=by grind
      rw [e] at f;exact f.mono (by grind)
    · have f:=b.add (m.mul h3)
      have e:En n (x - lnn n) - En n x*En n (-lnn n)+En n x*(En n (-lnn n) - 1/2)=En n (x - lnn n) - 1/2*En n x:=by grind
      rw [e] at f;exact f.mono (by grind)
  · exact fun ε he=>⟨0,fun n _ x hx=>by have:=hx.nonneg;grind⟩
theorem exp_red (k:Nat):∀B:Rat,Lim fun n ε=>∀x,Bd B x→Bd ε (En n (x - (k:Rat)*lnn n)*2^k - En n x)∧Bd ε (En n (x+(k:Rat)*lnn n) - En n x*2^k):=by
  induction k with
  | zero=>
    intro B;refine Lim.all fun n ε he x hx=>?_
    have e:x - ((0:Nat):Rat)*lnn n=x:=by rw [show ((0:Nat):Rat)=0 from rfl];grind
    have e':x+((0:Nat):Rat)*lnn n=x:=by rw [show ((0:Nat):Rat)=0 from rfl];grind
    rw [e,e',Rat.pow_zero];unfold Bd;grind
  | succ k ih=>
    intro B;have p0:(0:Rat)≤2^k:=Rat.pow_nonneg (by grind);refine ((ih (B+1)).and (jpx B)).trim (K:=2+2*2^k) (by grind) ?_;rintro n δ hd ⟨h,q⟩ ε hε x hx;obtain ⟨q1,q2⟩:=q x hx;have lb:=jmb n;have h1:=(h (x - lnn n) (by unfold Bd at *;grind)).1;have h2:=(h (x+lnn n) (by unfold Bd at *;grind)).2;have e:x - ((k+1:Nat):Rat)*lnn n=x - lnn n - (k:Rat)*lnn n:=by rw [Rat.natCast_add];grind
    have e':x+((k+1:Nat):Rat)*lnn n=x+lnn n+(k:Rat)*lnn n:=by rw [Rat.natCast_add];grind
    have pd:=Rat.mul_nonneg p0 (Rat.le_of_lt hd);rw [e,e',pow_succ'];have bp:Bd (2^k) ((2:Rat)^k):=by unfold Bd;grind
    constructor
    · have f:=(h1.add q2).add (h1.add q2)
      have e:En n (x - lnn n - (k:Rat)*lnn n)*2^k - En n (x - lnn n)+(En n (x - lnn n) - 1/2*En n x)+(En n (x - lnn n - (k:Rat)*lnn n)*2^k - En n (x - lnn n)+(En n (x - lnn n) - 1/2*En n x))=En n (x - lnn n - (k:Rat)*lnn n)*(2^k*2) - En n x:=by grind
      rw [e] at f;refine f.mono ?_;have:=Rat.mul_le_mul_of_nonneg_right (show (1:Rat)≤2^k from one_le_two_pow k) (Rat.le_of_lt hd)
      grind
    · have f:=h2.add (q1.mul bp)
      have e:En n (x+lnn n+(k:Rat)*lnn n) - En n (x+lnn n)*2^k+(En n (x+lnn n) - 2*En n x)*2^k=En n (x+lnn n+(k:Rat)*lnn n) - En n x*(2^k*2):=by grind
      rw [e] at f;exact f.mono (by grind)
where
  one_le_two_pow:∀k:Nat,(1:Rat)≤2^k
    | 0=>by rw [Rat.pow_zero];grind
    | k+1=>by have:=one_le_two_pow k;rw [pow_succ'];grind
end An
end Go.Proofs.YtllgjggkchgpbaaGreat
