/- Long division in limbs, Knuth's way: plain facts, no program in sight. Long division in limbs: the whole of it, plain. -/
import Derived.Test.YtllgjggkchgpbaaGreatGround
section
set_option linter.unusedVariables false
set_option linter.unusedSimpArgs false
namespace Go.Proofs.YtllgjggkchgpbaaGreat.L
theorem qhat_top {B V v vl U t ul Q:Nat} (hV:V=v*B+vl) (hU:U=t*B+ul) (hul:ul<B) (hQ:Q*V≤U):Q*v≤t:=by
  have h1:Q*v*B≤Q*V:=by rw [hV,Nat.mul_add,Nat.mul_assoc];omega
  have h2:U<(t+1)*B:=by rw [hU,Nat.add_mul,Nat.one_mul];omega
  exact Nat.lt_succ_iff.1 (Nat.lt_of_mul_lt_mul_right (a:=B) (Nat.lt_of_le_of_lt (Nat.le_trans h1 hQ) h2))
theorem qhat_near {B V v vl U t ul q:Nat} (hV:V=v*B+vl) (hvl:vl<B) (hU:U=t*B+ul) (hq:q*v≤t) (hq2:q≤2*v):q*V≤U+2*V:=by
  have h1:q*V=q*v*B+q*vl:=by rw [hV,Nat.mul_add,Nat.mul_assoc]
  have h2:q*v*B≤t*B:=Nat.mul_le_mul_right _ hq;have h3:q*vl≤q*B:=Nat.mul_le_mul_left _ (by omega);have h4:q*B≤2*v*B:=Nat.mul_le_mul_right _ hq2;have h5:2*V=2*v*B+2*vl:=by rw [hV,Nat.mul_add,Nat.mul_assoc]
  omega
theorem quot_of {q U V:Nat} (h1:q*V≤U) (h2:U<(q+1)*V):U / V=q:=Nat.div_eq_of_lt_le h1 h2
theorem guess_ge {B V v vl U t ul:Nat} (hv:0<v) (hV:V=v*B+vl) (hU:U=t*B+ul) (hul:ul<B):U<(t / v+1)*V:=by
  rcases Nat.lt_or_ge U ((t / v+1)*V) with h | h
  · exact h
  · have h1:=qhat_top hV hU hul h
    have h2:=Nat.lt_div_mul_add hv (a:=t);rw [Nat.add_mul,Nat.one_mul] at h1
    omega
theorem guess_less {b q v1 v0 r t u0 V U:Nat} (hV:V=v1*b+v0) (hU:U=t*b+u0) (hr:q*v1+r=t) (h:r*b+u0<q*v0):U<q*V:=by
  have h1:q*V=q*v1*b+q*v0:=by rw [hV,Nat.mul_add,Nat.mul_assoc]
  have h2:t*b=q*v1*b+r*b:=by rw [←hr,Nat.add_mul]
  omega
theorem guess_fits {b q v1 v0 r t u0 V U:Nat} (hV:V=v1*b+v0) (hU:U=t*b+u0) (hr:q*v1+r=t) (h:q*v0≤r*b+u0):q*V≤U:=by
  have h1:q*V=q*v1*b+q*v0:=by rw [hV,Nat.mul_add,Nat.mul_assoc]
  have h2:t*b=q*v1*b+r*b:=by rw [←hr,Nat.add_mul]
  omega
theorem guess_step {q v1 r t V U:Nat} (hr:q*v1+r=t) (h:U<q*V):0<q∧(q - 1)*v1+(r+v1)=t∧U<(q - 1+1)*V:=by
  have hq:0<q:=by
    rcases Nat.eq_zero_or_pos q with h0 | h0
    · subst h0;omega
    · exact h0
  refine ⟨hq,?_,by rwa [show q - 1+1=q from by omega]⟩;obtain ⟨p,rfl⟩:∃p,q=p+1:=⟨q - 1,by omega⟩;rw [Nat.add_mul,Nat.one_mul] at hr;rw [Nat.add_sub_cancel]
  omega
theorem guess_break {b q v1 v0 r t u0 V U:Nat} (hV:V=v1*b+v0) (hv0:v0<b) (hU:U=t*b+u0) (htV:t<V) (hr:q*v1+r=t) (hb:b≤r):q*V≤U:=by
  have hq:q<b:=by
    refine Nat.lt_of_mul_lt_mul_right (a:=v1) ?_;rw [Nat.mul_comm b v1]
    omega
  refine guess_fits hV hU hr ?_;have h1:q*v0≤b*b:=Nat.mul_le_mul (by omega) (by omega);have h2:b*b≤r*b:=Nat.mul_le_mul_right _ hb
  omega
theorem guess_big {b q t u0 V U:Nat} (hU:U=t*b+u0) (hu0:u0<b) (htV:t<V) (hq:b≤q):U<q*V:=by
  have h1:b*V≤q*V:=Nat.mul_le_mul_right _ hq;have h2:(t+1)*b≤V*b:=Nat.mul_le_mul_right _ htV;rw [Nat.add_mul,Nat.one_mul] at h2;rw [Nat.mul_comm b V] at h1
  omega
theorem two_digits {b t u1 u0 q1 q0 V N:Nat} (hN:N=(t*b+u1)*b+u0) (h1:(t*b+u1) / V=q1) (h0:((t*b+u1)%V*b+u0) / V=q0) (hV:0<V) :
    N / V=q1*b+q0∧N%V=((t*b+u1)%V*b+u0)%V:=by
  have e1:=Nat.div_add_mod (t*b+u1) V;rw [h1] at e1
  generalize (t*b+u1)%V=R at *
  have e0:=Nat.div_add_mod (R*b+u0) V;have hl:=Nat.mod_lt (R*b+u0) hV;rw [h0] at e0
  generalize (R*b+u0)%V=S at *
  have e:N=V*(q1*b+q0)+S:=by
    rw [hN,←e1,Nat.mul_add,Nat.add_mul];have:V*q1*b=V*(q1*b):=Nat.mul_assoc _ _ _
    omega
  constructor
  · rw [e,Nat.mul_add_div hV,Nat.div_eq_of_lt hl,Nat.add_zero]
  · rw [e,Nat.mul_add_mod,Nat.mod_eq_of_lt hl]
theorem takes_step (b t:Nat) (p q o:List Nat) (k c r s d c' x:Nat) (hk:k<o.length) (H:val b (o.take k)+t*val b (q.take k)=val b (p.take k)+b^k*(c+r))
    (h1:nth q k*t+c=x+b*c') (h2:nth p k+b*d=s+x+r) :
    val b ((o.set k s).take (k+1))+t*val b (q.take (k+1))=val b (p.take (k+1))+b^(k+1)*(c'+d):=by
  rw [val_set_take b o k s hk,val_take_step b p k,val_take_step b q k,Nat.pow_succ];have e1:b^k*(nth q k*t+c)=b^k*(x+b*c'):=by rw [h1]
  have e2:b^k*(nth p k+b*d)=b^k*(s+x+r):=by rw [h2]
  have e3:t*(val b (q.take k)+b^k*nth q k)=t*val b (q.take k)+b^k*(nth q k*t):=by
    rw [Nat.mul_add,Nat.mul_left_comm,Nat.mul_comm t (nth q k)]
  rw [e3]
  generalize b^k=X at *
  simp only [Nat.mul_add] at *;rw [Nat.mul_assoc,Nat.mul_assoc]
  omega
def Seg (P P':List Nat) (j k:Nat):Prop:=P'.length=P.length∧P'.take j=P.take j∧P'.drop (j+k)=P.drop (j+k)
theorem Seg.refl (P:List Nat) (j k:Nat):Seg P P j k:=⟨rfl,rfl,rfl⟩
theorem Seg.trans {P P' P'':List Nat} {j k:Nat} (h:Seg P P' j k) (h':Seg P' P'' j k):Seg P P'' j k:=⟨h'.1.trans h.1,h'.2.1.trans h.2.1,h'.2.2.trans h.2.2⟩
protected theorem Seg.nth {P P':List Nat} {j k i:Nat} (h:Seg P P' j k) (hi:j+k≤i):nth P' i=nth P i:=by
  have h1:nth (P'.drop (j+k)) (i - (j+k))=nth (P.drop (j+k)) (i - (j+k)):=by rw [h.2.2]
  rwa [nth_drop,nth_drop,show j+k+(i - (j+k))=i from by omega] at h1
protected theorem Seg.set {P P':List Nat} {j k:Nat} (h:Seg P P' j k) (s:Nat):Seg P (P'.set (j+k) s) j (k+1):=by
  refine ⟨by rw [List.length_set];exact h.1,?_,?_⟩
  · rw [List.take_set_of_le (by omega)];exact h.2.1
  · rw [List.drop_set_of_lt (by omega),show j+(k+1)=(j+k)+1 from by omega,←List.drop_drop (i:=1) (j:=j+k),←List.drop_drop (i:=1) (j:=j+k),h.2.2]
theorem drop_set_at (P:List Nat) (j k s:Nat):(P.set (j+k) s).drop j=(P.drop j).set k s:=by
  rw [List.drop_set,if_neg (by omega),Nat.add_sub_cancel_left]
def seg (b:Nat) (P:List Nat) (j n:Nat):Nat:=val b ((P.drop j).take n)
theorem seg_lt {b:Nat} (P:List Nat) (hP:∀x∈P,x<b) (hb:0<b) (j n:Nat):seg b P j n<b^n:=by
  unfold seg;have h:=val_lt ((P.drop j).take n) (fun x hx=>hP x (List.mem_of_mem_drop (List.mem_of_mem_take hx)));exact Nat.lt_of_lt_of_le h (Nat.pow_le_pow_right hb (by simp;omega))
theorem jzr (b:Nat) (P:List Nat) (j n:Nat):seg b P j (n+1)=seg b P j n+b^n*nth P (j+n):=by
  unfold seg;rw [val_take_step,nth_drop]
theorem seg_nth {b:Nat} (P:List Nat) (hP:∀x∈P,x<b) (hb:0<b) (j n:Nat):nth P (j+n)=seg b P j (n+1) / b^n:=by
  rw [jzr,Nat.add_mul_div_left _ _ (Nat.pow_pos hb),Nat.div_eq_of_lt (seg_lt P hP hb j n),Nat.zero_add]
theorem digit_end {b n U V g o d:Nat} (hb:1<b) (hV:V<b^n) (hUV:U<b*V) (h:o+g*V=U+b^(n+1)*d) (ho:o<b^(n+1)) (hd:d≤1) (hge:U<(g+1)*V) (hn:g*V≤U+2*V) :
    d=0∧g=U / V∧o=U%V∨d=1∧0<g∧o+V=U+V+b^(n+1) - g*V∧U<g*V:=by
  have hd':d=0∨d=1:=by omega
  rcases hd' with rfl | rfl
  · left
    rw [Nat.mul_zero,Nat.add_zero] at h;have hq:U / V=g:=quot_of (by omega) hge;refine ⟨rfl,hq.symm,?_⟩;have:=Nat.div_add_mod U V;rw [hq,Nat.mul_comm] at this
    omega
  · right
    rw [Nat.mul_one] at h;have hlt:U<g*V:=by omega
    have hg:0<g:=by
      rcases Nat.eq_zero_or_pos g with h0 | h0
      · subst h0;omega
      · exact h0
    exact ⟨rfl,hg,by omega,hlt⟩
theorem back_step {M U V G c:Nat} (h:c+(G+1)*V=U+M) (hU:U<M):G*V≤U∧(c+V)%M=U - G*V∨U<G*V∧(c+V)%M+G*V=U+M:=by
  rw [Nat.add_mul,Nat.one_mul] at h
  rcases Nat.lt_or_ge U (G*V) with hlt | hge
  · right
    refine ⟨hlt,?_⟩;rw [Nat.mod_eq_of_lt (by omega)]
    omega
  · left
    refine ⟨hge,?_⟩;rw [show c+V=(U - G*V)+M from by omega,Nat.add_mod_right,Nat.mod_eq_of_lt (by omega)]
theorem top_none {b n c V:Nat} (hV:V<b^n) (hc:c<V):c / b^n=0:=Nat.div_eq_of_lt (by omega)
theorem top_full {b n c V U G:Nat} (hb:1<b) (hV:V<b^n) (h:c+G*V=U+b^(n+1)) (h1:U<G*V) (h2:G*V≤U+V):c / b^n=b - 1:=by
  obtain ⟨k,rfl⟩:∃k,b=k+1:=⟨b - 1,by omega⟩;rw [Nat.pow_succ,Nat.mul_add,Nat.mul_one] at h
  generalize (k+1)^n=X at *
  rw [Nat.add_sub_cancel];refine Nat.div_eq_of_lt_le ?_ ?_
  · rw [Nat.mul_comm];omega
  · rw [Nat.add_mul,Nat.one_mul,Nat.mul_comm k X];omega
theorem digit_mod {U V G:Nat} (h1:G*V≤U) (h2:U<(G+1)*V):U / V=G∧U%V=U - G*V:=by
  have hq:=quot_of h1 h2;refine ⟨hq,?_⟩;have:=Nat.div_add_mod U V;rw [hq,Nat.mul_comm] at this
  omega
theorem tops {b:Nat} (hb:0<b) (l:List Nat) (hl:∀x∈l,x<b) (k:Nat):∃vl,val b l=val b (l.drop k)*b^k+vl∧vl<b^k:=by
  refine ⟨val b l%b^k,?_,Nat.mod_lt _ (Nat.pow_pos hb)⟩;rw [val_drop b hb l hl k];have:=Nat.div_add_mod (val b l) (b^k);rw [Nat.mul_comm] at this;exact this.symm
theorem drop_top (b:Nat) (l:List Nat) (m:Nat) (h:l.length=m+1):val b (l.drop m)=nth l m:=by
  rw [jb7 b l m (by omega),List.drop_eq_nil_of_le (by omega)];exact Nat.add_zero _
theorem drop_top2 (b:Nat) (l:List Nat) (m:Nat) (h:l.length=m+2):val b (l.drop m)=nth l (m+1)*b+nth l m:=by
  rw [jb7 b l m (by omega),drop_top b l (m+1) (by omega),Nat.mul_comm,Nat.add_comm]
theorem drop_top3 (b:Nat) (l:List Nat) (m:Nat) (h:l.length=m+3):val b (l.drop m)=(nth l (m+2)*b+nth l (m+1))*b+nth l m:=by
  rw [jb7 b l m (by omega),drop_top2 b l (m+1) (by omega),Nat.mul_comm,Nat.add_comm]
end Go.Proofs.YtllgjggkchgpbaaGreat.L
end
section
set_option linter.unusedVariables false
set_option linter.unusedSimpArgs false
namespace Go.Proofs.YtllgjggkchgpbaaGreat.L
theorem jfh (b:Nat) (l:List Nat) (k:Nat) (h:k≤l.length):val b l=val b (l.take k)+b^k*val b (l.drop k):=by
  conv=>lhs;rw [←List.take_append_drop k l]
  rw [val_append,List.length_take,Nat.min_eq_left h]
theorem jsa {b:Nat} (hb:0<b) (P:List Nat) (hP:∀x∈P,x<b) (k n V:Nat) (hV:V≤b^n) (hT:val b (P.drop (k+1))<V) (hlen:k+n+1≤P.length) :
    val b (P.drop k)=seg b P k (n+1)∧val b (P.drop (k+(n+1)))=0:=by
  have h0:val b (P.drop (k+(n+1)))=0:=by
    rw [show k+(n+1)=(k+1)+n from by omega,←List.drop_drop (i:=n) (j:=k+1),val_drop b hb _ (fun x hx=>hP x (List.mem_of_mem_drop hx))];exact Nat.div_eq_of_lt (by omega)
  refine ⟨?_,h0⟩;unfold seg;rw [jfh b (P.drop k) (n+1) (by rw [List.length_drop];omega),List.drop_drop,h0,Nat.mul_zero,Nat.add_zero]
theorem long_lt {b:Nat} (hb:0<b) (P:List Nat) (hP:∀x∈P,x<b) (k n V:Nat) (hV:V≤b^n) (hT:val b (P.drop (k+1))<V) (hlen:k+n+1≤P.length):seg b P k (n+1)<b*V:=by
  rw [←(jsa hb P hP k n V hV hT hlen).1,jb7 b P k (by omega)];have h1:=lt_of_getD hb P hP k;have h2:b*(val b (P.drop (k+1))+1)≤b*V:=Nat.mul_le_mul_left _ hT;rw [Nat.mul_add,Nat.mul_one] at h2
  omega
theorem long_step {b:Nat} (hb:0<b) (P P' o:List Nat) (hP:∀x∈P,x<b) (N k n V:Nat) (hV:V≤b^n) (hT:val b (P.drop (k+1))<V) (hlen:k+n+1≤P.length)
    (H:N=val b P+V*(b^(k+1)*val b (o.drop (k+1)))) (hk:k<o.length) (hS:Seg P P' k (n+1)) (hr:seg b P' k (n+1)=seg b P k (n+1)%V) :
    N=val b P'+V*(b^k*val b ((o.set k (seg b P k (n+1) / V)).drop k))∧val b (P'.drop k)<V:=by
  obtain ⟨h1,h0⟩:=jsa hb P hP k n V hV hT hlen;have hV0:0<V:=by omega
  have h2:val b (P'.drop k)=seg b P' k (n+1):=by
    unfold seg;rw [jfh b (P'.drop k) (n+1) (by rw [List.length_drop,hS.1];omega),List.drop_drop,hS.2.2,h0,Nat.mul_zero,Nat.add_zero]
  have e1:=jfh b P k (by omega);have e2:=jfh b P' k (by rw [hS.1];omega);rw [hS.2.1] at e2;have e3:=Nat.div_add_mod (seg b P k (n+1)) V;rw [jfe o k _ hk,jcl];rw [h1] at e1;rw [h2,hr] at e2 ⊢
  generalize seg b P k (n+1)=A at *
  refine ⟨?_,Nat.mod_lt _ hV0⟩;rw [H,e1,e2,Nat.pow_succ]
  generalize val b (o.drop (k+1))=D at *
  generalize val b (P.take k)=E at *
  generalize b^k=X at *
  generalize A / V=Q at *
  generalize A%V=R at *
  subst e3;have:V*(X*(Q+b*D))=X*(V*Q)+V*(X*b*D):=by rw [Nat.mul_add,Nat.mul_add,Nat.mul_left_comm,Nat.mul_assoc X b D]
  rw [this,Nat.mul_add]
  omega
theorem long_end {p q s N v o:Nat} (hq:0<q) (H:p*2^s=v+q*2^s*o) (hv:v<q*2^s):o=p / q∧v / 2^s=p%q:=by
  have h1:p*2^s / (q*2^s)=o:=by rw [H,Nat.add_comm,Nat.mul_add_div (by omega),Nat.div_eq_of_lt hv,Nat.add_zero]
  have h2:p*2^s%(q*2^s)=v:=by rw [H,Nat.add_mul_mod_self_left,Nat.mod_eq_of_lt hv]
  rw [Nat.mul_div_mul_right _ _ (Nat.two_pow_pos s)] at h1;rw [Nat.mul_mod_mul_right] at h2;exact ⟨h1.symm,by rw [←h2,Nat.mul_div_cancel _ (Nat.two_pow_pos s)]⟩
theorem top_half {b m V t vl:Nat} (hb2:b%2=0) (hV:V=t*b^m+vl) (hvl:vl<b^m) (h:b^(m+1)≤2*V):b≤2*t:=by
  rw [Nat.pow_succ] at h
  generalize b^m=X at *
  have h1:X*b<2*(t+1)*X:=by rw [Nat.mul_add,Nat.add_mul,Nat.mul_one];have:2*t*X=2*(t*X):=Nat.mul_assoc _ _ _;omega
  rw [Nat.mul_comm X] at h1;have h2:=Nat.lt_of_mul_lt_mul_right h1
  omega
end Go.Proofs.YtllgjggkchgpbaaGreat.L
end
