/- Plain: two looks at one value. -/
import Derived.Test.YtllgjggkchgpbaaGreatLa
set_option linter.unusedVariables false
set_option linter.unusedSimpArgs false
namespace Go.Proofs.YtllgjggkchgpbaaGreat
open Go.RowKit Go.Shelf
namespace An
theorem jen {a b:Int} (h:a<b):two a<two b:=by
  have e:two (a+1)=2*two a:=by rw [Int.add_comm,two_add,two_one]
  have p:=two_pos a;have:=two_le_two (show a+1≤b by omega)
  grind
theorem two_succ (a:Int):two (a+1)=2*two a:=by rw [Int.add_comm,two_add,two_one]
theorem pow_two {n:Int} (h:0≤n):(((2:Int)^n.toNat:Int):Rat)=two n:=(two_DD h).symm
theorem Tells.y {F:Nat→Rat} {lo hi k q:Int} (q0:0≤q) (h:Tells F lo hi k q):Lim fun m ε=>∃y:Rat,(lo:Rat)≤y∧y≤(hi:Rat)∧(hi:Rat)≤y+2∧y≤(lo:Rat)+2∧Bd ε (y*two (k - q) - F m):=by
  refine Lim.mono h fun m ε he ⟨v,⟨n1,n2,n3,n4⟩,b⟩=>⟨v*DD q,n1,n2,n3,n4,?_⟩
  have e:v*DD q*two (k - q)=v*two k:=by
    have e1:two k=DD q*two (k - q):=by rw [←two_DD q0,←two_add];congr 1;omega
    rw [e1];grind
  rw [e];exact b
structure Seen (G:Nat→Rat) (lo hi k q n:Int):Prop where
  T:Lim fun m ε=>∃y:Rat,(lo:Rat)≤y∧y≤(hi:Rat)∧(hi:Rat)≤y+2∧y≤(lo:Rat)+2∧Bd ε (y*two (k - q) - G m)
  lw:two (n+k)≤(lo:Rat)*two (k - q)
  up:((lo:Rat)+1)*two (k - q)≤two (n+k+1)
  nq:0≤n+q
theorem jmy (n:Nat):(((2^n:Nat):Int):Rat)=two (n:Int):=by
  rw [Int.natCast_pow]
  show (((2:Int)^n:Int):Rat)=_
  have:=pow_two (n:=(n:Int)) (by omega);rw [Int.toNat_natCast] at this;exact this
theorem seen {G:Nat→Rat} {lo hi k q n:Int} (q0:0≤q) (T:Tells G lo hi k q) (h:0<lo) (hn:n=(nbits lo.natAbs:Nat) - 1 - q):Seen G lo hi k q n:=by
  have p:=jbq (n:=lo.natAbs) (by omega);have g:=jdr (n:=lo.natAbs) (by omega);have l:=jds lo.natAbs;have w:=two_pos (k - q);have e1:((2^(nbits lo.natAbs - 1):Nat):Int)≤lo:=by have:=Int.ofNat_le.2 g;omega
  have e2:lo+1≤((2^nbits lo.natAbs:Nat):Int):=by have:=Int.ofNat_lt.2 l;omega
  have r1:=jag e1;have r2:=jag e2;rw [jmy] at r1 r2;rw [Rat.intCast_add] at r2;have i1:(((nbits lo.natAbs - 1:Nat):Int))=n+q:=by omega
  have i2:((nbits lo.natAbs:Nat):Int)=n+q+1:=by omega
  rw [i1] at r1;rw [i2] at r2;refine ⟨T.y q0,?_,?_,by omega⟩
  · have m:=Rat.mul_le_mul_of_nonneg_right r1 (Rat.le_of_lt w)
    rw [←two_add,show n+q+(k - q)=n+k by omega] at m;exact m
  · have m:=Rat.mul_le_mul_of_nonneg_right r2 (Rat.le_of_lt w)
    rw [←two_add,show n+q+1+(k - q)=n+k+1 by omega] at m;exact m
section
variable {G:Nat→Rat} {l1 h1 k1 q1 n1 l2 h2 k2 q2 n2:Int}
theorem Seen.lim (S:Seen G l1 h1 k1 q1 n1):Lim fun m ε=>two (n1+k1)≤G m+ε∧G m≤two (n1+k1+1)+two (k1 - q1)+ε:=by
  have w:=two_pos (k1 - q1);refine S.T.mono fun m ε he ⟨y,a,b,c,d,e⟩=>?_
  have m1:=Rat.mul_le_mul_of_nonneg_right a (Rat.le_of_lt w);have m2:=Rat.mul_le_mul_of_nonneg_right d (Rat.le_of_lt w);have:=S.lw;have:=S.up;unfold Bd at e
  grind
theorem Seen.w_le (S:Seen G l1 h1 k1 q1 n1):two (k1 - q1)≤two (n1+k1):=two_le_two (by have:=S.nq;omega)
theorem Seen.scales (A:Seen G l1 h1 k1 q1 n1) (B:Seen G l2 h2 k2 q2 n2):n1+k1≤n2+k2+1:=by
  have h:two (n1+k1)≤two (n2+k2+1)+two (k2 - q2):=Lim.le (K:=2) (by grind) ((A.lim.and B.lim).mono fun m ε he ⟨a,b⟩=>by grind);have w:=B.w_le;have p:=two_pos (n2+k2);have e1:=two_succ (n2+k2);have e2:=two_succ (n2+k2+1);have:two (n1+k1)<two (n2+k2+1+1):=by grind
  have:=jb5 this
  omega
theorem Seen.low (A:Seen G l1 h1 k1 q1 n1) {s:Int} (s0:0≤s) (j:Int) {d:Rat} (h:Lim fun m ε=>Bd (d+ε) (G m - (j:Rat)*two (s+(k1 - q1)))):((gLeast l1 h1 (2^s.toNat):Int):Rat)*two (k1 - q1)≤d:=by
  have w:=two_pos (k1 - q1);have i:=two_inv' (k1 - q1);have wi:=two_pos (-(k1 - q1));refine Lim.le (K:=2) (by grind) ((A.T.and h).mono fun m ε he ⟨⟨y,a,b,c,e,f⟩,g⟩=>?_);have hs:(((2:Int)^s.toNat:Int):Rat)=two s:=pow_two s0
  have key:=jsc (lo:=l1) (hi:=h1) (t:=2^s.toNat) (Int.pow_pos (by omega)) a b j (d:=(d+2*ε)*two (-(k1 - q1))) (by
    rw [hs];have b2:Bd (d+2*ε) (y*two (k1 - q1) - (j:Rat)*two (s+(k1 - q1))):=by unfold Bd at *;grind
    rw [two_add] at b2;have m1:=Rat.mul_le_mul_of_nonneg_right b2.1 (Rat.le_of_lt wi);have m2:=Rat.mul_le_mul_of_nonneg_right b2.2 (Rat.le_of_lt wi);have e2:(y*two (k1 - q1) - (j:Rat)*(two s*two (k1 - q1)))*two (-(k1 - q1))=y - (j:Rat)*two s:=by grind
    rw [e2] at m1 m2;unfold Bd
    grind)
  have m1:=Rat.mul_le_mul_of_nonneg_right key (Rat.le_of_lt w);have e3:(d+2*ε)*two (-(k1 - q1))*two (k1 - q1)=d+2*ε:=by grind
  rw [e3] at m1;exact m1
theorem Seen.far (B:Seen G l2 h2 k2 q2 n2) (hle:l2≤h2) {s:Int} (s0:0≤s):∃j:Int,Lim fun m ε=>Bd ((((gLeast l2 h2 (2^s.toNat):Int):Rat)+2)*two (k2 - q2)+ε) (G m - (j:Rat)*two (s+(k2 - q2))):=by
  have tp:(0:Int)<2^s.toNat:=Int.pow_pos (by omega);obtain ⟨y,j,y0,y1,hy⟩:=jvp (lo:=l2) (hi:=h2) tp hle;have nn:=jn7 (lo:=l2) (hi:=h2) tp;have w:=two_pos (k2 - q2);have hs:(((2:Int)^s.toNat:Int):Rat)=two s:=pow_two s0
  have hb:Bd ((gLeast l2 h2 (2^s.toNat):Int):Rat) ((y:Rat) - (j:Rat)*two s):=by
    have nr:(0:Rat)≤((gLeast l2 h2 (2^s.toNat):Int):Rat):=jag nn;have e:((y - j*2^s.toNat:Int):Rat)=(y:Rat) - (j:Rat)*two s:=by rw [Rat.intCast_sub,Rat.intCast_mul,hs]
    have e2:((j*2^s.toNat - y:Int):Rat)=(j:Rat)*two s - (y:Rat):=by rw [Rat.intCast_sub,Rat.intCast_mul,hs]
    rcases hy with k | k
    · rw [k,e] at nr ⊢
      unfold Bd;grind
    · rw [k,e2] at nr ⊢
      unfold Bd;grind
  refine ⟨j,B.T.mono fun m ε he ⟨u,a,b,c,d,f⟩=>?_⟩;have g0:=jag y0;have g1:=jag y1;have b2:Bd (((gLeast l2 h2 (2^s.toNat):Int):Rat)+2) (u - (j:Rat)*two s):=by unfold Bd at *;grind
  have m1:=Rat.mul_le_mul_of_nonneg_right b2.1 (Rat.le_of_lt w);have m2:=Rat.mul_le_mul_of_nonneg_right b2.2 (Rat.le_of_lt w);rw [two_add];unfold Bd at *
  grind
theorem pow53:(((2:Int)^53:Int):Rat)=two 53:=pow_two (n:=53) (by omega)
theorem pow54:(((2:Int)^54:Int):Rat)=two 54:=pow_two (n:=54) (by omega)
theorem Seen.finer (A:Seen G l1 h1 k1 q1 n1) (B:Seen G l2 h2 k2 q2 n2) (hle:l2≤h2) {m1 m2:Int} (hm:m1<m2) (m0:0≤m1) (a1:94+m1≤n1+q1) (a2:94+m2≤n2+q2)
    (hard:gLeast l2 h2 (2^(q2 - 53+n2).toNat)<2^(q2 - 53+n2 - m2).toNat):gLeast l1 h1 (2^(q1 - 53+n1).toNat)<2^(q1 - 53+n1 - m1).toNat:=by
  have w1:=two_pos (k1 - q1);have w2:=two_pos (k2 - q2);have e1:=A.scales B;have e2:=B.scales A
  -- it is enough to bound it with the power of two
  have fin:∀d:Rat,((gLeast l1 h1 (2^(q1 - 53+n1).toNat):Int):Rat)*two (k1 - q1)≤d→d<two (n1+k1 - 53 - m1)→gLeast l1 h1 (2^(q1 - 53+n1).toNat)<2^(q1 - 53+n1 - m1).toNat:=fun d p r=>by
    refine Rat.intCast_lt_intCast.1 ?_;rw [pow_two (by omega)]
    by_cases c:((gLeast l1 h1 (2^(q1 - 53+n1).toNat):Int):Rat)<two (q1 - 53+n1 - m1)
    · exact c
    · have m:=Rat.mul_le_mul_of_nonneg_right (show two (q1 - 53+n1 - m1)≤((gLeast l1 h1 (2^(q1 - 53+n1).toNat):Int):Rat) by grind) (Rat.le_of_lt w1)
      rw [←two_add,show q1 - 53+n1 - m1+(k1 - q1)=n1+k1 - 53 - m1 by omega] at m
      grind
  have c1:n1+k1=n2+k2∨n1+k1=n2+k2+1∨n1+k1+1=n2+k2:=by omega
  have sm1:=jen (show k1 - q1<n1+k1 - 53 - m1 by omega)
  rcases c1 with c | c | c
  · obtain ⟨j,hj⟩:=B.far hle (s:=q2 - 53+n2) (by omega)
    rw [show q2 - 53+n2+(k2 - q2)=q1 - 53+n1+(k1 - q1) by omega] at hj;refine fin _ (A.low (by omega) j hj) ?_;have hr:=Rat.intCast_lt_intCast.2 hard;rw [pow_two (by omega)] at hr;have m:=Rat.mul_lt_mul_of_pos_right hr w2;rw [←two_add,show q2 - 53+n2 - m2+(k2 - q2)=n2+k2 - 53 - m2 by omega] at m;have t1:=two_succ (k2 - q2);have t2:=two_le_two (show k2 - q2+1≤n2+k2 - 53 - m2 by omega);have t3:=two_succ (n2+k2 - 53 - m2);have t4:=two_le_two (show n2+k2 - 53 - m2+1≤n1+k1 - 53 - m1 by omega)
    grind
  · have hj:Lim fun m ε=>Bd (two (k2 - q2)+ε) (G m - (((2:Int)^53:Int):Rat)*two (q1 - 53+n1+(k1 - q1))):=by
      rw [pow53,←two_add,show 53+(q1 - 53+n1+(k1 - q1))=n1+k1 by omega];refine (A.lim.and B.lim).mono fun m ε he ⟨a,b⟩=>?_
      rw [c] at a ⊢;unfold Bd
      grind
    exact fin _ (A.low (by omega) _ hj) (jen (by omega))
  · have hj:Lim fun m ε=>Bd (two (k1 - q1)+ε) (G m - (((2:Int)^54:Int):Rat)*two (q1 - 53+n1+(k1 - q1))):=by
      rw [pow54,←two_add,show 54+(q1 - 53+n1+(k1 - q1))=n1+k1+1 by omega];refine (A.lim.and B.lim).mono fun m ε he ⟨a,b⟩=>?_
      rw [←c] at b;unfold Bd
      grind
    exact fin _ (A.low (by omega) _ hj) sm1
end
theorem Told.pow_near {c:Int} {F:Nat→Rat} {l0 h0 k0 q0 lo hi k q:Int} (hc:c≤1) (T0:Told c F l0 h0 k0 q0) (T:Told c F lo hi k q):k≤k0+3:=by
  have h:two k≤8*two k0:=by
    refine Lim.le (K:=4) (by grind) ((Lim.and T0 T).mono fun m ε he ⟨⟨u,_,b,_,d⟩,⟨v,_,b',_,d'⟩⟩=>?_);have d:=d hc;have d':=d' hc;have p:=two_pos k;have p0:=two_pos k0;have m1:=Rat.mul_le_mul_of_nonneg_right d'.1 (Rat.le_of_lt p);have m2:=Rat.mul_le_mul_of_nonneg_right d.2 (Rat.le_of_lt p0);unfold Bd at *
    grind
  have e:two (k0+3)=8*two k0:=by
    rw [show k0+3=k0+1+1+1 by omega,two_succ,two_succ,two_succ];grind
  rw [←e] at h
  by_cases t:k≤k0+3
  · exact t
  · have:=jen (show k0+3<k by omega);grind
structure SecondOK (lo n q m:Int):Prop where
  pos:0<lo
  nlow:150+m≤n+q
  nup:n≤12
theorem jsl {c:Int} {F:Nat→Rat} {l0 h0 k0 n0 lo hi k q m n:Int} (m0:0≤m) (hq:q=m+160 - min n0 0) (nq : -300≤n0) (T0:Told c F l0 h0 k0 300) (S0:Seen F l0 h0 k0 300 n0) (T:Told c F lo hi k q) (hk:k≤k0+3) (hn:n=(nbits lo.natAbs:Nat) - 1 - q):SecondOK lo n q m:=by
  have q0:0≤q:=by omega
  have w:=two_pos (k - q)
  have low:two (n0 - 4+q)≤(lo:Rat):=by
    have h:two (n0+k0)≤(lo:Rat)*two (k - q)+2*two (k - q):=by
      refine Lim.le (K:=2) (by grind) ((S0.lim.and (T.tells.y q0)).mono fun m ε he ⟨a,⟨y,y1,y2,y3,y4,y5⟩⟩=>?_);have m1:=Rat.mul_le_mul_of_nonneg_right y4 (Rat.le_of_lt w);unfold Bd at y5
      grind
    have a1:=two_le_two (show n0+k - 3≤n0+k0 by omega);have a2:two (n0+k - 3)=two (n0 - 3+q)*two (k - q):=by rw [←two_add];congr 1;omega
    rw [a2] at a1;have a3:two (n0 - 3+q)≤(lo:Rat)+2:=jap w (by grind);have a4:two (n0 - 3+q)=2*two (n0 - 4+q):=by rw [show n0 - 3+q=n0 - 4+q+1 by omega,two_succ]
    have a5:=two_le_two (show 1≤n0 - 4+q by omega);rw [two_one] at a5
    grind
  have pos:0<lo:=by
    have:=two_pos (n0 - 4+q);exact Rat.intCast_pos.1 (by grind)
  have l:=jds lo.natAbs;have g:=jdr (n:=lo.natAbs) (by omega);have p:=jbq (n:=lo.natAbs) (by omega);have l2:lo<((2^nbits lo.natAbs:Nat):Int):=by have:=Int.ofNat_lt.2 l;omega
  have l3:=Rat.intCast_lt_intCast.2 l2;rw [jmy] at l3;have l4:=jb5 (show two (n0 - 4+q)<two ((nbits lo.natAbs:Nat):Int) by grind);refine ⟨pos,by omega,?_⟩;have g2:((2^(nbits lo.natAbs - 1):Nat):Int)≤lo:=by have:=Int.ofNat_le.2 g;omega
  have g3:=jag g2;rw [jmy] at g3;obtain ⟨N,hN⟩:=T 1 (by grind);obtain ⟨v,⟨v1,-,-,-⟩,-,v3,-⟩:=hN N (Nat.le_refl _);have d:=DD_pos q;have m1:=Rat.mul_le_mul_of_nonneg_right v3.2 (Rat.le_of_lt d);have e12:two 12=4096:=by show (2:Rat)^12=4096;decide +kernel
  have e:two (12+q)=4096*DD q:=by rw [two_add,two_DD q0,e12]
  have g4:two (((nbits lo.natAbs - 1:Nat)):Int)<two (12+q+1):=by
    have:=jen (show 12+q<12+q+1 by omega)
    grind
  have g5:=jb5 g4
  omega
def sgF (s:Bool) (F:Nat→Rat) (m:Nat):Rat:=if s then -(F m) else F m
def plL (s:Bool) (lo hi:Int):Int:=if s then 0 - hi else lo
def plH (s:Bool) (lo hi:Int):Int:=if s then 0 - lo else hi
theorem Told.sg {c:Int} {F:Nat→Rat} {lo hi k q:Int} (T:Told c F lo hi k q) (s:Bool) (hs:s=true→2≤c):Told c (sgF s F) (plL s lo hi) (plH s lo hi) k q:=by
  cases s
  · exact T
  · refine Lim.mono T fun m ε he ⟨v,⟨n1,n2,n3,n4⟩,b,d,e⟩=>⟨-v,⟨?_,?_,?_,?_⟩,?_,?_,fun k=>by have:=hs rfl;omega⟩
    · show ((0 - hi:Int):Rat)≤_;rw [Rat.intCast_sub];show (0:Rat) - _≤_;grind
    · show _≤((0 - lo:Int):Rat);rw [Rat.intCast_sub];show _≤(0:Rat) - _;grind
    · show ((0 - lo:Int):Rat)≤_;rw [Rat.intCast_sub];show (0:Rat) - _≤_;grind
    · show _≤((0 - hi:Int):Rat)+_;rw [Rat.intCast_sub];show _≤(0:Rat) - _+_;grind
    · show Bd ε (-v*two k - -(F m));unfold Bd at *;grind
    · unfold Bd at *;grind
theorem Told.pos {c:Int} {F:Nat→Rat} {lo hi k q:Int} (hc:c≤1) (q0:3≤q) (T:Told c F lo hi k q):0<lo:=by
  obtain ⟨N,hN⟩:=T 1 (by grind);obtain ⟨v,⟨v1,v2,v3,v4⟩,-,-,v5⟩:=hN N (Nat.le_refl _);have d:=two_le_two q0;rw [two_DD (q:=q) (by omega)] at d;have e3:two 3=8:=by show (2:Rat)^3=8;decide +kernel
  have m1:=Rat.mul_le_mul_of_nonneg_right (v5 hc).1 (Rat.le_of_lt (DD_pos q));rw [e3] at d;refine Rat.intCast_pos.1 ?_;clear hN T v5
  generalize v*DD q=y at *
  grind
end An
end Go.Proofs.YtllgjggkchgpbaaGreat
