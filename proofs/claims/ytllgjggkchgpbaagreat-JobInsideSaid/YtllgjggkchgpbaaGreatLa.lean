/- Plain: how great a told value is; the least distance from multiples, of numbers between. -/
import Derived.Test.YtllgjggkchgpbaaGreatGp
set_option linter.unusedVariables false
set_option linter.unusedSimpArgs false
namespace Go.Proofs.YtllgjggkchgpbaaGreat
open Go.RowKit Go.Shelf
namespace An
def Told (c:Int) (F:Nat→Rat) (lo hi k q:Int):Prop:=Lim fun m ε=>∃v:Rat,Near 2 lo hi (v*DD q)∧Bd ε (v*two k - F m)∧Bd 4096 v∧(c≤1→1/2≤v∧v≤4)
theorem jxi {y:Rat} (h0:0≤y) (h1:y≤1) {m:Nat} (hm:1≤m):1/2≤En m y∧En m y≤4:=by
  have t:=jme (x:=0) (y:=y) (by grind) h0 h1 m;have mo:=jnp (x:=0) (y:=y) (by grind) h0 m;obtain ⟨n,rfl⟩:∃n,m=n+1:=⟨m - 1,by omega⟩;rw [E0] at t mo
  grind
theorem jxj {tl th w:Int} {y:Rat} (h0:0≤tl) (h1:th≤2^w.toNat) (a:(tl:Rat)≤y*DD w) (b:y*DD w≤(th:Rat)):0≤y∧y≤1:=by
  have d:=DD_pos w;have t1:(th:Rat)≤DD w:=jag h1;have t0:(0:Rat)≤(tl:Rat):=jag h0;exact ⟨jap d (by grind),jap d (by grind)⟩
theorem jvn {x:Rat} {q lo0 hi0 k:Int} (q0:0≤q) (q1:q≤800) (hx:Bd 1024 x) (h1:(lo0:Rat)≤x*DD (q+40)) (h2:x*DD (q+40)≤(hi0:Rat)) (R:RedOK x q lo0 hi0 k) {c:Int} :
    Told c (fun m=>En m x) (expLo (rLo lo0 k (lnLoZ (q+40)) (lnHiZ (q+40))) (q+40) ((q+40) / 4+10).toNat / 2^40) (0 - (0 - expHi (rHi hi0 k (lnLoZ (q+40)) (lnHiZ (q+40))) (q+40) ((q+40) / 4+10).toNat) / 2^40) k q:=by
  refine ((jdg k 1024).and (Lim.late (P:=fun m _=>((q+40) / 4+10).toNat+((q+40+16) / 3+2).toNat≤m) (((q+40) / 4+10).toNat+((q+40+16) / 3+2).toNat) fun n ε h _=>h)).mono fun m ε he ⟨hl,hm⟩=>?_
  have N:=jc1 (q:=q+40) (by omega) (by omega) (m:=m) (by omega);obtain ⟨e1,e2⟩:=jgc (k:=k) h1 h2 N.1 N.2.1;have t1:((rHi hi0 k (lnLoZ (q+40)) (lnHiZ (q+40)):Int):Rat)≤DD (q+40):=jag R.t1;have tt:=jag R.tt;rw [Rat.intCast_add] at tt;have ce:((7000:Int):Rat)=7000:=rfl;obtain ⟨y0,y1⟩:=jxj R.t0 R.t1 e1 e2;obtain ⟨s0,s1⟩:=jxi y0 y1 (m:=m) (by omega);exact ⟨En m (x - (k:Rat)*lnn m),fewer q0 (jcd (by omega) (by omega) R.t0 t1 e1 e2 (c:=7000) (by grind) (by omega)) (by grind),hl x hx,by unfold Bd;grind,fun _=>⟨s0,s1⟩⟩
theorem jvo {x:Rat} {n q lo0 hi0:Int} (q0:0≤q) (q1:q≤800) (hx:Bd 1024 x) (h1:(lo0:Rat)≤(x - (n:Rat))*DD (q+40)) (h2:(x - (n:Rat))*DD (q+40)≤(hi0:Rat)) (R:TwoOK q lo0 hi0) {c:Int} :
    Told c (fun m=>En m (x*lnn m)) (expLo (mulLo lo0 hi0 (lnLoZ (q+40)) (lnHiZ (q+40)) (q+40)) (q+40) ((q+40) / 4+10).toNat / 2^40) (0 - (0 - expHi (mulHi lo0 hi0 (lnLoZ (q+40)) (lnHiZ (q+40)) (q+40)) (q+40) ((q+40) / 4+10).toNat) / 2^40) n q:=by
  refine ((jdg n 1024).and (Lim.late (P:=fun m _=>((q+40) / 4+10).toNat+((q+40+16) / 3+2).toNat≤m) (((q+40) / 4+10).toNat+((q+40+16) / 3+2).toNat) fun n ε h _=>h)).mono fun m ε he ⟨hl,hm⟩=>?_
  have lb:=jmb m;have bx:Bd 1024 (x*lnn m):=(hx.mul (show Bd 1 (lnn m) by unfold Bd;grind)).mono (by grind);have N:=jc1 (q:=q+40) (by omega) (by omega) (m:=m) (by omega);obtain ⟨e1,e2⟩:=jjc (w:=q+40) (by omega) h1 h2 N.1 N.2.1;have ee:(x - (n:Rat))*lnn m=x*lnn m - (n:Rat)*lnn m:=by grind
  rw [ee] at e1 e2;have t1:((mulHi lo0 hi0 (lnLoZ (q+40)) (lnHiZ (q+40)) (q+40):Int):Rat)≤DD (q+40):=jag R.t1;have tt:=jag R.tt;rw [Rat.intCast_add,show ((10:Int):Rat)=10 from rfl] at tt;obtain ⟨y0,y1⟩:=jxj R.t0 R.t1 e1 e2;obtain ⟨s0,s1⟩:=jxi y0 y1 (m:=m) (by omega);exact ⟨En m (x*lnn m - (n:Rat)*lnn m),fewer q0 (jcd (by omega) (by omega) R.t0 t1 e1 e2 (c:=10) (by grind) (by omega)) (by grind),hl _ bx,by unfold Bd;grind,fun _=>⟨s0,s1⟩⟩
theorem Tells.told {F:Nat→Rat} {lo hi q c:Int} (h:Tells F lo hi 0 q) (hc:2≤c) (hF:Lim fun m ε=>Bd 4000 (F m)):Told c F lo hi 0 q:=by
  refine ((Lim.and h hF).small (c:=1) (by grind)).mono ?_;rintro m ε he ⟨δ,hd,d1,d2,⟨v,n,b⟩,f⟩;refine ⟨v,n,b.mono d1,?_,fun k=>by omega⟩;rw [jcz,Rat.mul_one] at b;unfold Bd at *
  grind
theorem told_at {c z x q:Int} (B:Base c z x q):Told c (valF c z x) (atLo c z x q) (atHi c z x q) (atK c z x q) q:=by
  have q0:=B.q0;have q1:=B.q1;have c0:=B.c0;have c5:=B.c5;have hc:c=0∨c=1∨c=2∨c=3∨c=4∨c=5:=by omega
  have T:=jvg B
  have lgb:(c=2∨c=3)→∀m,Bd 1101 (logF (zQ z x) (gE z x) m):=fun k m=>by
    obtain ⟨-,p2,p3,-,-⟩:=parts_ok B.e0 B.e1 (B.lp k) (B.l0 k) (B.l1 k);have hz:=zQ_ok p2;have l0:=jag (B.l0 k);have l1:=jag (B.l1 k)
    have z0:0≤zQ z x∧zQ z x≤1/3:=by
      constructor
      · refine jap (w:=rv (gV z x)+1) (by grind) ?_
        grind
      · refine jap (w:=rv (gV z x)+1) (by grind) ?_
        grind
    have hl:=H_bd z0.1 (show zQ z x≤1/2 by grind) m;have ll:=jmb m;have t:=(show Bd 1100 ((gE z x:Int):Rat) from ⟨l0,l1⟩).mul (show Bd 1 (lnn m) by unfold Bd;grind);unfold logF;unfold Bd at *
    grind
  rcases hc with rfl | rfl | rfl | rfl | rfl | rfl
  · unfold atLo atHi atK
    rw [(cut40 q _).1,(cut40 q _).2];have hb:=B.ex (by omega);obtain ⟨h1,h2,h3,h4⟩:=xL_ok (z:=z) (x:=x) q0 q1;exact jvn q0 q1 hb h1 h2 (e_red q0 q1 hb)
  · unfold atLo atHi atK
    rw [(cut40 q _).1,(cut40 q _).2];have hb:=B.ex (by omega);obtain ⟨h1,h2,-,R⟩:=t_two q0 q1 hb;exact jvo (n:=tK z x) q0 q1 hb h1 h2 R
  all_goals
    have k0:=(k_in B).2.2 (by omega);rw [k0] at T ⊢;refine T.told (by omega) ?_
  · exact Lim.all fun m ε he=>(lgb (by omega) m).mono (by grind)
  · refine Lim.late 16 fun m ε hm he=>?_
    have e:valF 3 z x m=logF (zQ z x) (gE z x) m*(lnn m)⁻¹:=by
      have lm:=jjb m (by omega);have inv:=Rat.mul_inv_cancel (lnn m) (by grind)
      show log2F (zQ z x) (gE z x) m=_
      unfold log2F logF
      grind
    have i2:Bd 2 (lnn m)⁻¹:=by
      have lm:=jjb m (by omega);have inv:=Rat.mul_inv_cancel (lnn m) (by grind);have p:=Rat.inv_pos.2 (show 0<lnn m by grind)
      generalize (lnn m)⁻¹=i at *
      have:=Rat.mul_le_mul_of_nonneg_right (show (1/2:Rat)≤lnn m by grind) (Rat.le_of_lt p);unfold Bd;grind
    rw [e];exact ((lgb (by omega) m).mul i2).mono (by grind)
  all_goals
    refine ((circle 1024).small (c:=1) (by grind)).mono ?_;rintro m ε he ⟨δ,hd,d1,d2,k⟩;have k:=k (xQ z x) (B.ex (by omega));have s1:=jbv (Cn m (xQ z x));have s2:=jbv (Sn m (xQ z x))
    have big:∀a:Rat,a*a≤2→Bd 4000 a:=fun a ha=>by
      unfold Bd
      constructor
      · by_cases t : -4000≤a
        · exact t
        · have:=Rat.mul_le_mul_of_nonneg_left (show (2:Rat)≤-a by grind) (show 0≤-a by grind);grind
      · by_cases t:a≤4000
        · exact t
        · have:=Rat.mul_le_mul_of_nonneg_left (show (2:Rat)≤a by grind) (show 0≤a by grind);grind
  · exact big _ (show Sn m (xQ z x)*Sn m (xQ z x)≤2 by unfold Bd at k;grind)
  · exact big _ (show Cn m (xQ z x)*Cn m (xQ z x)≤2 by unfold Bd at k;grind)
theorem Told.tells {c:Int} {F:Nat→Rat} {lo hi k q:Int} (h:Told c F lo hi k q):Tells F lo hi k q:=Lim.mono h fun m ε he ⟨v,a,b,_⟩=>⟨v,a,b⟩
theorem j2i {t:Int} (ht:0<t) (x:Int):x≤vUp x t*t∧vUp x t*t<x+t:=by
  rw [jn4 ht];have h2:=Int.emod_nonneg x (Int.ne_of_gt ht);have h3:=Int.emod_lt_of_pos x ht
  split <;> omega
theorem jsb (t:Int) (ht:0<t) (x:Int):∃j,nearI t x=x - j*t∨nearI t x=j*t - x:=by
  have h1:=Int.emod_add_mul_ediv x t;unfold nearI
  split
  · refine ⟨x / t+1,.inr ?_⟩
    rw [Int.add_mul,Int.one_mul,Int.mul_comm (x / t)];omega
  · refine ⟨x / t,.inl ?_⟩
    rw [Int.mul_comm (x / t)];omega
theorem jjr {t:Int} (ht:0<t) (x:Int):0≤nearI t x∧nearI t x≤x%t∧nearI t x≤t - x%t:=by
  have h2:=Int.emod_nonneg x (Int.ne_of_gt ht);have h3:=Int.emod_lt_of_pos x ht;unfold nearI
  split <;> omega
theorem jvp {lo hi t:Int} (ht:0<t) (hl:lo≤hi):∃y j,lo≤y∧y≤hi∧(gLeast lo hi t=y - j*t∨gLeast lo hi t=j*t - y):=by
  unfold gLeast;have u:=j2i ht lo
  by_cases c:vUp lo t*t≤hi
  · rw [if_pos c]
    exact ⟨vUp lo t*t,vUp lo t,u.1,c,.inl (by omega)⟩
  · rw [if_neg c]
    split
    · obtain ⟨j,h⟩:=jsb t ht hi
      exact ⟨hi,j,hl,Int.le_refl _,h⟩
    · obtain ⟨j,h⟩:=jsb t ht lo
      exact ⟨lo,j,Int.le_refl _,hl,h⟩
theorem jn7 {lo hi t:Int} (ht:0<t):0≤gLeast lo hi t:=by
  unfold gLeast;have a:=jjr ht lo;have b:=jjr ht hi
  split
  · omega
  · split <;> omega
theorem jsc {lo hi t:Int} (ht:0<t) {r:Rat} (h1:(lo:Rat)≤r) (h2:r≤(hi:Rat)) (j:Int) {d:Rat} (hd:Bd d (r - (j:Rat)*(t:Rat))):((gLeast lo hi t:Int):Rat)≤d:=by
  have hl:lo≤hi:=rat_le (Rat.le_trans h1 h2);have d0:=hd.nonneg;unfold gLeast;have u:=j2i ht lo;have a:=jjr ht lo;have b:=jjr ht hi
  by_cases c:vUp lo t*t≤hi
  · rw [if_pos c];exact d0
  · rw [if_neg c]
    have l1:=Int.emod_add_mul_ediv lo t;have m1:=Int.emod_add_mul_ediv hi t;have l2:=Int.emod_nonneg lo (Int.ne_of_gt ht);have l3:=Int.emod_lt_of_pos lo ht;have m2:=Int.emod_nonneg hi (Int.ne_of_gt ht);have m3:=Int.emod_lt_of_pos hi ht;rw [jn4 ht] at c;have r0:lo%t≠0:=fun k=>by rw [k] at c;simp at c;omega
    rw [if_neg r0] at c
    -- both in one turn
    have same:t*(hi / t)=t*(lo / t):=by
      have g:=Int.ediv_le_ediv ht hl
      rcases Int.lt_or_eq_of_le g with g | g
      · have:=Int.mul_le_mul_of_nonneg_left (show lo / t+1≤hi / t by omega) (Int.le_of_lt ht)
        rw [Int.mul_add,Int.mul_one] at this
        omega
      · rw [g]
    have key:∀g:Int,g≤lo%t→g≤t - hi%t→(g:Rat)≤d:=fun g g1 g2=>by
      by_cases k:j≤lo / t
      · have p:=Int.mul_le_mul_of_nonneg_right k (Int.le_of_lt ht)
        rw [Int.mul_comm (lo / t)] at p;have q:g+j*t≤lo:=by omega
        have q2:=jag q;rw [Rat.intCast_add,Rat.intCast_mul] at q2;unfold Bd at hd
        grind
      · have p:=Int.mul_le_mul_of_nonneg_right (show lo / t+1≤j by omega) (Int.le_of_lt ht)
        rw [Int.add_mul,Int.one_mul,Int.mul_comm (lo / t)] at p;have q:g+hi≤j*t:=by omega
        have q2:=jag q;rw [Rat.intCast_add,Rat.intCast_mul] at q2;unfold Bd at hd
        grind
    split
    · exact key _ (by omega) b.2.2
    · exact key _ a.2.1 (by omega)
end An
end Go.Proofs.YtllgjggkchgpbaaGreat
