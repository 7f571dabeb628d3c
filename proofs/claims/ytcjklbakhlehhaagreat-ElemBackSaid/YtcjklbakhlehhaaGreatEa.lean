/- V: hairlinelaw08.ElemLogs answers true. -/
import Derived.Test.YtcjklbakhlehhaaGreatEu
set_option linter.unusedVariables false
set_option linter.unusedSimpArgs false
namespace Go.Proofs.YtcjklbakhlehhaaGreat
open Go.RowKit Go.Shelf L
namespace An
theorem pE_neg (v k:Int):pE (-v) k=pE v k:=by
  unfold pE;rw [Int.natAbs_neg]
  by_cases c:v=0
  · rw [if_pos (by omega),if_pos c]
  · rw [if_neg (by omega),if_neg c]
theorem j1t (z x:Int) (n:Nat):pE (z*2^n) x=pE z (x+n):=by
  by_cases h:z=0
  · subst h;rw [Int.zero_mul,jce,jce]
  · have p:(0:Int)<2^n:=Int.pow_pos (by omega)
    have h2:z*2^n≠0:=fun c=>by
      rcases Int.mul_eq_zero.1 c with k | k
      · exact h k
      · omega
    rw [jkw h2,jkw h,Int.natAbs_mul,natAbs_pow,jkx _ _ (by omega)]
    omega
theorem Nrm.mul {a b c d k:Int} {r s:Rat} (N:Nrm a b r) (M:Nrm c d s) (e:av 4000 a b*av 4000 c d=k*2^4000) (h0 : -1200≤pE k (0 - 4000)) (h1:pE k (0 - 4000)≤4000) (hk:rv k=r*s) :
    Nrm (pM (av 4000 a b*av 4000 c d)) (pE (av 4000 a b*av 4000 c d) (-((4000+4000:Nat):Int))) (r*s):=by
  have K:=jn8 h0 h1;rw [hk] at K
  have e1:pE (k*2^4000) (-((4000+4000:Nat):Int))=pE k (0 - 4000):=by
    rw [j1t];congr 1
  rw [e,jrx,e1];exact K
theorem mul_rv {u v k:Int} (e:u*v=k*2^4000):rv k=rv u*rv v:=by
  have e1:=je1 u;have e2:=je1 v;have p:=two_pos 4000;refine jrl ?_;have c:=congrArg (fun x:Int=>(x:Rat)) e;have t:((k*2^4000:Int):Rat)=(k:Rat)*two 4000:=jcm (z:=k) (n:=4000) (by omega);simp only [t,Rat.intCast_mul] at c;rw [←e1,←e2] at c;exact Rat.le_antisymm (jaw p (by grind)) (jaw p (by grind))
structure Lg (a b:Int) (r:Rat):Prop where
  x1:1≤rv (gV a b)
  x2:rv (gV a b)≤2
  hz:zQ a b*(rv (gV a b)+1)=rv (gV a b) - 1
  eq:rv (gV a b)*two (gE a b)=r
theorem lg_of {c a b q:Int} {r:Rat} (hc:c=2∨c=3) (B:Base c a b q) (N:Nrm a b r):Lg a b r:=by
  obtain ⟨p1,p2,p3,-,-⟩:=parts_ok B.e0 B.e1 (B.lp hc) (B.l0 hc) (B.l1 hc);refine ⟨p2,by grind,zQ_ok p2,?_⟩;have i:=two_inv' (gE a b);rw [p1,N.xQ]
  grind
theorem jmu {m:Nat} (hm:16≤m) (z:Rat) (e:Int):log2F z e m=logF z e m*(lnn m)⁻¹:=by
  have lm:=jjm m (by omega);have inv:=Rat.mul_inv_cancel (lnn m) (by grind);unfold log2F logF
  grind
theorem j1u {m:Nat} (hm:16≤m):Bd 2 (lnn m)⁻¹:=by
  have lm:=jjm m (by omega);have inv:=Rat.mul_inv_cancel (lnn m) (by grind);have p:=Rat.inv_pos.2 (show 0<lnn m by grind)
  generalize (lnn m)⁻¹=i at *
  have:=Rat.mul_le_mul_of_nonneg_right (show (1/2:Rat)≤lnn m by grind) (Rat.le_of_lt p);unfold Bd;grind
theorem val_mul {c a1 b1 a2 b2 a3 b3:Int} {r s:Rat} (hc:c=2∨c=3) (L1:Lg a1 b1 r) (L2:Lg a2 b2 s) (L3:Lg a3 b3 (r*s)) :
    Lim fun m ε=>Bd ε (valF c a3 b3 m - (valF c a1 b1 m+valF c a2 b2 m)):=by
  have key:=jya (e1:=gE a1 b1) (e2:=gE a2 b2) (e3:=gE a3 b3) L1.x1 L1.x2 L1.hz L2.x1 L2.x2 L2.hz L3.x1 L3.x2 L3.hz (by rw [L1.eq,L2.eq,L3.eq])
  rcases hc with rfl | rfl
  · exact key
  · refine (key.and (Lim.late (P:=fun m _=>16≤m) 16 fun n ε h _=>h)).trim (K:=2) (by grind) ?_
    rintro m δ hd ⟨k,hm⟩ ε hε;have t:=k.mul (j1u hm)
    have e:valF 3 a3 b3 m - (valF 3 a1 b1 m+valF 3 a2 b2 m)=(logF (zQ a3 b3) (gE a3 b3) m - (logF (zQ a1 b1) (gE a1 b1) m+logF (zQ a2 b2) (gE a2 b2) m))*(lnn m)⁻¹:=by
      have v:∀a b:Int,valF 3 a b m=log2F (zQ a b) (gE a b) m:=fun a b=>rfl
      rw [v,v,v,jmu hm,jmu hm,jmu hm]
      grind
    rw [e];exact t.mono (by grind)
end An
namespace V
section
variable (h:Nat→List Int→Int)
structure LsN (ρ:Nat→Int) (n:Bool) (i:Nat) (r:Rat):Prop where
  N:An.Nrm ((lsM n i).den (FT h) ρ) ((lsE n i).den (FT h) ρ) r
  lo:4≤r
  hi:r<8
  low : -125≤(lsE n i).den (FT h) ρ
theorem sm_t {ρ:Nat→Int} (i:Nat):∃r,An.Nrm ((s88i i).den (FT h) ρ) ((s89i i).den (FT h) ρ) r∧(r=0∨(4≤r∧r<8)∨(-8<r∧r≤-4)):=by
  obtain ⟨r,N,k⟩:=An.sm_ok (ρ i);refine ⟨r,N,?_⟩
  rcases k with k | k | k
  · exact .inl k.2
  · exact .inr (.inl k.2)
  · exact .inr (.inr k.2)
theorem jr9 {ρ:Nat→Int} {i:Nat} {r:Rat} (N:An.Nrm ((s88i i).den (FT h) ρ) ((s89i i).den (FT h) ρ) r) (h1:4≤r) (h2:r<8):LsN h ρ false i r:=⟨N,h1,h2,An.sm_low (ρ i)⟩
theorem jsa {ρ:Nat→Int} {i:Nat} {r:Rat} (N:An.Nrm ((s88i i).den (FT h) ρ) ((s89i i).den (FT h) ρ) r) (h1 : -8<r) (h2:r≤-4):LsN h ρ true i (-r):=by
  refine ⟨N.neg,by grind,by grind,?_⟩
  show -125≤pE (-(av 4000 (An.smM (ρ i)) (An.smE (ρ i)))) (0 - 4000)
  have e2:nE (An.smM (ρ i)) (An.smE (ρ i))=pE (av 4000 (An.smM (ρ i)) (An.smE (ρ i))) (0 - 4000):=jmq (Nat.le_refl 4000) _ _;have e3:nE (An.smM (ρ i)) (An.smE (ρ i))=An.smE (ρ i):=N.ne;rw [An.pE_neg,←e2,e3];exact An.sm_low (ρ i)
theorem ls_n {ρ:Nat→Int} {n:Bool} {i:Nat} (hs:allT (FT h) ρ (lsS n i)):∃r,LsN h ρ n i r:=by
  obtain ⟨r,N,k⟩:=sm_t h (ρ:=ρ) i;have g:=jfh (An.hT h) N
  cases n
  · have p:=g.1.1 (jca hs.1)
    exact ⟨r,jr9 h N (by grind) (by grind)⟩
  · have p:=g.2.1 (jca hs.1)
    exact ⟨-r,jsa h N (by grind) (by grind)⟩
theorem ls_s {ρ:Nat→Int} {n:Bool} {i:Nat} {r:Rat} (L:LsN h ρ n i r) (N:n=true→∃u,An.Nrm ((s88i i).den (FT h) ρ) ((s89i i).den (FT h) ρ) u∧u<0):allT (FT h) ρ (lsS n i):=by
  have l:=L.lo;have g:=(jfh (An.hT h) L.N).1.2 (by grind)
  cases n
  · exact ⟨jcg g,trivial⟩
  · obtain ⟨u,N,hu⟩:=N rfl
    exact ⟨jcg ((jfh (An.hT h) N).2.2 hu),jcg g,trivial⟩
theorem jw0 {ρ:Nat→Int} {n m:Bool} {r s:Rat} (L:LsN h ρ n 0 r) (M:LsN h ρ m 2 s):An.Nrm ((pdM n m).den (FT h) ρ) ((pdE n m).den (FT h) ρ) (r*s)∧16≤r*s∧r*s<64∧(pdM n m).den (FT h) ρ≤capS∧-capS≤(pdM n m).den (FT h) ρ:=by
  have b1:=L.N.b1;have b2:=M.N.b1;have l1:=L.low;have l2:=M.low;obtain ⟨k,ek⟩:=An.av_mult (a:=(lsM n 0).den (FT h) ρ) (b:=(lsE n 0).den (FT h) ρ) (n:=3800) (by omega) b1 (by omega);obtain ⟨j,ej⟩:=An.av_mult (a:=(lsM m 2).den (FT h) ρ) (b:=(lsE m 2).den (FT h) ρ) (n:=3800) (by omega) b2 (by omega);have r1:=L.lo;have r2:=L.hi;have s1:=M.lo;have s2:=M.hi;have p1:=Rat.mul_le_mul_of_nonneg_left s1 (show (0:Rat)≤r by grind);have p2:=Rat.mul_lt_mul_of_pos_left s2 (show (0:Rat)<r by grind)
  have e:av 4000 ((lsM n 0).den (FT h) ρ) ((lsE n 0).den (FT h) ρ)*av 4000 ((lsM m 2).den (FT h) ρ) ((lsE m 2).den (FT h) ρ)=(k*j*2^3600)*2^4000:=by
    rw [ek,ej,Int.mul_assoc (k*j),←Int.pow_add,show 3600+4000=3800+3800 from rfl,Int.pow_add]
    generalize (2:Int)^3800=d
    grind
  have hk:=An.mul_rv e;rw [L.N.rr,M.N.rr] at hk;have t6:An.two 6=64:=by show (2:Rat)^6=64;decide +kernel
  have hb:An.Bd (An.two 6) (An.rv (k*j*2^3600)):=by rw [hk,t6];unfold An.Bd;grind
  obtain ⟨q0,q1⟩:=An.pE_low (v:=k*j*2^3600) (n:=3600) (k:=k*j) (by omega) rfl (j:=6) (by omega) (by omega) hb;have K:=An.Nrm.mul L.N M.N e q0 q1 hk;have u:=An.abs_two (by omega) hb;have pl:=An.pM_le (k*j*2^3600);have pc:(2:Int)^(6+4000:Int).toNat≤capS:=An.pow_mono (n:=(6+4000:Int).toNat) (m:=5000) (by omega)
  have em:(pdM n m).den (FT h) ρ=pM (k*j*2^3600):=by
    show pM (av 4000 ((lsM n 0).den (FT h) ρ) ((lsE n 0).den (FT h) ρ)*av 4000 ((lsM m 2).den (FT h) ρ) ((lsE m 2).den (FT h) ρ))=_
    rw [e,jrx]
  refine ⟨K,by grind,by grind,?_,?_⟩
  all_goals
    rw [em];clear e hk hb ek ej K em q0 q1
    generalize (2:Int)^(6+4000:Int).toNat=d at *
    generalize k*j*2^3600=v at *
    omega
theorem ls_q {ρ:Nat→Int}:0≤lsQ.den (FT h) ρ∧lsQ.den (FT h) ρ≤800:=by
  show 0≤ρ 4%128∧ρ 4%128≤800
  omega
structure AskL (ρ:Nat→Int) (c:Int) (a b q:T) (r:Rat):Prop where
  bs:allT (FT h) ρ (bsI c a b q)
  en:An.Encl (An.valF c (a.den (FT h) ρ) (b.den (FT h) ρ)) ((n90 c a b q).den (FT h) ρ) ((n91 c a b q).den (FT h) ρ) (q.den (FT h) ρ)
  lg:An.Lg (a.den (FT h) ρ) (b.den (FT h) ρ) r
  xb:allT (FT h) ρ (xbI b)
theorem askL {ρ:Nat→Int} {c:Int} (hc:c=2∨c=3) {a b q:T} {r:Rat} (N:An.Nrm (a.den (FT h) ρ) (b.den (FT h) ρ) r) (r0:4≤r) (r1:r<64) (q0:0≤q.den (FT h) ρ) (q1:q.den (FT h) ρ≤800):AskL h ρ c a b q r:=by
  have lp:(c=2∨c=3)→An.two (-1000)≤r∧r<An.two 1000:=fun _=>by
    have a:=An.two_le_two (show (-1000:Int)≤0 by decide);have b:=An.two_le_two (show (6:Int)≤1000 by decide);have t6:An.two 6=64:=by show (2:Rat)^6=64;decide +kernel
    rw [An.two_zero] at a;rw [t6] at b
    grind
  have B:=jcy (c:=c) (q:=q.den (FT h) ρ) (by omega) N q0 q1 (fun k=>absurd hc k) lp;have b0:=N.b0;have b1:=N.b1;exact ⟨jfg (An.hT h) N q0 q1 (fun k=>absurd hc k) lp,An.encl_at B,An.lg_of hc B N,jaf (show -100000≤b.den (FT h) ρ by omega),jaf (show b.den (FT h) ρ≤100000 by omega),trivial⟩
theorem jw1 {ρ:Nat→Int} {c:Int} (hc:c=2∨c=3) {n m:Bool} (h1:allT (FT h) ρ (lsS n 0)) (h2:allT (FT h) ρ (lsS m 2)):eqA (FT h) ρ (lsR c n m) (.one (.sc (.b (.n 1)))):=by
  obtain ⟨r,L⟩:=ls_n h h1;obtain ⟨s,M⟩:=ls_n h h2;obtain ⟨K,k0,k1,-,-⟩:=jw0 h L M;obtain ⟨q0,q1⟩:=ls_q h (ρ:=ρ);have r2:=L.hi;have s2:=M.hi;have A:=askL h hc (q:=lsQ) L.N L.lo (by grind) q0 q1;have C:=askL h hc (q:=lsQ) M.N M.lo (by grind) q0 q1;have S:=askL h hc (q:=lsQ) K (by grind) k1 q0 q1;have P:=An.Encl.add A.en C.en;have ad:=An.val_mul hc A.lg C.lg S.lg;have dp:∀n:Nat,(0:Int)<2^n:=fun n=>Int.pow_pos (by omega)
  have m1:=P.meet S.en (ad.mono fun m ε he k=>by unfold An.Bd at *;grind) q0 q0;have m2:=S.en.meet P ad q0 q0;exact jc7 (joh (g:=gR (hC (hD (hB (An.hT h))))) (aL:=.add (lsL c n 0) (lsL c m 2)) (aH:=.add (lsH c n 0) (lsH c m 2)) P.le S.en.le (jbm (dp _) m1) (jbm (dp _) m2))
theorem jw2 {ρ:Nat→Int} {c:Int} {b:T} (hc:c=2∨c=3) (hb:b.bd (FT h) ρ=true) {n m:Bool} (h1:allT (FT h) ρ (lsS n 0)) (h2:allT (FT h) ρ (lsS m 2)) (hf:allT (FT h) ρ laI):allT (FT h) ρ (lsF c b n m):=by
  obtain ⟨r,L⟩:=ls_n h h1;obtain ⟨s,M⟩:=ls_n h h2;obtain ⟨K,k0,k1,c1,c2⟩:=jw0 h L M;obtain ⟨q0,q1⟩:=ls_q h (ρ:=ρ);have r2:=L.hi;have s2:=M.hi;have A:=askL h hc (q:=lsQ) L.N L.lo (by grind) q0 q1;have C:=askL h hc (q:=lsQ) M.N M.lo (by grind) q0 q1;have S:=askL h hc (q:=lsQ) K (by grind) k1 q0 q1
  have xs:∀i,allT (FT h) ρ (xbI (s89i i)):=fun i=>by
    obtain ⟨u,N,-⟩:=sm_t h (ρ:=ρ) i;have b0:=N.b0;have b1:=N.b1;exact ⟨jaf (show -100000≤(s89i i).den (FT h) ρ by omega),jaf (show (s89i i).den (FT h) ρ≤100000 by omega),trivial⟩
  exact ⟨hb,jad (g:=gR (hC (hD (hB (An.hT h))))) A.en.le,jad (g:=gR (hC (hD (hB (An.hT h))))) C.en.le,jaa h1 (jaa h2 (jaa ⟨jaf c2,jaf c1,trivial⟩ (jaa (xs 0) (jaa (xs 2) (jaa A.xb (jaa C.xb (jaa S.xb (jaa A.bs (jaa C.bs (jaa S.bs hf))))))))))⟩
theorem logsOK:SpecOK Tryz.prog (FT h) (addsS 7 laI):=by
  intro ρ β w vs ha hb hf;have he:Enters Tryz.prog 7:=jae (f:=7) (by kernel_rfl);obtain ⟨r,N,hr⟩:=sm_t h (ρ:=ρ) 0;obtain ⟨s,M,hs⟩:=sm_t h (ρ:=ρ) 2
  have xs:∀i,allT (FT h) ρ (xbI (s89i i)):=fun i=>by
    obtain ⟨u,N,-⟩:=sm_t h (ρ:=ρ) i;have b0:=N.b0;have b1:=N.b1;exact ⟨jaf (show -100000≤(s89i i).den (FT h) ρ by omega),jaf (show (s89i i).den (FT h) ρ≤100000 by omega),trivial⟩
  have sg:∀(i:Nat) (u:Rat),An.Nrm ((s88i i).den (FT h) ρ) ((s89i i).den (FT h) ρ) u→(u=0∨(4≤u∧u<8)∨(-8<u∧u≤-4))→u≠0→∃n,allT (FT h) ρ (lsS n i):=fun i u N k u0=>by
    rcases k with k | k | k
    · exact absurd k u0
    · exact ⟨false,ls_s h (jr9 h N k.1 k.2) (fun c=>by cases c)⟩
    · exact ⟨true,ls_s h (jsa h N k.1 k.2) (fun _=>⟨u,N,by grind⟩)⟩
  have zs:∀(i:Nat),An.Nrm ((s88i i).den (FT h) ρ) ((s89i i).den (FT h) ρ) 0→(T.eq (ap2 67 (s88i i) (s89i i)) (.n 0)).bd (FT h) ρ=true:=fun i N=>by
    have g:=jfh (An.hT h) N;have a1:¬ 0<(ap2 67 (s88i i) (s89i i)).den (FT h) ρ:=fun k=>by have:=g.1.1 k;grind
    have a2:¬ (ap2 67 (s88i i) (s89i i)).den (FT h) ρ<0:=fun k=>by have:=g.2.1 k;grind
    exact bd_eq' (show (ap2 67 (s88i i) (s89i i)).den (FT h) ρ=0 by omega)
  by_cases r0:r=0
  · subst r0
    have z:=zs 0 N
    by_cases sn:s<0
    · have g:=(jfh (An.hT h) M).2.2 sn
      exact ja0 (tab:=lgT h) (sp:=addsS 7 (lsZ1 true)) follows_any he (lz1 h true) rfl (fun ρ _=>jc7 rfl) ha hb ⟨z,jcg g,jaa (xs 0) (jaa (xs 2) hf)⟩
    · have g:0≤(ap2 67 (s88i 2) (s89i 2)).den (FT h) ρ:=by
        have:=(jfh (An.hT h) M).2.1
        by_cases c:(ap2 67 (s88i 2) (s89i 2)).den (FT h) ρ<0
        · exact absurd (this c) sn
        · omega
      exact ja0 (tab:=lgT h) (sp:=addsS 7 (lsZ1 false)) follows_any he (lz1 h false) rfl (fun ρ _=>jc7 rfl) ha hb ⟨z,jaf g,jaa (xs 0) (jaa (xs 2) hf)⟩
  · obtain ⟨n,h1⟩:=sg 0 r N hr r0
    by_cases s0:s=0
    · subst s0
      have z:=zs 2 M;obtain ⟨u,L⟩:=ls_n h h1;have b0:=L.N.b0;have b1:=L.N.b1;exact ja0 (tab:=lgT h) (sp:=addsS 7 (lsZ2 n)) follows_any he (lz2 h n) rfl (fun ρ _=>jc7 rfl) ha hb ⟨z,jaa h1 (jaa (xs 0) (jaa (xs 2) (jaa ⟨jaf (show -100000≤(lsE n 0).den (FT h) ρ by omega),jaf (show (lsE n 0).den (FT h) ρ≤100000 by omega),trivial⟩ hf)))⟩
    · obtain ⟨m,h2⟩:=sg 2 s M hs s0
      by_cases t:(T.v 5).bd (FT h) ρ=true
      · have rs:∀ρ,allT (FT h) ρ (addsS 7 (lsF 3 (.v 5) n m)).fs→eqA (FT h) ρ (lsR 3 n m) (addsS 7 (lsF 3 (.v 5) n m)).res:=fun ρ hf=>jw1 h (.inr rfl) (ja9 hf.2.2.2) (ja9 (jab hf.2.2.2))
        exact ja0 (tab:=lgT h) (sp:=addsS 7 (lsF 3 (.v 5) n m)) follows_any he (lx3 h n m) rfl rs ha hb (jw2 h (.inr rfl) t h1 h2 hf)
      · have t2:(T.not (.v 5)).bd (FT h) ρ=true:=by
          rw [jax]
          simpa using t
        have rs:∀ρ,allT (FT h) ρ (addsS 7 (lsF 2 (.not (.v 5)) n m)).fs→eqA (FT h) ρ (lsR 2 n m) (addsS 7 (lsF 2 (.not (.v 5)) n m)).res:=fun ρ hf=>jw1 h (.inl rfl) (ja9 hf.2.2.2) (ja9 (jab hf.2.2.2))
        exact ja0 (tab:=lgT h) (sp:=addsS 7 (lsF 2 (.not (.v 5)) n m)) follows_any he (lx2 h n m) rfl rs ha hb (jw2 h (.inl rfl) t2 h1 h2 hf)
end
theorem logs_v {w:World} {n:Bool} {A:Option Addr} {l c:Nat} {L:List Nat} {x:Int} {m:Bool} {B:Option Addr} {j d:Nat} {M:List Nat} {y q:Int} {t:Bool} (hN:Nums w 0 (.slice A l c) L) (hM:Nums w 0 (.slice B j d) M)
    (hx : -9223372036854775808≤x∧x≤9223372036854775807) (hy : -9223372036854775808≤y∧y≤9223372036854775807) (hq : -9223372036854775808≤q∧q≤9223372036854775807) :
    Calls Tryz.prog 7 #[.agg #[.bool n,.slice A l c,.int .i64 x],.agg #[.bool m,.slice B j d,.int .i64 y],.int .i64 q,.bool t] w fun e w'=>e=.returned (.bool true)∧Below w.heap.size w w':=by
  have ha:hasA (FT zz8) (ρ9 (ival n (val W L)) x (ival m (val W M)) y q (b2i t)) id w (addsS 7 laI).ps [.agg #[.bool n,.slice A l c,.int .i64 x],.agg #[.bool m,.slice B j d,.int .i64 y],.int .i64 q,.bool t]:=by
    refine ⟨_,_,rfl,jeq 0 hN rfl rfl,_,_,rfl,jeq 2 hM rfl rfl,_,_,rfl,rfl,_,_,rfl,?_,rfl⟩
    show [Value.bool t]=[Value.bool (b2i t != 0)]
    rw [jc9]
  have hfs:allT (FT zz8) (ρ9 (ival n (val W L)) x (ival m (val W M)) y q (b2i t)) laI:=⟨jaf hx.1,jaf hx.2,jaf hy.1,jaf hy.2,jaf hq.1,jaf hq.2,trivial⟩;obtain ⟨-,g⟩:=logsOK zz8 ha jew hfs;refine g.mono fun e w' ⟨h1,u,h2,h3⟩=>⟨?_,h1⟩
  have h4:[u]=[Value.bool true]:=h3;rw [h2,List.head_eq_of_cons_eq h4]
end V
end Go.Proofs.YtcjklbakhlehhaaGreat
