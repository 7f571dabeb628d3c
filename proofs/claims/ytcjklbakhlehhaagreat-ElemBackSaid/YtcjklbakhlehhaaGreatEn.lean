/- hairlinelaw08: small and at, as contracts; numbers of at most 8 (plain). V: hairlinelaw08: the laws' common table and facts. V: dyad.Add and dyad.Mul, by names; what an interval's product encloses. -/
import Derived.Test.YtcjklbakhlehhaaGreatEh
set_option linter.unusedVariables false
set_option linter.unusedSimpArgs false
namespace Go.Proofs.YtcjklbakhlehhaaGreat
section
section
open Go.RowKit Go.Shelf
namespace An
structure Nrm (a b:Int) (r:Rat):Prop where
  nm:nM a b=a
  ne:nE a b=b
  b0 : -1200≤b
  b1:b≤4000
  rr:rv (av 4000 a b)=r
theorem rv_inj' {u v:Int} (h:rv u=rv v):u=v:=by
  have e1:=je1 u;have e2:=je1 v;rw [h,e2] at e1;exact (Rat.intCast_inj.1 e1).symm
theorem jn8 {V:Int} (h0 : -1200≤pE V (0 - 4000)) (h1:pE V (0 - 4000)≤4000):Nrm (pM V) (pE V (0 - 4000)) (rv V):=by
  have m:=moved (V:=V) (p:=0) (by omega) h1;rw [two_zero,Rat.mul_one] at m;have ev:=rv_inj' m;refine ⟨?_,?_,h0,h1,m⟩
  · rw [jry 4000,ev]
  · have e2:nE (pM V) (pE V (0 - 4000))=pE (av 4000 (pM V) (pE V (0 - 4000))) (0 - 4000):=jmq (Nat.le_refl 4000) _ _
    rw [e2,ev]
theorem jn9 {z x:Int} (h0 : -1200≤nE z x) (h1:nE z x≤4000):Nrm (nM z x) (nE z x) (rv (av 4000 z x)):=by
  have e1:=jry 4000 z x;have e2:nE z x=pE (av 4000 z x) (0 - 4000):=jmq (Nat.le_refl 4000) z x;rw [e2] at h0 h1;rw [e1,e2];exact jn8 h0 h1
section
variable {a b:Int} {r:Rat}
theorem Nrm.xV (N:Nrm a b r):An.xV a b=av 4000 a b:=by unfold An.xV;rw [N.nm,N.ne]
theorem Nrm.xQ (N:Nrm a b r):An.xQ a b=r:=by unfold An.xQ;rw [N.xV,N.rr]
theorem Nrm.neg (N:Nrm a b r):Nrm (pM (-(av 4000 a b))) (pE (-(av 4000 a b)) (0 - 4000)) (-r):=by
  have e:pE (-(av 4000 a b)) (0 - 4000)=b:=by
    have e2:nE a b=pE (av 4000 a b) (0 - 4000):=jmq (Nat.le_refl 4000) a b;rw [N.ne] at e2;refine Eq.trans ?_ e2.symm
    generalize av 4000 a b=v
    unfold pE;rw [Int.natAbs_neg]
    by_cases c:v=0
    · rw [if_pos (by omega),if_pos c]
    · rw [if_neg (by omega),if_neg c]
  have M:=jn8 (V := -(av 4000 a b)) (by rw [e];exact N.b0) (by rw [e];exact N.b1);rw [rv_neg,N.rr] at M;exact M
theorem jeo {m n:Int} (h:two m<two n):m<n:=by
  by_cases c:m<n
  · exact c
  · have:=two_le_two (show n≤m by omega);grind
theorem Nrm.lg (N:Nrm a b r) {n:Int} (h1:Bd (two n) r) (h2:r≠two n∧r≠-two n):lgOk a b=false∨lgN a b<n:=by
  by_cases hz:a=0
  · left
    subst hz;unfold lgOk cM;rw [if_pos (.inr (.inr rfl))];rfl
  · right
    have hr:=N.rr;have b0:=N.b0;have b1:=N.b1
    by_cases hp:0<a
    · obtain ⟨l1,-,-⟩:=jkt (z:=a) (x:=b) (by omega) b1 hp
      rw [hr] at l1;exact jeo (by unfold Bd at h1;grind)
    · obtain ⟨l1,-,-⟩:=jkt (z := -a) (x:=b) (by omega) b1 (by omega)
      rw [jmh,jq0 (by omega) b1,hr] at l1;exact jeo (by unfold Bd at h1;grind)
theorem Nrm.sign (N:Nrm a b r):(cM a b).sign=(av 4000 a b).sign∧(0<av 4000 a b↔0<r)∧(av 4000 a b<0↔r<0):=by
  refine ⟨jhh 4000 a b,?_,?_⟩
  · rw [←N.rr]
    constructor
    · exact rv_pos
    · intro h
      by_cases c:0<av 4000 a b
      · exact c
      · have:=jg4 (v := -(av 4000 a b)) (by omega)
        rw [rv_neg] at this
        grind
  · rw [←N.rr]
    constructor
    · intro h
      have:=rv_pos (v := -(av 4000 a b)) (by omega);rw [rv_neg] at this
      grind
    · intro h
      by_cases c:av 4000 a b<0
      · exact c
      · have:=jg4 (v:=av 4000 a b) (by omega)
        grind
theorem Nrm.gE (N:Nrm a b r) (hr:0<r) {m n:Int} (h0:two m≤r) (h1:r<two n):m≤An.gE a b∧An.gE a b<n:=by
  have b0:=N.b0;have b1:=N.b1
  have hp:0<a:=by
    have e:=je2 (z:=a) (x:=b) (by omega) b1;rw [N.rr] at e;have t:=two_pos b
    by_cases c:0<a
    · exact c
    · have:=Rat.mul_le_mul_of_nonneg_right (show (a:Rat)≤0 from jal (show a≤0 by omega)) (Rat.le_of_lt t)
      grind
  obtain ⟨l1,-,l2⟩:=jkt (z:=a) (x:=b) (by omega) b1 hp;rw [N.rr] at l1 l2;have e:An.gE a b=lgN a b:=by unfold An.gE;rw [N.nm,N.ne]
  rw [e];have k1:=jeo (show two m<two (lgN a b+1) by grind);have k2:=jeo (show two (lgN a b)<two n by grind)
  omega
end
theorem jw4 (z:Int):(sm2 z).natAbs<W^2:=by
  unfold sm2;rw [Int.natAbs_tmod];exact Nat.mod_lt _ (by decide)
theorem sm_ok (z:Int):∃r,Nrm (smM z) (smE z) r∧((sm2 z=0∧r=0)∨(0<sm2 z∧4≤r∧r<8)∨(sm2 z<0∧-8<r∧r≤-4)):=by
  have hl:=jw4 z;have nb:nbits (sm2 z).natAbs≤128:=(jbd _ _).2 (by rw [show (2:Nat)^128=W^2 from by decide +kernel];exact hl);have xl : -125≤smX z∧smX z≤3:=by unfold smX;omega
  have tzb:0≤nE (sm2 z) (smX z)+125∧nE (sm2 z) (smX z)≤131:=by
    unfold nE pE cM cE
    by_cases c:smX z < -4000∨4000<smX z∨sm2 z=0
    · rw [if_pos c,if_pos rfl];omega
    · simp only [if_neg c]
      rw [if_neg (by omega)];have t:=jp6 (sm2 z).natAbs 128 ((jbd _ _).1 nb)
      omega
  have N:=jn9 (z:=sm2 z) (x:=smX z) (by omega) (by omega);refine ⟨_,N,?_⟩;have t4:two 2=4:=by show (2:Rat)^2=4;decide +kernel
  have t8:two 3=8:=by show (2:Rat)^3=8;decide +kernel
  by_cases h0:sm2 z=0
  · left
    refine ⟨h0,?_⟩;rw [h0,je2 (by omega) (by omega)]
    show (0:Rat)*_=0
    grind
  · have lgv:lgN (sm2 z) (smX z)=2:=by
      unfold lgN cM cE;have c:¬(smX z < -4000∨4000<smX z∨sm2 z=0):=by omega
      simp only [if_neg c];rw [if_neg h0];have:smX z=3 - (nbits (sm2 z).natAbs:Nat):=rfl
      omega
    by_cases hp:0<sm2 z
    · right;left
      obtain ⟨l1,-,l2⟩:=jkt (z:=sm2 z) (x:=smX z) (by omega) (by omega) hp;rw [lgv] at l1 l2;rw [t4] at l1;rw [show (2:Int)+1=3 from rfl,t8] at l2;exact ⟨hp,l1,l2⟩
    · right;right
      obtain ⟨l1,-,l2⟩:=jkt (z := -(sm2 z)) (x:=smX z) (by omega) (by omega) (by omega);rw [jmh,lgv,jq0 (by omega) (by omega)] at l1 l2;rw [t4] at l1;rw [show (2:Int)+1=3 from rfl,t8] at l2;exact ⟨by omega,by grind,by grind⟩
end An
namespace V
section
variable (h:Nat→List Int→Int)
theorem smX0:in12 (inlX (sm1 h) 9 smF0 [] [rawD])=some ([],.one (.ag [.z 0 true (.n 0),.i .i64 (.n 0)])):=by kernel_rfl
theorem smOK:SpecOK Tryz.prog (FS h) (smS 9):=by
  intro ρ β w vs ha hb hf;have he:Enters Tryz.prog 9:=jae (f:=9) (by kernel_rfl);have nd:∀ρ:Nat→Int,(ap1 6 z2T).den (FS h) ρ=(nbits (An.sm2 (ρ 0)).natAbs:Nat):=fun ρ=>rfl
  by_cases hs:nbits (An.sm2 (ρ 0)).natAbs=0
  · have hr:∀ρ,allT (FS h) ρ (dsp 9 [rawD] 2 smF0 (smR (ap1 88 (.v 0)) (ap1 89 (.v 0)))).fs→eqA (FS h) ρ (.one (.ag [.z 0 true (.n 0),.i .i64 (.n 0)])) (smR (ap1 88 (.v 0)) (ap1 89 (.v 0))):=fun ρ hf=>by
      have e0:=jfy hf.1;rw [nd] at e0;have e1:nbits (An.sm2 (ρ 0)).natAbs=0:=Int.ofNat.inj e0
      have z0:An.sm2 (ρ 0)=0:=by
        by_cases c:An.sm2 (ρ 0)=0
        · exact c
        · have:=jb7 (n:=(An.sm2 (ρ 0)).natAbs) (by omega);omega
      have m0:An.smM (ρ 0)=0:=by unfold An.smM nM cM;rw [if_pos (by omega)];exact je6
      have s0:An.smE (ρ 0)=0:=by
        unfold An.smE nE cM cE;rw [if_pos (.inr (.inr z0)),if_pos (.inr (.inr z0))];exact jce _
      have g1:(0:Int)=(ap1 88 (.v 0)).den (FS h) ρ:=m0.symm;have g2:(0:Int)=(ap1 89 (.v 0)).den (FS h) ρ:=s0.symm;exact ⟨⟨Nat.zero_le _,rfl,g1⟩,⟨rfl,g2⟩,trivial⟩
    exact ja0 (tab:=sm1 h) (sp:=dsp 9 [rawD] 2 smF0 (smR (ap1 88 (.v 0)) (ap1 89 (.v 0)))) (res:=.one (.ag [.z 0 true (.n 0),.i .i64 (.n 0)])) follows_any he (smX0 h) rfl hr ha hb ⟨bd_eq' (by rw [nd,hs];rfl),trivial⟩
  · have hr:∀ρ,allT (FS h) ρ (dsp 9 [rawD] 2 smF1 (smR (ap1 88 (.v 0)) (ap1 89 (.v 0)))).fs→eqA (FS h) ρ (smR (ap2 56 z2T (.sub (.n 3) (ap1 6 z2T))) (ap2 57 z2T (.sub (.n 3) (ap1 6 z2T)))) (smR (ap1 88 (.v 0)) (ap1 89 (.v 0))):=fun ρ hf=>by
      have g1:(ap2 56 z2T (.sub (.n 3) (ap1 6 z2T))).den (FS h) ρ=(ap1 88 (.v 0)).den (FS h) ρ:=rfl;have g2:(ap2 57 z2T (.sub (.n 3) (ap1 6 z2T))).den (FS h) ρ=(ap1 89 (.v 0)).den (FS h) ρ:=rfl;exact ⟨⟨Nat.le_refl _,rfl,g1⟩,⟨rfl,g2⟩,trivial⟩
    exact ja0 (tab:=sm1 h) (sp:=dsp 9 [rawD] 2 smF1 (smR (ap1 88 (.v 0)) (ap1 89 (.v 0)))) (res:=smR (ap2 56 z2T (.sub (.n 3) (ap1 6 z2T))) (ap2 57 z2T (.sub (.n 3) (ap1 6 z2T)))) follows_any he (smX1 h) rfl hr ha hb ⟨jaf (show (1:Int)≤(nbits (An.sm2 (ρ 0)).natAbs:Nat) by omega),trivial⟩
def at8gS (f:FuncId) (c:Int):Spec:=dsp f [i64 (.v 3),d0,i64 (.v 2)] 4 (.eq (.v 3) (.n c)::bsF c) (at8N c)
theorem at8g (c:Int) (hc:c=0∨c=1∨c=2∨c=3∨c=4∨c=5):SpecOK Tryz.prog (FS h) (at8gS 12 c):=by
  intro ρ β w vs ha hb hf;have e:ρ 3=c:=jfy hf.1;refine at8 h c hc ?_ hb hf.2;obtain ⟨v1,r1,rfl,a1,hr⟩:=ha;refine ⟨v1,r1,rfl,?_,hr⟩;have a1':[v1]=[Value.int .i64 (ρ 3)]:=a1;rw [e] at a1';exact a1'
end
end V
end
end
section
section
open Go.RowKit Go.Shelf
namespace V
section
variable (h:Nat→List Int→Int)
noncomputable def lwB:List (Ctr Tryz.prog (FS h)):=
  c08 h ::
  Ctr.lem (jae (by kernel_rfl)) (smOK h) ::
  Ctr.lem (jae (by kernel_rfl)) (at8g h 0 (by omega))::Ctr.lem (jae (by kernel_rfl)) (at8g h 1 (by omega))::Ctr.lem (jae (by kernel_rfl)) (at8g h 2 (by omega))::Ctr.lem (jae (by kernel_rfl)) (at8g h 3 (by omega))::Ctr.lem (jae (by kernel_rfl)) (at8g h 4 (by omega))::Ctr.lem (jae (by kernel_rfl)) (at8g h 5 (by omega)) ::
  dy1 (hB h)
def sg3 (a b c:T):Nat→T
  | 0=>a
  | 1=>b
  | 2=>c
  | n=>.v n
def bsI (c:Int) (a b q:T):List T:=(bsF c).map (T.inst (sg3 a b q))
def i64F (i:Nat):List T:=[.le (.n (-9223372036854775808)) (.v i),.le (.v i) (.n 9223372036854775807)]
theorem j1w {ρ:Nat→Int} {c:Int} {r:Rat} (N:An.Nrm (ρ 0) (ρ 1) r) (q0:0≤ρ 2) (q1:ρ 2≤800) (ex:¬(c=2∨c=3)→An.Bd 512 r) (lp:(c=2∨c=3)→An.two (-1000)≤r∧r<An.two 1000):allT (FS h) ρ (bsF c):=by
  have b0:=N.b0;have b1:=N.b1
  have ha:allT (FS h) ρ aF:=by
    have e:aE.den (FS h) ρ=nE (ρ 0) (ρ 1):=rfl;rw [N.ne] at e;exact ⟨jaf (show -100000≤ρ 1 by omega),jaf (show ρ 1≤100000 by omega),jaf q0,jaf q1,jaf (show -1200≤aE.den (FS h) ρ by omega),jaf (show aE.den (FS h) ρ≤4000 by omega),trivial⟩
  by_cases c2:c=2∨c=3
  · obtain ⟨l0,l1⟩:=lp c2
    have rp:0<r:=by have:=An.two_pos (-1000);grind
    obtain ⟨g0,g1⟩:=N.gE rp l0 l1;have sg:(ap2 67 aM aE).den (FS h) ρ=(An.xV (ρ 0) (ρ 1)).sign:=jhh 4000 _ _;have xp:0<An.xV (ρ 0) (ρ 1):=by rw [N.xV];exact N.sign.2.1.2 rp
    have hl:allT (FS h) ρ lgB:=by
      refine jaa ⟨jcg ?_,jaf (show -1100≤An.gE (ρ 0) (ρ 1) by omega),jaf (show An.gE (ρ 0) (ρ 1)≤1100 by omega),trivial⟩ ha
      show 0<(ap2 67 aM aE).den (FS h) ρ
      rw [sg,Int.sign_eq_one_of_pos xp];decide
    unfold bsF
    by_cases k:c=2
    · rw [if_pos k];exact hl
    · rw [if_neg k,if_pos (by omega)];exact hl
  · have hb:=ex c2
    have m9:may9.bd (FS h) ρ=true:=by
      have t10:=An.two_ten;have lg:=N.lg (n:=10) (by rw [t10];exact hb.mono (by grind)) (by rw [t10];unfold An.Bd at hb;grind);unfold may9;rw [jfp,jax,bd_le]
      show (!(b2i (lgOk (nM (ρ 0) (ρ 1)) (nE (ρ 0) (ρ 1))) != 0) || decide (lgN (nM (ρ 0) (ρ 1)) (nE (ρ 0) (ρ 1))≤9))=true
      rw [N.nm,N.ne,jc9,Bool.or_eq_true]
      rcases lg with k | k
      · left;rw [k];rfl
      · right;exact decide_eq_true (by omega)
    unfold bsF;rw [if_neg (by omega),if_neg (by omega)];exact ⟨m9,ha⟩
theorem jfg {ρ:Nat→Int} {c:Int} {a b q:T} {r:Rat} (N:An.Nrm (a.den (FS h) ρ) (b.den (FS h) ρ) r) (q0:0≤q.den (FS h) ρ) (q1:q.den (FS h) ρ≤800) (ex:¬(c=2∨c=3)→An.Bd 512 r) (lp:(c=2∨c=3)→An.two (-1000)≤r∧r<An.two 1000):allT (FS h) ρ (bsI c a b q):=
  jgd (j1w h (ρ:=fun i=>(sg3 a b q i).den (FS h) ρ) N q0 q1 ex lp)
theorem jcy {a b c q:Int} {r:Rat} (hc:0≤c∧c≤5) (N:An.Nrm a b r) (q0:0≤q) (q1:q≤800) (ex:¬(c=2∨c=3)→An.Bd 512 r) (lp:(c=2∨c=3)→An.two (-1000)≤r∧r<An.two 1000):An.Base c a b q:=by
  have b0:=N.b0;have b1:=N.b1;refine ⟨hc.1,hc.2,q0,q1,by rw [N.ne];exact b0,by rw [N.ne];exact b1,fun k=>?_,fun k=>?_,fun k=>?_,fun k=>?_⟩
  · rw [N.xQ];exact (ex k).mono (by grind)
  all_goals
    obtain ⟨l0,l1⟩:=lp k;have rp:0<r:=by have:=An.two_pos (-1000);grind
    obtain ⟨g0,g1⟩:=N.gE rp l0 l1
  · rw [N.xV];exact N.sign.2.1.2 rp
  · omega
  · omega
end
def le5 (a b:T):T:=.le (ap2 5 a b) (.n 0)
def meetT (P Q aL aH bL bH:T):T:=
  .and (rightL aL aH) (.and (rightL bL bH) (.ite (.lt P Q) (.and (le5 (.mul bL (p2 (.sub P P))) (.mul aH (p2 (.sub Q P)))) (le5 (.mul aL (p2 (.sub Q P))) (.mul bH (p2 (.sub P P)))))
    (.and (le5 (.mul bL (p2 (.sub P Q))) (.mul aH (p2 (.sub Q Q)))) (.ite (.lt Q P) (le5 (.mul aL (p2 (.sub Q Q))) (.mul bH (p2 (.sub P Q)))) (le5 (.mul aL (p2 (.sub Q P))) (.mul bH (p2 (.sub P P))))))))
theorem jk2 {p q:Int} (p0:0≤p) (h:p≤q):(2:Int)^q.toNat=2^(q - p).toNat*2^p.toNat:=by
  rw [←Int.pow_add];congr 1;omega
theorem jbm {a b m:Int} (hm:0<m) (h:a*m≤b*m):a≤b:=Int.le_of_mul_le_mul_right h hm
theorem jy9 {g:Nat→List Int→Int} {ρ:Nat→Int} {P Q aL aH bL bH:T} {p q:Int} (hp:P.den (stdF g) ρ=p) (hq:Q.den (stdF g) ρ=q) (p0:0≤p) (q0:0≤q)
    (h1:aL.den (stdF g) ρ≤aH.den (stdF g) ρ) (h2:bL.den (stdF g) ρ≤bH.den (stdF g) ρ)
    (m1:aL.den (stdF g) ρ*2^q.toNat≤bH.den (stdF g) ρ*2^p.toNat) (m2:bL.den (stdF g) ρ*2^p.toNat≤aH.den (stdF g) ρ*2^q.toNat):(meetT P Q aL aH bL bH).bd (stdF g) ρ=true:=by
  have le5_bd:∀a b:T,a.den (stdF g) ρ≤b.den (stdF g) ρ→(le5 a b).bd (stdF g) ρ=true:=fun a b k=>jad (a:=a) (b:=b) k
  have d:∀(a x y:T),(T.mul a (p2 (.sub x y))).den (stdF g) ρ=a.den (stdF g) ρ*2^(x.den (stdF g) ρ - y.den (stdF g) ρ).toNat:=fun _ _ _=>rfl
  have z:∀x:Int,(2:Int)^(x - x).toNat=1:=fun x=>by rw [Int.sub_self];rfl
  have tw:∀n:Nat,(0:Int)<2^n:=fun n=>Int.pow_pos (by omega)
  have lo:p≤q→aL.den (stdF g) ρ*2^(q - p).toNat≤bH.den (stdF g) ρ∧bL.den (stdF g) ρ≤aH.den (stdF g) ρ*2^(q - p).toNat:=fun hle=>by
    rw [jk2 p0 hle] at m1 m2;refine ⟨jbm (tw p.toNat) ?_,jbm (tw p.toNat) ?_⟩
    · rw [Int.mul_assoc];exact m1
    · rw [Int.mul_assoc];exact m2
  have hi:q≤p→aL.den (stdF g) ρ≤bH.den (stdF g) ρ*2^(p - q).toNat∧bL.den (stdF g) ρ*2^(p - q).toNat≤aH.den (stdF g) ρ:=fun hle=>by
    rw [jk2 q0 hle] at m1 m2;refine ⟨jbm (tw q.toNat) ?_,jbm (tw q.toNat) ?_⟩
    · rw [Int.mul_assoc];exact m1
    · rw [Int.mul_assoc];exact m2
  unfold meetT;rw [jbp,jbp,jad h1,jad h2]
  show (true && (true && (T.ite _ _ _).bd (stdF g) ρ))=true
  have ite_bd:∀a b d:T,(T.ite a b d).bd (stdF g) ρ=if a.bd (stdF g) ρ then b.bd (stdF g) ρ else d.bd (stdF g) ρ:=fun a b d=>by
    unfold T.bd;rw [jc3];unfold T.bd
    split <;> rfl
  rw [ite_bd,bd_lt,hp,hq]
  by_cases c:p<q
  · rw [if_pos (decide_eq_true c),jbp,le5_bd _ _ (by rw [d,d,hp,hq,z,Int.mul_one];exact (lo (by omega)).2),le5_bd _ _ (by rw [d,d,hp,hq,z,Int.mul_one];exact (lo (by omega)).1)]
    rfl
  · rw [if_neg (by simpa using c),jbp,ite_bd,bd_lt,hp,hq,le5_bd _ _ (by rw [d,d,hp,hq,z,Int.mul_one];exact (hi (by omega)).2)]
    by_cases c2:q<p
    · rw [if_pos (decide_eq_true c2),le5_bd _ _ (by rw [d,d,hp,hq,z,Int.mul_one];exact (hi (by omega)).1)]
      rfl
    · rw [if_neg (by simpa using c2),le5_bd _ _ (by rw [d,d,hp,hq,z,Int.mul_one];exact (lo (by omega)).1)]
      rfl
end V
end
end
section
section
open Go.RowKit Go.Shelf
namespace An
def hT (h:Nat→List Int→Int):Nat→List Int→Int
  | 0,[z,x,u,y]=>pM (av 4000 z x+av 4000 u y)
  | 1,[z,x,u,y]=>pE (av 4000 z x+av 4000 u y) (-(4000:Nat))
  | 2,[z,x,u,y]=>pM (av 4000 z x*av 4000 u y)
  | 3,[z,x,u,y]=>pE (av 4000 z x*av 4000 u y) (-((4000+4000:Nat):Int))
  | n,l=>if n<8 then 0 else h (n - 8) l
theorem Encl.mul {F G:Nat→Rat} {a b c d q:Int} (q0:0≤q) (h:Encl F a b q) (g:Encl G c d q) {M:Rat} (hF:∀m,Bd M (F m)) (hG:∀m,Bd M (G m)):Encl (fun m=>F m*G m) (mulLo a b c d q) (mulHi a b c d q) q:=by
  have M0:=(hF 0).nonneg;refine ((Lim.and h g).small (c:=1) (by grind)).trim (K:=2*M+1) (by grind) ?_;rintro m δ hd ⟨δ',hd',d1,d2,⟨u,u1,u2,u3⟩,⟨v,v1,v2,v3⟩⟩ ε hε;obtain ⟨e1,e2⟩:=jjo (w:=q) q0 u1 u2 v1 v2;refine ⟨u*v,e1,e2,?_⟩
  have bv:Bd (M+1) v:=by
    have:=(v3.mono d2).add (hG m);rw [show v - G m+G m=v by grind] at this;exact this.mono (by grind)
  have t:=(u3.mul bv).add ((hF m).mul v3);rw [show (u - F m)*v+F m*(v - G m)=u*v - F m*G m by grind] at t;refine t.mono ?_;have k1:=Rat.mul_le_mul_of_nonneg_left d1 (show (0:Rat)≤2*M+1 by grind)
  grind
theorem Encl.add {F G:Nat→Rat} {a b c d q:Int} (h:Encl F a b q) (g:Encl G c d q):Encl (fun m=>F m+G m) (a+c) (b+d) q:=by
  refine (Lim.and h g).trim (K:=2) (by grind) ?_;rintro m δ hd ⟨⟨u,u1,u2,u3⟩,⟨v,v1,v2,v3⟩⟩ ε hε;refine ⟨u+v,?_,?_,?_⟩
  · rw [Rat.intCast_add];grind
  · rw [Rat.intCast_add];grind
  · have t:=u3.add v3
    rw [show u - F m+(v - G m)=u+v - (F m+G m) by grind] at t;exact t.mono (by grind)
theorem Nrm.add {a b c d:Int} {r s:Rat} (N:Nrm a b r) (M:Nrm c d s) (h0 : -1200≤pE (av 4000 a b+av 4000 c d) (0 - 4000)) (h1:pE (av 4000 a b+av 4000 c d) (0 - 4000)≤4000):Nrm (pM (av 4000 a b+av 4000 c d)) (pE (av 4000 a b+av 4000 c d) (0 - 4000)) (r+s):=by
  have K:=jn8 h0 h1
  have e:rv (av 4000 a b+av 4000 c d)=r+s:=by
    rw [←N.rr,←M.rr];unfold rv;rw [Rat.intCast_add];grind
  rw [e] at K;exact K
end An
namespace V
section
variable (h:Nat→List Int→Int)
abbrev FT:Nat→List Int→Int:=FS (An.hT h)
def addS (f:FuncId):Spec:=dsp f [d0,d2] 4 (xF 1 ++ xF 3) (dA 526 true (ap4' 96 (.v 0) (.v 1) (.v 2) (.v 3)) (ap4' 97 (.v 0) (.v 1) (.v 2) (.v 3)))
theorem addOK:SpecOK Tryz.prog (FT h) (addS 27):=by
  intro ρ β w vs ha _ hf;obtain ⟨v,u,rfl,hv,hu⟩:=args2 ha;obtain ⟨n,A,l,c,rfl,hq⟩:=jfa hv;obtain ⟨n',A',l',c',rfl,hq'⟩:=jfa hu;exact ⟨trivial,(j4a 4000 hq hq' (by omega) (by omega) (by omega) (jez (ja9 hf)) (jez (jab hf)) rfl rfl rfl rfl).mono fun e w' ⟨k1,k2⟩=>⟨k1,resD k2 rfl rfl⟩⟩
def dmulS (f:FuncId):Spec:=dsp f [d0,d2] 4 (xF 1 ++ xF 3) (dA 400 true (ap4' 98 (.v 0) (.v 1) (.v 2) (.v 3)) (ap4' 99 (.v 0) (.v 1) (.v 2) (.v 3)))
theorem dmulOK:SpecOK Tryz.prog (FT h) (dmulS 28):=by
  intro ρ β w vs ha _ hf;obtain ⟨v,u,rfl,hv,hu⟩:=args2 ha;obtain ⟨n,A,l,c,rfl,hq⟩:=jfa hv;obtain ⟨n',A',l',c',rfl,hq'⟩:=jfa hu;exact ⟨trivial,(j4c 4000 4000 hq hq' (by omega) (by omega) (by omega) (by omega) (jez (ja9 hf)) (jez (jab hf)) rfl rfl rfl rfl).mono fun e w' ⟨k1,k2⟩=>⟨k1,resD k2 rfl rfl⟩⟩
end
end V
end
end
end Go.Proofs.YtcjklbakhlehhaaGreat