/- V: hairlinelaw08.ElemCircle answers true. V: hairlinelaw08.ElemBack answers true. -/
import Derived.Test.YtcjklbakhlehhaaGreatFa
section
set_option linter.unusedVariables false
set_option linter.unusedSimpArgs false
namespace Go.Proofs.YtcjklbakhlehhaaGreat
open Go.RowKit Go.Shelf L
namespace V
section
variable (h:Nat→List Int→Int)
noncomputable def ciT:List (Ctr Tryz.prog (FT h)):=Ctr.fold (joc (hB (An.hT h))) (inl (lgT h) 26 (by kernel_rfl))::inl (lgT h) 25 (by kernel_rfl)::lgT h
def ciQ:T:=.add (.n 8) (ap2 2 (.v 2) (.n 128))
def ciL (c:Int) (n:Bool):T:=n90 c (lsM n 0) (lsE n 0) ciQ
def ciH (c:Int) (n:Bool):T:=n91 c (lsM n 0) (lsE n 0) ciQ
def ciA (c:Int):T:=ap5 74 (ciL c false) (ciH c false) (ciL c false) (ciH c false) ciQ
def ciB (c:Int):T:=ap5 75 (ciL c false) (ciH c false) (ciL c false) (ciH c false) ciQ
def ciS (c:Int) (n:Bool):List T:=rightL (ciL c n) (ciH c n)::(szF capB (ciL c n) ++ (szF capB (ciH c n) ++ bsI c (lsM n 0) (lsE n 0) ciQ))
def ciZ (t:T):T:=.mul t (p2 (.sub ciQ ciQ))
def ciN:T:=.add (.mul (.n 1) (p2 ciQ)) (.n 2)
def ciM (t:T):T:=.mul t (.n (-1))
def ciG:List T:=.lt (ap1 4 (.n (-1))) (.n 0)::rightL (.add (ciA 4) (ciA 5)) (ap3 59 (.n 1) (.n 0) ciQ)::rightL (ap3 60 (.n 1) (.n 0) ciQ) (.add (ciB 4) (ciB 5))::rightL (ciZ (ciL 4 false)) (ciZ (ciM (ciL 4 true)))::rightL (ciZ (ciM (ciH 4 true))) (ciZ (ciH 4 false))::rightL (ciZ (ciL 5 false)) (ciZ (ciH 5 true))::rightL (ciZ (ciL 5 true)) (ciZ (ciH 5 false))::rightL (ciH 4 false) ciN::rightL (.sub (.n 0) ciN) (ciL 4 false)::rightL (ciH 5 false) ciN::rightL (.sub (.n 0) ciN) (ciL 5 false)::rightL (.add (ciA 4) (ciA 5)) (.add (ciB 4) (ciB 5))::rightL (ciA 4) (ciB 4)::rightL (ciA 5) (ciB 5)::rightL (ciM (ciH 4 true)) (ciM (ciL 4 true))::[]
def ciI:List T:=i64F 1 ++ i64F 2
def ciF:List T:=ciG ++ (ciS 4 false ++ (ciS 5 false ++ (ciS 4 true ++ (ciS 5 true ++ (xbI (s89i 0) ++ (xbI (lsE true 0) ++ ciI))))))
def ciP:List A:=[rawI 0,i64 (.v 2)]
def ciR:A:=.one (.sc (.b (rightL (.sub (.n 0) ciN) (ciL 5 false))))
theorem cix:in12 (inlX (ciT h) 5 ciF [] ciP)=some ([],ciR):=by kernel_rfl
theorem ci_q {ρ:Nat→Int}:0≤ciQ.den (FT h) ρ∧ciQ.den (FT h) ρ≤140:=by
  show 0≤8+ρ 2%128∧8+ρ 2%128≤140
  omega
def wv (c:Int) (r:Rat) (m:Nat):Rat:=if c=4 then An.Sn m r else An.Cn m r
theorem j2j {c a b:Int} {r:Rat} (hc:c=4∨c=5) (N:An.Nrm a b r):An.valF c a b=wv c r:=funext fun m=>by
  unfold An.valF wv;rw [N.xQ,if_neg (by omega),if_neg (by omega),if_neg (by omega),if_neg (by omega)]
structure AskW (ρ:Nat→Int) (c:Int) (n:Bool) (r:Rat):Prop where
  bs:allT (FT h) ρ (ciS c n)
  en:An.Encl (wv c r) ((ciL c n).den (FT h) ρ) ((ciH c n).den (FT h) ρ) (ciQ.den (FT h) ρ)
  up:(ciH c n).den (FT h) ρ≤2^(ciQ.den (FT h) ρ).toNat+2
  dn : -(2^(ciQ.den (FT h) ρ).toNat+2)≤(ciL c n).den (FT h) ρ
theorem askW {ρ:Nat→Int} {c:Int} (hc:c=4∨c=5) {n:Bool} {r:Rat} (N:An.Nrm ((lsM n 0).den (FT h) ρ) ((lsE n 0).den (FT h) ρ) r) (hr:An.Bd 8 r):AskW h ρ c n r:=by
  obtain ⟨q0,q1⟩:=ci_q h (ρ:=ρ);have B:=jcy (c:=c) (q:=ciQ.den (FT h) ρ) (by omega) N q0 (by omega) (fun _=>hr.mono (by grind)) (fun k=>by omega);have E:=An.encl_at B;have L:=An.le_one B (by omega);have le:=E.le;rw [j2j hc N] at E;have pc:(2:Int)^(ciQ.den (FT h) ρ).toNat≤2^140:=An.pow_mono (n:=(ciQ.den (FT h) ρ).toNat) (m:=140) (by omega);have pb:(2:Int)^140+2≤capB:=by unfold capB;decide +kernel
  have l1:An.shLo c ((lsM n 0).den (FT h) ρ) ((lsE n 0).den (FT h) ρ) (ciQ.den (FT h) ρ)=(ciL c n).den (FT h) ρ:=rfl;have l2:An.shHi c ((lsM n 0).den (FT h) ρ) ((lsE n 0).den (FT h) ρ) (ciQ.den (FT h) ρ)=(ciH c n).den (FT h) ρ:=rfl;rw [l1,l2] at L le;obtain ⟨u1,u2⟩:=L;refine ⟨⟨jad (g:=gR (hC (hD (hB (An.hT h))))) le,jaa ⟨jaf ?_,jaf ?_,trivial⟩ (jaa ⟨jaf ?_,jaf ?_,trivial⟩ (jfg (An.hT h) N q0 (show ciQ.den (FT h) ρ≤800 by omega) (fun _=>hr.mono (by grind)) (fun k=>by omega)))⟩,E,u1,u2⟩
  · show -capB≤(ciL c n).den (FT h) ρ
    omega
  · show (ciL c n).den (FT h) ρ≤capB
    omega
  · show -capB≤(ciH c n).den (FT h) ρ
    omega
  · show (ciH c n).den (FT h) ρ≤capB
    omega
theorem jd7 {ρ:Nat→Int} (t:T):(ciZ t).den (FT h) ρ=t.den (FT h) ρ:=by
  show t.den (FT h) ρ*2^(ciQ.den (FT h) ρ - ciQ.den (FT h) ρ).toNat=_
  rw [Int.sub_self];exact Int.mul_one _
theorem j2k {ρ:Nat→Int} (hf:allT (FT h) ρ ciI):allT (FT h) ρ ciF:=by
  obtain ⟨r,N,hr⟩:=sm_i h (ρ:=ρ) 0;have M:An.Nrm ((lsM true 0).den (FT h) ρ) ((lsE true 0).den (FT h) ρ) (-r):=N.neg;obtain ⟨q0,q1⟩:=ci_q h (ρ:=ρ);have S:=askW h (c:=4) (n:=false) (.inl rfl) N hr;have C:=askW h (c:=5) (n:=false) (.inr rfl) N hr;have S':=askW h (c:=4) (n:=true) (.inl rfl) M hr.neg;have C':=askW h (c:=5) (n:=true) (.inr rfl) M hr.neg;have dp:∀n:Nat,(0:Int)<2^n:=fun n=>Int.pow_pos (by omega)
  have R:∀a b:T,a.den (FT h) ρ≤b.den (FT h) ρ→(rightL a b).bd (FT h) ρ=true:=fun a b k=>jad (g:=gR (hC (hD (hB (An.hT h))))) k
  obtain ⟨K,K0,hK⟩:=An.bounds 8;have bs:∀m,An.Bd K (wv 4 r m):=fun m=>(hK m r hr).2.1
  have bc:∀m,An.Bd K (wv 5 r m):=fun m=>(hK m r hr).2.2
  have PS:=An.Encl.mul q0 S.en S.en bs bs;have PC:=An.Encl.mul q0 C.en C.en bc bc;have one:=An.Encl.add PS PC
  have h1:=one.has (a:=2^(ciQ.den (FT h) ρ).toNat) (r:=1) ((An.circle 8).mono fun m ε he k=>by
    have k:=k r hr;have e4:wv 4 r m=An.Sn m r:=rfl;have e5:wv 5 r m=An.Cn m r:=rfl;rw [e4,e5];unfold An.Bd at *;grind) (by show An.DD _=1*An.DD _;grind)
  obtain ⟨f1,f2⟩:=Px.point_one (w:=ciQ.den (FT h) ρ) q0 (by omega);have n4:=S'.en.neg
  have neg4:An.Lim fun m ε=>An.Bd ε (wv 4 r m - -(wv 4 (-r) m)):=An.Lim.all fun m ε he=>by
    have e:wv 4 (-r) m = -(wv 4 r m):=An.S_neg r m;rw [e];unfold An.Bd;grind
  have neg5:An.Lim fun m ε=>An.Bd ε (wv 5 r m - wv 5 (-r) m):=An.Lim.all fun m ε he=>by
    have e:wv 5 (-r) m=wv 5 r m:=An.C_neg r m;rw [e];unfold An.Bd;grind
  have back:∀{F G:Nat→Rat},An.Lim (fun m ε=>An.Bd ε (F m - G m))→An.Lim fun m ε=>An.Bd ε (G m - F m):=fun k=>k.mono fun m ε he k=>by unfold An.Bd at *;grind
  have a1:=jbm (dp _) (S.en.meet n4 neg4 q0 q0);have a2:=jbm (dp _) (n4.meet S.en (back neg4) q0 q0);have a3:=jbm (dp _) (C.en.meet C'.en neg5 q0 q0);have a4:=jbm (dp _) (C'.en.meet C.en (back neg5) q0 q0)
  have mden:∀t:T,(ciM t).den (FT h) ρ = -(t.den (FT h) ρ):=fun t=>by
    show t.den (FT h) ρ * -1=_
    omega
  have nden:ciN.den (FT h) ρ=2^(ciQ.den (FT h) ρ).toNat+2:=by
    show 1*2^(ciQ.den (FT h) ρ).toNat+2=_
    rw [Int.one_mul]
  have nden2:(T.sub (.n 0) ciN).den (FT h) ρ = -(2^(ciQ.den (FT h) ρ).toNat+2):=by
    show 0 - ciN.den (FT h) ρ=_
    rw [nden];omega
  have l4:=S'.en.le
  have xb0:allT (FT h) ρ (xbI (s89i 0)):=by
    have b0:=N.b0;have b1:=N.b1;exact ⟨jaf (show -100000≤(s89i 0).den (FT h) ρ by omega),jaf (show (s89i 0).den (FT h) ρ≤100000 by omega),trivial⟩
  have xb1:allT (FT h) ρ (xbI (lsE true 0)):=by
    have b0:=M.b0;have b1:=M.b1;exact ⟨jaf (show -100000≤(lsE true 0).den (FT h) ρ by omega),jaf (show (lsE true 0).den (FT h) ρ≤100000 by omega),trivial⟩
  refine jaa ⟨jcg (show (Int.sign (-1):Int)<0 by decide),R _ _ ?_,R _ _ ?_,R _ _ ?_,R _ _ ?_,R _ _ ?_,R _ _ ?_,R _ _ ?_,R _ _ ?_,R _ _ ?_,R _ _ ?_,R _ _ one.le,R _ _ PS.le,R _ _ PC.le,R _ _ ?_,trivial⟩ (jaa S.bs (jaa C.bs (jaa S'.bs (jaa C'.bs (jaa xb0 (jaa xb1 hf))))))
  · refine Int.le_trans h1.1 ?_
    rw [←f1];exact Int.le_refl _
  · refine Int.le_trans ?_ h1.2
    rw [←f2];exact Int.le_refl _
  · rw [jd7,jd7,mden];exact a1
  · rw [jd7,jd7,mden];exact a2
  · rw [jd7,jd7];exact a3
  · rw [jd7,jd7];exact a4
  · rw [nden];exact S.up
  · rw [nden2];exact S.dn
  · rw [nden];exact C.up
  · rw [nden2];exact C.dn
  · rw [mden,mden];omega
def circS (f:FuncId) (fs:List T):Spec:=dsp f ciP 3 fs (.one (.sc (.b (.n 1))))
theorem circOK:SpecOK Tryz.prog (FT h) (circS 5 ciI):=by
  intro ρ β w vs ha hb hf;have he:Enters Tryz.prog 5:=jae (f:=5) (by kernel_rfl);have rs:∀ρ,allT (FT h) ρ (circS 5 ciF).fs→eqA (FT h) ρ ciR (circS 5 ciF).res:=fun ρ hf=>jc7 (ja9 hf).2.2.2.2.2.2.2.2.2.2.1
  exact ja0 (tab:=ciT h) (sp:=circS 5 ciF) follows_any he (cix h) rfl rs ha hb (j2k h hf)
end
def ρ7 (a b c:Int):Nat→Int
  | 0=>a
  | 1=>b
  | _=>c
theorem circ_v {w:World} {n:Bool} {A:Option Addr} {l c:Nat} {L:List Nat} {x q:Int} (hN:Nums w 0 (.slice A l c) L)
    (hx : -9223372036854775808≤x∧x≤9223372036854775807) (hq : -9223372036854775808≤q∧q≤9223372036854775807) :
    Calls Tryz.prog 5 #[.agg #[.bool n,.slice A l c,.int .i64 x],.int .i64 q] w fun e w'=>e=.returned (.bool true)∧Below w.heap.size w w':=by
  have ha:hasA (FT zz8) (ρ7 (ival n (val W L)) x q) id w (circS 5 ciI).ps [.agg #[.bool n,.slice A l c,.int .i64 x],.int .i64 q]:=
    ⟨_,_,rfl,jeq 0 hN rfl rfl,_,_,rfl,rfl,rfl⟩
  have hfs:allT (FT zz8) (ρ7 (ival n (val W L)) x q) ciI:=⟨jaf hx.1,jaf hx.2,jaf hq.1,jaf hq.2,trivial⟩;obtain ⟨-,g⟩:=circOK zz8 ha jew hfs;refine g.mono fun e w' ⟨h1,u,h2,h3⟩=>⟨?_,h1⟩
  have h4:[u]=[Value.bool true]:=h3;rw [h2,List.head_eq_of_cons_eq h4]
end V
end Go.Proofs.YtcjklbakhlehhaaGreat
end
section
set_option linter.unusedVariables false
set_option linter.unusedSimpArgs false
namespace Go.Proofs.YtcjklbakhlehhaaGreat
open Go.RowKit Go.Shelf L
namespace An
theorem nrm_int {z q:Int} (q0:0≤q) (q1:q≤140) (hz:Bd (6*DD q) (z:Rat)):Nrm (nM z (0 - q)) (nE z (0 - q)) ((z:Rat)*two (-q))∧Bd 6 ((z:Rat)*two (-q)):=by
  have d:=DD_pos q;have tp:=two_pos (-q);have dt:DD q*two (-q)=1:=by rw [←two_DD q0];exact two_inv' q
  have nb:z.natAbs<2^150:=by
    have h2:((8*2^q.toNat:Int):Rat)=8*DD q:=by rw [Rat.intCast_mul];rfl
    have u1:z≤8*2^q.toNat:=rat_le (by rw [h2];have:=hz.2;grind);have u2 : -z≤8*2^q.toNat:=rat_le (by rw [h2,Rat.intCast_neg];have:=hz.1;grind);have pc:(2:Int)^q.toNat≤2^140:=pow_mono (n:=q.toNat) (m:=140) (by omega);have p4:8*(2:Int)^140<2^150:=by decide +kernel
    have:((z.natAbs:Nat):Int)<((2^150:Nat):Int):=by
      rw [Int.natCast_pow]
      show _<(2:Int)^150
      omega
    exact Int.ofNat_lt.1 this
  have tzb : -150≤nE z (0 - q)∧nE z (0 - q)≤150:=by
    unfold nE pE cM cE
    by_cases c:0 - q < -4000∨4000<0 - q∨z=0
    · rw [if_pos c,if_pos rfl];omega
    · simp only [if_neg c]
      rw [if_neg (by omega)];have t:=jp6 z.natAbs 150 nb
      omega
  have N:=jn9 (z:=z) (x:=0 - q) (by omega) (by omega);rw [je2 (by omega) (by omega),show 0 - q = -q by omega] at N;rw [show 0 - q = -q by omega];refine ⟨N,?_⟩;have m1:=Rat.mul_le_mul_of_nonneg_right hz.1 (Rat.le_of_lt tp);have m2:=Rat.mul_le_mul_of_nonneg_right hz.2 (Rat.le_of_lt tp);unfold Bd
  grind
end An
namespace V
section
variable (h:Nat→List Int→Int)
noncomputable def bkT:List (Ctr Tryz.prog (FT h)):=inl (lgT h) 15 (by kernel_rfl)::lgT h
def bkQ:T:=ap2 2 (.v 2) (.n 128)
def bkL (n:Bool):T:=n90 2 (lsM n 0) (lsE n 0) bkQ
def bkH (n:Bool):T:=n91 2 (lsM n 0) (lsE n 0) bkQ
def bkM (t:T):T:=ap2 56 t (.sub (.n 0) bkQ)
def bkE (t:T):T:=ap2 57 t (.sub (.n 0) bkQ)
def bkX (t:T):T:=n90 0 (bkM t) (bkE t) bkQ
def bkY (t:T):T:=n91 0 (bkM t) (bkE t) bkQ
def bkS (t:T):List T:=rightL (bkX t) (bkY t)::(szF capB t ++ (szF capB (bkX t) ++ (szF capB (bkY t) ++ (xbI (bkE t) ++ bsI 0 (bkM t) (bkE t) bkQ))))
def bkF (n:Bool):List T:=rightL (bkL n) (bkH n)::(lsS n 0 ++ (bkS (bkL n) ++ (bkS (bkH n) ++ (xbI (s89i 0) ++ (xbI (lsE n 0) ++ (bsI 2 (lsM n 0) (lsE n 0) bkQ ++ ciI))))))
def bkR (n:Bool):A:=.one (.sc (.b (.and (rightL (bkX (bkL n)) (bkY (bkH n))) (.and (rightL (bkX (bkL n)) (ap3 60 (lsM n 0) (lsE n 0) bkQ)) (rightL (ap3 59 (lsM n 0) (lsE n 0) bkQ) (bkY (bkH n)))))))
def bkZ:List T:=.eq (ap2 67 (s88i 0) (s89i 0)) (.n 0)::(xbI (s89i 0) ++ ciI)
theorem bx1:∀n:Bool,in12 (inlX (bkT h) 3 (bkF n) [] ciP)=some ([],bkR n)
  | false=>by kernel_rfl
  | true=>by kernel_rfl
theorem bx2:in12 (inlX (bkT h) 3 bkZ [] ciP)=some ([],.one (.sc (.b (.n 1)))):=by kernel_rfl
theorem bk_q {ρ:Nat→Int}:0≤bkQ.den (FT h) ρ∧bkQ.den (FT h) ρ≤140:=by
  show 0≤ρ 2%128∧ρ 2%128≤140
  omega
structure AskB (ρ:Nat→Int) (n:Bool):Prop where
  F:allT (FT h) ρ (bkF n)
  R:(T.and (rightL (bkX (bkL n)) (bkY (bkH n))) (.and (rightL (bkX (bkL n)) (ap3 60 (lsM n 0) (lsE n 0) bkQ)) (rightL (ap3 59 (lsM n 0) (lsE n 0) bkQ) (bkY (bkH n))))).bd (FT h) ρ=true
set_option maxHeartbeats 2000000 in
theorem askB {ρ:Nat→Int} {n:Bool} (hs:allT (FT h) ρ (lsS n 0)) (hf:allT (FT h) ρ ciI):AskB h ρ n:=by
  obtain ⟨r,L⟩:=ls_n h hs;obtain ⟨q0,q1⟩:=bk_q h (ρ:=ρ);have rl:=L.lo;have rh:=L.hi;have A:=askL h (c:=2) (.inl rfl) (q:=bkQ) L.N rl (by grind) q0 (by omega)
  have lp:((2:Int)=2∨(2:Int)=3)→An.two (-1000)≤r∧r<An.two 1000:=fun _=>by
    have a:=An.two_le_two (show (-1000:Int)≤0 by decide);have b:=An.two_le_two (show (6:Int)≤1000 by decide);have t6:An.two 6=64:=by show (2:Rat)^6=64;decide +kernel
    rw [An.two_zero] at a;rw [t6] at b
    grind
  have B:=jcy (c:=2) (q:=bkQ.den (FT h) ρ) (by omega) L.N q0 (by omega) (fun k=>absurd (.inl rfl) k) lp;have t4:An.two 2=4:=by show (2:Rat)^2=4;decide +kernel
  have t8:An.two 3=8:=by show (2:Rat)^3=8;decide +kernel
  obtain ⟨g0,g1⟩:=L.N.gE (m:=2) (n:=3) (by grind) (by rw [t4];exact rl) (by rw [t8];exact rh);have ge:An.gE ((lsM n 0).den (FT h) ρ) ((lsE n 0).den (FT h) ρ)=2:=by omega
  have hK2:An.Bd 2 ((An.gE ((lsM n 0).den (FT h) ρ) ((lsE n 0).den (FT h) ρ):Int):Rat):=by
    rw [ge];show An.Bd 2 (2:Rat);unfold An.Bd;grind
  have hK:=hK2.mono (show (2:Rat)≤6 by grind);have NR:=An.near_fat B (Int.le_refl 2);have fb:=An.logF_B A.lg (K:=2) (by grind) hK2;have d:=An.DD_pos (bkQ.den (FT h) ρ)
  have d1:1≤An.DD (bkQ.den (FT h) ρ):=by
    have:=An.two_le_two q0;rw [An.two_zero,An.two_DD q0] at this;exact this
  have eL:An.shLo 2 ((lsM n 0).den (FT h) ρ) ((lsE n 0).den (FT h) ρ) (bkQ.den (FT h) ρ)=(bkL n).den (FT h) ρ:=rfl;have eH:An.shHi 2 ((lsM n 0).den (FT h) ρ) ((lsE n 0).den (FT h) ρ) (bkQ.den (FT h) ρ)=(bkH n).den (FT h) ρ:=rfl;rw [eL,eH] at NR
  have zb:An.Bd (6*An.DD (bkQ.den (FT h) ρ)) (((bkL n).den (FT h) ρ:Int):Rat)∧An.Bd (6*An.DD (bkQ.den (FT h) ρ)) (((bkH n).den (FT h) ρ:Int):Rat):=by
    obtain ⟨M,hM⟩:=NR 1 (by grind);obtain ⟨u,u1,u2,u3,u4,u5⟩:=hM M (Nat.le_refl _);have f:=fb M;have m1:=Rat.mul_le_mul_of_nonneg_right (show u≤4 by unfold An.Bd at *;grind) (Rat.le_of_lt d);have m2:=Rat.mul_le_mul_of_nonneg_right (show -4≤u by unfold An.Bd at *;grind) (Rat.le_of_lt d);unfold An.Bd;refine ⟨⟨?_,?_⟩,⟨?_,?_⟩⟩ <;> grind
  obtain ⟨NL,bL⟩:=An.nrm_int q0 q1 zb.1;obtain ⟨NH,bH⟩:=An.nrm_int q0 q1 zb.2;have tp:=An.two_pos (-(bkQ.den (FT h) ρ));have dt:An.DD (bkQ.den (FT h) ρ)*An.two (-(bkQ.den (FT h) ρ))=1:=by rw [←An.two_DD q0];exact An.two_inv' _
  have hl:=NR.mono (Q:=fun m ε=>(((bkL n).den (FT h) ρ:Int):Rat)*An.two (-(bkQ.den (FT h) ρ))≤An.valF 2 ((lsM n 0).den (FT h) ρ) ((lsE n 0).den (FT h) ρ) m+ε) fun m ε he ⟨u,u1,u2,u3,u4,u5⟩=>by
    have m1:=Rat.mul_le_mul_of_nonneg_right u1 (Rat.le_of_lt tp);have e:u*An.DD (bkQ.den (FT h) ρ)*An.two (-(bkQ.den (FT h) ρ))=u:=by grind
    rw [e] at m1;unfold An.Bd at u5
    grind
  have hh:=NR.mono (Q:=fun m ε=>An.valF 2 ((lsM n 0).den (FT h) ρ) ((lsE n 0).den (FT h) ρ) m≤(((bkH n).den (FT h) ρ:Int):Rat)*An.two (-(bkQ.den (FT h) ρ))+ε) fun m ε he ⟨u,u1,u2,u3,u4,u5⟩=>by
    have m1:=Rat.mul_le_mul_of_nonneg_right u2 (Rat.le_of_lt tp);have e:u*An.DD (bkQ.den (FT h) ρ)*An.two (-(bkQ.den (FT h) ρ))=u:=by grind
    rw [e] at m1;unfold An.Bd at u5
    grind
  have BL:=jcy (c:=0) (q:=bkQ.den (FT h) ρ) (by omega) NL q0 (by omega) (fun _=>bL.mono (by grind)) (fun k=>by omega);have BH:=jcy (c:=0) (q:=bkQ.den (FT h) ρ) (by omega) NH q0 (by omega) (fun _=>bH.mono (by grind)) (fun k=>by omega);have vL:=jsl (c:=0) (.inl rfl) NL;have vH:=jsl (c:=0) (.inl rfl) NH;have EL:=An.encl_at BL;have EH:=An.encl_at BH;have lo:=An.pow_low (l:=0) A.lg (K:=6) (by grind) hK bL hl (fun m=>by rw [vL];rfl) EL;have hi:=An.pow_high (l:=0) A.lg (K:=6) (by grind) hK bH hh (fun m=>by rw [vH];rfl) EH;have eX:∀t:T,An.shLo 0 (nM (t.den (FT h) ρ) (0 - bkQ.den (FT h) ρ)) (nE (t.den (FT h) ρ) (0 - bkQ.den (FT h) ρ)) (bkQ.den (FT h) ρ)=(bkX t).den (FT h) ρ:=fun t=>rfl
  have eY:∀t:T,An.shHi 0 (nM (t.den (FT h) ρ) (0 - bkQ.den (FT h) ρ)) (nE (t.den (FT h) ρ) (0 - bkQ.den (FT h) ρ)) (bkQ.den (FT h) ρ)=(bkY t).den (FT h) ρ:=fun t=>rfl
  rw [eX] at lo;rw [eY] at hi;have hc:=An.ceil_rv (V:=av 4000 ((lsM n 0).den (FT h) ρ) ((lsE n 0).den (FT h) ρ)) (w:=bkQ.den (FT h) ρ) q0 (by omega);have hfl:=An.floor_rv (V:=av 4000 ((lsM n 0).den (FT h) ρ) ((lsE n 0).den (FT h) ρ)) (w:=bkQ.den (FT h) ρ) q0 (by omega);rw [L.N.rr] at hc hfl;have RR:∀a b:T,a.den (FT h) ρ≤b.den (FT h) ρ→(rightL a b).bd (FT h) ρ=true:=fun a b k=>jad (g:=gR (hC (hD (hB (An.hT h))))) k
  have cb:((capB:Int):Rat)=An.two 3000:=jsm 3000
  have sz:∀t:T,An.Bd (An.two 3000) ((t.den (FT h) ρ:Int):Rat)→allT (FT h) ρ (szF capB t):=fun t k=>by
    refine ⟨jaf (show -capB≤t.den (FT h) ρ from An.rat_le ?_),jaf (show t.den (FT h) ρ≤capB from An.rat_le ?_),trivial⟩
    · rw [Rat.intCast_neg,cb];exact k.1
    · rw [cb];exact k.2
  have big:6*An.DD (bkQ.den (FT h) ρ)≤An.two 3000:=by
    have a1:=An.two_le_two (show bkQ.den (FT h) ρ≤140 by omega);rw [An.two_DD q0] at a1;have a2:An.two 143=8*An.two 140:=by rw [show (143:Int)=3+140 from rfl,An.two_add,t8]
    have a3:=An.two_le_two (show (143:Int)≤3000 by decide);have a4:=An.two_pos 140
    grind
  have half:∀t:T,An.Bd (6*An.DD (bkQ.den (FT h) ρ)) ((t.den (FT h) ρ:Int):Rat)→An.Nrm (nM (t.den (FT h) ρ) (0 - bkQ.den (FT h) ρ)) (nE (t.den (FT h) ρ) (0 - bkQ.den (FT h) ρ)) (((t.den (FT h) ρ:Int):Rat)*An.two (-(bkQ.den (FT h) ρ)))→An.Bd 6 (((t.den (FT h) ρ:Int):Rat)*An.two (-(bkQ.den (FT h) ρ)))→allT (FT h) ρ (bkS t):=fun t zb N b=>by
    have S:=asked h (c:=0) (.inl rfl) (a:=bkM t) (b:=bkE t) (q:=bkQ) N (b.mono (by grind)) q0 (by omega);have b0:=N.b0;have b1:=N.b1;exact ⟨RR _ _ S.en.le,jaa (sz t (zb.mono big)) (jaa S.s1 (jaa S.s2 (jaa ⟨jaf (show -100000≤(bkE t).den (FT h) ρ from Int.le_trans (by omega) b0),jaf (show (bkE t).den (FT h) ρ≤100000 from Int.le_trans b1 (by omega)),trivial⟩ S.bs)))⟩
  have xs:allT (FT h) ρ (xbI (s89i 0)):=by
    obtain ⟨u,N,-⟩:=sm_t h (ρ:=ρ) 0;have b0:=N.b0;have b1:=N.b1;exact ⟨jaf (show -100000≤(s89i 0).den (FT h) ρ by omega),jaf (show (s89i 0).den (FT h) ρ≤100000 by omega),trivial⟩
  refine ⟨⟨RR _ _ A.en.le,jaa hs (jaa (half _ zb.1 NL bL) (jaa (half _ zb.2 NH bH) (jaa xs (jaa A.xb (jaa A.bs hf)))))⟩,?_⟩;rw [jbp,jbp,RR (bkX (bkL n)) (bkY (bkH n)) (An.rat_le (Rat.le_trans lo hi)),RR (bkX (bkL n)) (ap3 60 (lsM n 0) (lsE n 0) bkQ) (An.rat_le (Rat.le_trans lo hc.1)),RR (ap3 59 (lsM n 0) (lsE n 0) bkQ) (bkY (bkH n)) (An.rat_le (Rat.le_trans hfl.1 hi))]
  rfl
theorem backOK:SpecOK Tryz.prog (FT h) (circS 3 ciI):=by
  intro ρ β w vs ha hb hf;have he:Enters Tryz.prog 3:=jae (f:=3) (by kernel_rfl);obtain ⟨r,N,k⟩:=sm_t h (ρ:=ρ) 0
  have rs:∀n,∀ρ,allT (FT h) ρ (circS 3 (bkF n)).fs→eqA (FT h) ρ (bkR n) (circS 3 (bkF n)).res:=fun n ρ hf=>by
    have h1:=ja9 hf.2;have h2:=jab (jab (jab (jab (jab (jab hf.2)))));exact jc7 (askB h h1 h2).R
  rcases k with k | k | k
  · subst k
    have g:=jfh (An.hT h) N;have a1:¬ 0<(ap2 67 (s88i 0) (s89i 0)).den (FT h) ρ:=fun k=>by have:=g.1.1 k;grind
    have a2:¬ (ap2 67 (s88i 0) (s89i 0)).den (FT h) ρ<0:=fun k=>by have:=g.2.1 k;grind
    have b0:=N.b0;have b1:=N.b1;exact ja0 (tab:=bkT h) (sp:=circS 3 bkZ) follows_any he (bx2 h) rfl (fun ρ _=>jc7 rfl) ha hb ⟨bd_eq' (show (ap2 67 (s88i 0) (s89i 0)).den (FT h) ρ=0 by omega),jaa ⟨jaf (show -100000≤(s89i 0).den (FT h) ρ by omega),jaf (show (s89i 0).den (FT h) ρ≤100000 by omega),trivial⟩ hf⟩
  · exact ja0 (tab:=bkT h) (sp:=circS 3 (bkF false)) follows_any he (bx1 h false) rfl (rs false) ha hb (askB h (ls_s h (jr9 h N k.1 k.2) (fun c=>by cases c)) hf).F
  · exact ja0 (tab:=bkT h) (sp:=circS 3 (bkF true)) follows_any he (bx1 h true) rfl (rs true) ha hb (askB h (ls_s h (jsa h N k.1 k.2) (fun _=>⟨r,N,by grind⟩)) hf).F
end
theorem back_v {w:World} {n:Bool} {A:Option Addr} {l c:Nat} {L:List Nat} {x q:Int} (hN:Nums w 0 (.slice A l c) L)
    (hx : -9223372036854775808≤x∧x≤9223372036854775807) (hq : -9223372036854775808≤q∧q≤9223372036854775807) :
    Calls Tryz.prog 3 #[.agg #[.bool n,.slice A l c,.int .i64 x],.int .i64 q] w fun e w'=>e=.returned (.bool true)∧Below w.heap.size w w':=by
  have ha:hasA (FT zz8) (ρ7 (ival n (val W L)) x q) id w (circS 3 ciI).ps [.agg #[.bool n,.slice A l c,.int .i64 x],.int .i64 q]:=
    ⟨_,_,rfl,jeq 0 hN rfl rfl,_,_,rfl,rfl,rfl⟩
  have hfs:allT (FT zz8) (ρ7 (ival n (val W L)) x q) ciI:=⟨jaf hx.1,jaf hx.2,jaf hq.1,jaf hq.2,trivial⟩;obtain ⟨-,g⟩:=backOK zz8 ha jew hfs;refine g.mono fun e w' ⟨h1,u,h2,h3⟩=>⟨?_,h1⟩
  have h4:[u]=[Value.bool true]:=h3;rw [h2,List.head_eq_of_cons_eq h4]
end V
end Go.Proofs.YtcjklbakhlehhaaGreat
end
