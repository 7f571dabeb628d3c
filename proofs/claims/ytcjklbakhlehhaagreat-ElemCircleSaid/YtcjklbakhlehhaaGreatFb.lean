/- V: hairlinelaw08.ElemCircle answers true. -/
import Derived.Test.YtcjklbakhlehhaaGreatFa
set_option linter.unusedVariables false
set_option linter.unusedSimpArgs false
namespace Go.Proofs.YtcjklbakhlehhaaGreat
open Go.RowKit Go.Shelf L
namespace V
section
variable (h:Nat→List Int→Int)
noncomputable def ciT:List (Ctr Tryz.prog (FT h)):=Ctr.fold (joc (hB (An.hT h))) (inl (lgT h) 26 (by kernel_rfl))::inl (lgT h) 25 (by kernel_rfl)::lgT h
def ciQ:T:=.add (.n 8) (ap2 2 (.v 2) (.n 128))
def ciL (c:Int) (n:Bool):T:=n90 c (lsM n 0) (lsE n 0) ciQ
def ciH (c:Int) (n:Bool):T:=n91 c (lsM n 0) (lsE n 0) ciQ
def ciA (c:Int):T:=ap5 74 (ciL c false) (ciH c false) (ciL c false) (ciH c false) ciQ
def ciB (c:Int):T:=ap5 75 (ciL c false) (ciH c false) (ciL c false) (ciH c false) ciQ
def ciS (c:Int) (n:Bool):List T:=rightL (ciL c n) (ciH c n)::(szF capB (ciL c n) ++ (szF capB (ciH c n) ++ bsI c (lsM n 0) (lsE n 0) ciQ))
def ciZ (t:T):T:=.mul t (p2 (.sub ciQ ciQ))
def ciN:T:=.add (.mul (.n 1) (p2 ciQ)) (.n 2)
def ciM (t:T):T:=.mul t (.n (-1))
def ciG:List T:=.lt (ap1 4 (.n (-1))) (.n 0)::rightL (.add (ciA 4) (ciA 5)) (ap3 59 (.n 1) (.n 0) ciQ)::rightL (ap3 60 (.n 1) (.n 0) ciQ) (.add (ciB 4) (ciB 5))::rightL (ciZ (ciL 4 false)) (ciZ (ciM (ciL 4 true)))::rightL (ciZ (ciM (ciH 4 true))) (ciZ (ciH 4 false))::rightL (ciZ (ciL 5 false)) (ciZ (ciH 5 true))::rightL (ciZ (ciL 5 true)) (ciZ (ciH 5 false))::rightL (ciH 4 false) ciN::rightL (.sub (.n 0) ciN) (ciL 4 false)::rightL (ciH 5 false) ciN::rightL (.sub (.n 0) ciN) (ciL 5 false)::rightL (.add (ciA 4) (ciA 5)) (.add (ciB 4) (ciB 5))::rightL (ciA 4) (ciB 4)::rightL (ciA 5) (ciB 5)::rightL (ciM (ciH 4 true)) (ciM (ciL 4 true))::[]
def ciI:List T:=i64F 1 ++ i64F 2
def ciF:List T:=ciG ++ (ciS 4 false ++ (ciS 5 false ++ (ciS 4 true ++ (ciS 5 true ++ (xbI (s89i 0) ++ (xbI (lsE true 0) ++ ciI))))))
def ciP:List A:=[rawI 0,i64 (.v 2)]
def ciR:A:=.one (.sc (.b (rightL (.sub (.n 0) ciN) (ciL 5 false))))
theorem cix:in12 (inlX (ciT h) 5 ciF [] ciP)=some ([],ciR):=by kernel_rfl
theorem ci_q {ρ:Nat→Int}:0≤ciQ.den (FT h) ρ∧ciQ.den (FT h) ρ≤140:=by
  show 0≤8+ρ 2%128∧8+ρ 2%128≤140
  omega
def wv (c:Int) (r:Rat) (m:Nat):Rat:=if c=4 then An.Sn m r else An.Cn m r
theorem j2j {c a b:Int} {r:Rat} (hc:c=4∨c=5) (N:An.Nrm a b r):An.valF c a b=wv c r:=funext fun m=>by
  unfold An.valF wv;rw [N.xQ,if_neg (by omega),if_neg (by omega),if_neg (by omega),if_neg (by omega)]
structure AskW (ρ:Nat→Int) (c:Int) (n:Bool) (r:Rat):Prop where
  bs:allT (FT h) ρ (ciS c n)
  en:An.Encl (wv c r) ((ciL c n).den (FT h) ρ) ((ciH c n).den (FT h) ρ) (ciQ.den (FT h) ρ)
  up:(ciH c n).den (FT h) ρ≤2^(ciQ.den (FT h) ρ).toNat+2
  dn : -(2^(ciQ.den (FT h) ρ).toNat+2)≤(ciL c n).den (FT h) ρ
theorem askW {ρ:Nat→Int} {c:Int} (hc:c=4∨c=5) {n:Bool} {r:Rat} (N:An.Nrm ((lsM n 0).den (FT h) ρ) ((lsE n 0).den (FT h) ρ) r) (hr:An.Bd 8 r):AskW h ρ c n r:=by
  obtain ⟨q0,q1⟩:=ci_q h (ρ:=ρ);have B:=jcy (c:=c) (q:=ciQ.den (FT h) ρ) (by omega) N q0 (by omega) (fun _=>hr.mono (by grind)) (fun k=>by omega);have E:=An.encl_at B;have L:=An.le_one B (by omega);have le:=E.le;rw [j2j hc N] at E;have pc:(2:Int)^(ciQ.den (FT h) ρ).toNat≤2^140:=An.pow_mono (n:=(ciQ.den (FT h) ρ).toNat) (m:=140) (by omega);have pb:(2:Int)^140+2≤capB:=by unfold capB;decide +kernel
  have l1:An.shLo c ((lsM n 0).den (FT h) ρ) ((lsE n 0).den (FT h) ρ) (ciQ.den (FT h) ρ)=(ciL c n).den (FT h) ρ:=rfl;have l2:An.shHi c ((lsM n 0).den (FT h) ρ) ((lsE n 0).den (FT h) ρ) (ciQ.den (FT h) ρ)=(ciH c n).den (FT h) ρ:=rfl;rw [l1,l2] at L le;obtain ⟨u1,u2⟩:=L;refine ⟨⟨jad (g:=gR (hC (hD (hB (An.hT h))))) le,jaa ⟨jaf ?_,jaf ?_,trivial⟩ (jaa ⟨jaf ?_,jaf ?_,trivial⟩ (jfg (An.hT h) N q0 (show ciQ.den (FT h) ρ≤800 by omega) (fun _=>hr.mono (by grind)) (fun k=>by omega)))⟩,E,u1,u2⟩
  · show -capB≤(ciL c n).den (FT h) ρ
    omega
  · show (ciL c n).den (FT h) ρ≤capB
    omega
  · show -capB≤(ciH c n).den (FT h) ρ
    omega
  · show (ciH c n).den (FT h) ρ≤capB
    omega
theorem jd7 {ρ:Nat→Int} (t:T):(ciZ t).den (FT h) ρ=t.den (FT h) ρ:=by
  show t.den (FT h) ρ*2^(ciQ.den (FT h) ρ - ciQ.den (FT h) ρ).toNat=_
  rw [Int.sub_self];exact Int.mul_one _
theorem j2k {ρ:Nat→Int} (hf:allT (FT h) ρ ciI):allT (FT h) ρ ciF:=by
  obtain ⟨r,N,hr⟩:=sm_i h (ρ:=ρ) 0;have M:An.Nrm ((lsM true 0).den (FT h) ρ) ((lsE true 0).den (FT h) ρ) (-r):=N.neg;obtain ⟨q0,q1⟩:=ci_q h (ρ:=ρ);have S:=askW h (c:=4) (n:=false) (.inl rfl) N hr;have C:=askW h (c:=5) (n:=false) (.inr rfl) N hr;have S':=askW h (c:=4) (n:=true) (.inl rfl) M hr.neg;have C':=askW h (c:=5) (n:=true) (.inr rfl) M hr.neg;have dp:∀n:Nat,(0:Int)<2^n:=fun n=>Int.pow_pos (by omega)
  have R:∀a b:T,a.den (FT h) ρ≤b.den (FT h) ρ→(rightL a b).bd (FT h) ρ=true:=fun a b k=>jad (g:=gR (hC (hD (hB (An.hT h))))) k
  obtain ⟨K,K0,hK⟩:=An.bounds 8;have bs:∀m,An.Bd K (wv 4 r m):=fun m=>(hK m r hr).2.1
  have bc:∀m,An.Bd K (wv 5 r m):=fun m=>(hK m r hr).2.2
  have PS:=An.Encl.mul q0 S.en S.en bs bs;have PC:=An.Encl.mul q0 C.en C.en bc bc;have one:=An.Encl.add PS PC
  have h1:=one.has (a:=2^(ciQ.den (FT h) ρ).toNat) (r:=1) ((An.circle 8).mono fun m ε he k=>by
    have k:=k r hr;have e4:wv 4 r m=An.Sn m r:=rfl;have e5:wv 5 r m=An.Cn m r:=rfl;rw [e4,e5];unfold An.Bd at *;grind) (by show An.DD _=1*An.DD _;grind)
  obtain ⟨f1,f2⟩:=Px.point_one (w:=ciQ.den (FT h) ρ) q0 (by omega);have n4:=S'.en.neg
  have neg4:An.Lim fun m ε=>An.Bd ε (wv 4 r m - -(wv 4 (-r) m)):=An.Lim.all fun m ε he=>by
    have e:wv 4 (-r) m = -(wv 4 r m):=An.S_neg r m;rw [e];unfold An.Bd;grind
  have neg5:An.Lim fun m ε=>An.Bd ε (wv 5 r m - wv 5 (-r) m):=An.Lim.all fun m ε he=>by
    have e:wv 5 (-r) m=wv 5 r m:=An.C_neg r m;rw [e];unfold An.Bd;grind
  have back:∀{F G:Nat→Rat},An.Lim (fun m ε=>An.Bd ε (F m - G m))→An.Lim fun m ε=>An.Bd ε (G m - F m):=fun k=>k.mono fun m ε he k=>by unfold An.Bd at *;grind
  have a1:=jbm (dp _) (S.en.meet n4 neg4 q0 q0);have a2:=jbm (dp _) (n4.meet S.en (back neg4) q0 q0);have a3:=jbm (dp _) (C.en.meet C'.en neg5 q0 q0);have a4:=jbm (dp _) (C'.en.meet C.en (back neg5) q0 q0)
  have mden:∀t:T,(ciM t).den (FT h) ρ = -(t.den (FT h) ρ):=fun t=>by
    show t.den (FT h) ρ * -1=_
    omega
  have nden:ciN.den (FT h) ρ=2^(ciQ.den (FT h) ρ).toNat+2:=by
    show 1*2^(ciQ.den (FT h) ρ).toNat+2=_
    rw [Int.one_mul]
  have nden2:(T.sub (.n 0) ciN).den (FT h) ρ = -(2^(ciQ.den (FT h) ρ).toNat+2):=by
    show 0 - ciN.den (FT h) ρ=_
    rw [nden];omega
  have l4:=S'.en.le
  have xb0:allT (FT h) ρ (xbI (s89i 0)):=by
    have b0:=N.b0;have b1:=N.b1;exact ⟨jaf (show -100000≤(s89i 0).den (FT h) ρ by omega),jaf (show (s89i 0).den (FT h) ρ≤100000 by omega),trivial⟩
  have xb1:allT (FT h) ρ (xbI (lsE true 0)):=by
    have b0:=M.b0;have b1:=M.b1;exact ⟨jaf (show -100000≤(lsE true 0).den (FT h) ρ by omega),jaf (show (lsE true 0).den (FT h) ρ≤100000 by omega),trivial⟩
  refine jaa ⟨jcg (show (Int.sign (-1):Int)<0 by decide),R _ _ ?_,R _ _ ?_,R _ _ ?_,R _ _ ?_,R _ _ ?_,R _ _ ?_,R _ _ ?_,R _ _ ?_,R _ _ ?_,R _ _ ?_,R _ _ one.le,R _ _ PS.le,R _ _ PC.le,R _ _ ?_,trivial⟩ (jaa S.bs (jaa C.bs (jaa S'.bs (jaa C'.bs (jaa xb0 (jaa xb1 hf))))))
  · refine Int.le_trans h1.1 ?_
    rw [←f1];exact Int.le_refl _
  · refine Int.le_trans ?_ h1.2
    rw [←f2];exact Int.le_refl _
  · rw [jd7,jd7,mden];exact a1
  · rw [jd7,jd7,mden];exact a2
  · rw [jd7,jd7];exact a3
  · rw [jd7,jd7];exact a4
  · rw [nden];exact S.up
  · rw [nden2];exact S.dn
  · rw [nden];exact C.up
  · rw [nden2];exact C.dn
  · rw [mden,mden];omega
def circS (f:FuncId) (fs:List T):Spec:=dsp f ciP 3 fs (.one (.sc (.b (.n 1))))
theorem circOK:SpecOK Tryz.prog (FT h) (circS 5 ciI):=by
  intro ρ β w vs ha hb hf;have he:Enters Tryz.prog 5:=jae (f:=5) (by kernel_rfl);have rs:∀ρ,allT (FT h) ρ (circS 5 ciF).fs→eqA (FT h) ρ ciR (circS 5 ciF).res:=fun ρ hf=>jc7 (ja9 hf).2.2.2.2.2.2.2.2.2.2.1
  exact ja0 (tab:=ciT h) (sp:=circS 5 ciF) follows_any he (cix h) rfl rs ha hb (j2k h hf)
end
def ρ7 (a b c:Int):Nat→Int
  | 0=>a
  | 1=>b
  | _=>c
theorem circ_v {w:World} {n:Bool} {A:Option Addr} {l c:Nat} {L:List Nat} {x q:Int} (hN:Nums w 0 (.slice A l c) L)
    (hx : -9223372036854775808≤x∧x≤9223372036854775807) (hq : -9223372036854775808≤q∧q≤9223372036854775807) :
    Calls Tryz.prog 5 #[.agg #[.bool n,.slice A l c,.int .i64 x],.int .i64 q] w fun e w'=>e=.returned (.bool true)∧Below w.heap.size w w':=by
  have ha:hasA (FT zz8) (ρ7 (ival n (val W L)) x q) id w (circS 5 ciI).ps [.agg #[.bool n,.slice A l c,.int .i64 x],.int .i64 q]:=
    ⟨_,_,rfl,jeq 0 hN rfl rfl,_,_,rfl,rfl,rfl⟩
  have hfs:allT (FT zz8) (ρ7 (ival n (val W L)) x q) ciI:=⟨jaf hx.1,jaf hx.2,jaf hq.1,jaf hq.2,trivial⟩;obtain ⟨-,g⟩:=circOK zz8 ha jew hfs;refine g.mono fun e w' ⟨h1,u,h2,h3⟩=>⟨?_,h1⟩
  have h4:[u]=[Value.bool true]:=h3;rw [h2,List.head_eq_of_cons_eq h4]
end V
end Go.Proofs.YtcjklbakhlehhaaGreat
