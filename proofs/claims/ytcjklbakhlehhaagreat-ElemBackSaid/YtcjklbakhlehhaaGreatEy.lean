/- V: hairlinelaw08.ElemAdds answers true. V: hairlinelaw08.ElemAdds answers true: the facts, and the answer. V: hairlinelaw08.ElemAdds answers true. -/
import Derived.Test.YtcjklbakhlehhaaGreatAn3
import Derived.Test.YtcjklbakhlehhaaGreatEr
set_option linter.unusedVariables false
set_option linter.unusedSimpArgs false
namespace Go.Proofs.YtcjklbakhlehhaaGreat
section
section
open Go.RowKit Go.Shelf
namespace V
section
variable (h:Nat→List Int→Int)
noncomputable def laB:List (Ctr Tryz.prog (FT h)):=Ctr.shr (Ctr.lem (jae (by kernel_rfl)) (addOK h))::(lwB (An.hT h)).map Ctr.shr
def laQ:T:=.add (.n 64) (ap2 2 (.v 4) (.n 64))
def s88i (i:Nat):T:=ap1 88 (.v i)
def s89i (i:Nat):T:=ap1 89 (.v i)
def suM:T:=ap4' 96 (s88i 0) (s89i 0) (s88i 2) (s89i 2)
def suE:T:=ap4' 97 (s88i 0) (s89i 0) (s88i 2) (s89i 2)
def rawI (i:Nat):A:=.one (.ag [.z hugeK false (.v i),.i .i64 (.v (i+1))])
def n90 (c:Int) (a b q:T):T:=ap4' 90 (.n c) a b q
def n91 (c:Int) (a b q:T):T:=ap4' 91 (.n c) a b q
def capB:Int:=2^3000
def capS:Int:=2^5000
def szF (m:Int) (t:T):List T:=[.le (.n (-m)) t,.le t (.n m)]
def laA (c:Int):T:=n90 c (s88i 0) (s89i 0) laQ
def laA' (c:Int):T:=n91 c (s88i 0) (s89i 0) laQ
def laC (c:Int):T:=n90 c (s88i 2) (s89i 2) laQ
def laC' (c:Int):T:=n91 c (s88i 2) (s89i 2) laQ
def laS (c:Int):T:=n90 c suM suE laQ
def laS' (c:Int):T:=n91 c suM suE laQ
def laM (c:Int):T:=ap5 74 (laA c) (laA' c) (laC c) (laC' c) laQ
def laM' (c:Int):T:=ap5 75 (laA c) (laA' c) (laC c) (laC' c) laQ
def xbI (a:T):List T:=[.le (.n (-100000)) a,.le a (.n 100000)]
def laI:List T:=i64F 1 ++ (i64F 3 ++ i64F 4)
def laF (c:Int) (b:T):List T:=b::rightL (laA c) (laA' c)::rightL (laC c) (laC' c)::(szF capB (laA c) ++ (szF capB (laA' c) ++ (szF capB (laC c) ++ (szF capB (laC' c) ++ (szF capS suM ++ (xbI (s89i 0) ++ (xbI (s89i 2) ++ (xbI suE ++ (bsI c (s88i 0) (s89i 0) laQ ++ (bsI c (s88i 2) (s89i 2) laQ ++ (bsI c suM suE laQ ++ laI)))))))))))
def meet1T (Q aL aH bL bH:T):T:=.and (rightL aL aH) (.and (rightL bL bH) (.and (le5 (.mul bL (p2 (.sub Q Q))) (.mul aH (p2 (.sub Q Q)))) (le5 (.mul aL (p2 (.sub Q Q))) (.mul bH (p2 (.sub Q Q))))))
def laP:List A:=[rawI 0,rawI 2,i64 (.v 4),.one (.sc (.b (.v 5)))]
def laR (c:Int):A:=.one (.sc (.b (meet1T laQ (laM c) (laM' c) (laS c) (laS' c))))
theorem ax0:in12 (inlX (laB h) 6 (laF 0 (.not (.v 5))) [] laP)=some ([],laR 0):=by kernel_rfl
theorem ax1:in12 (inlX (laB h) 6 (laF 1 (.v 5)) [] laP)=some ([],laR 1):=by kernel_rfl
end
end V
end
end
section
section
open Go.RowKit Go.Shelf L
namespace V
section
variable (h:Nat→List Int→Int)
theorem joh {g:Nat→List Int→Int} {ρ:Nat→Int} {Q aL aH bL bH:T} (h1:aL.den (stdF g) ρ≤aH.den (stdF g) ρ) (h2:bL.den (stdF g) ρ≤bH.den (stdF g) ρ)
    (m1:aL.den (stdF g) ρ≤bH.den (stdF g) ρ) (m2:bL.den (stdF g) ρ≤aH.den (stdF g) ρ):(meet1T Q aL aH bL bH).bd (stdF g) ρ=true:=by
  have le5_bd:∀a b:T,a.den (stdF g) ρ≤b.den (stdF g) ρ→(le5 a b).bd (stdF g) ρ=true:=fun a b k=>jad (a:=a) (b:=b) k
  have d:∀(a x:T),(T.mul a (p2 (.sub x x))).den (stdF g) ρ=a.den (stdF g) ρ:=fun a x=>by
    show a.den (stdF g) ρ*2^(x.den (stdF g) ρ - x.den (stdF g) ρ).toNat=_
    rw [Int.sub_self];exact Int.mul_one _
  unfold meet1T;rw [jbp,jbp,jbp,jad h1,jad h2,le5_bd _ _ (by rw [d,d];exact m2),le5_bd _ _ (by rw [d,d];exact m1)]
  rfl
theorem sm_i {ρ:Nat→Int} (i:Nat):∃r,An.Nrm ((s88i i).den (FT h) ρ) ((s89i i).den (FT h) ρ) r∧An.Bd 8 r:=by
  obtain ⟨r,N,k⟩:=An.sm_ok (ρ i);refine ⟨r,N,?_⟩;unfold An.Bd
  rcases k with k | k | k
  · have:=k.2;grind
  · grind
  · grind
theorem su_n {ρ:Nat→Int} {r s:Rat} (N:An.Nrm ((s88i 0).den (FT h) ρ) ((s89i 0).den (FT h) ρ) r) (M:An.Nrm ((s88i 2).den (FT h) ρ) ((s89i 2).den (FT h) ρ) s) (hr:An.Bd 8 r) (hs:An.Bd 8 s):An.Nrm (suM.den (FT h) ρ) (suE.den (FT h) ρ) (r+s)∧suM.den (FT h) ρ≤capS∧-capS≤suM.den (FT h) ρ:=by
  obtain ⟨K,b⟩:=An.sm_sum (z:=ρ 0) (y:=ρ 2) N M hr hs;have u:=An.abs_two (by omega) b;have pl:=An.pM_le (av 4000 (An.smM (ρ 0)) (An.smE (ρ 0))+av 4000 (An.smM (ρ 2)) (An.smE (ρ 2)));have pc:(2:Int)^(4+4000:Int).toNat≤capS:=An.pow_mono (n:=(4+4000:Int).toNat) (m:=5000) (by omega);have e:suM.den (FT h) ρ=pM (av 4000 (An.smM (ρ 0)) (An.smE (ρ 0))+av 4000 (An.smM (ρ 2)) (An.smE (ρ 2))):=rfl;refine ⟨K,?_,?_⟩
  all_goals
    rw [e]
    generalize (2:Int)^(4+4000:Int).toNat=d at *
    generalize av 4000 (An.smM (ρ 0)) (An.smE (ρ 0))+av 4000 (An.smM (ρ 2)) (An.smE (ρ 2))=v at *
    omega
theorem la_q {ρ:Nat→Int}:0≤laQ.den (FT h) ρ∧laQ.den (FT h) ρ≤800:=by
  show 0≤64+ρ 4%64∧64+ρ 4%64≤800
  omega
def eF (c:Int) (r:Rat) (m:Nat):Rat:=if c=0 then An.En m r else An.En m (r*An.lnn m)
theorem jzn {c:Int} {r:Rat} (hr:An.Bd 16 r) (m:Nat):An.Bd (An.two 50) (eF c r m):=by
  unfold eF;have l:=An.ln_bd m
  split
  · exact An.E16 m hr
  · exact An.E16 m ((hr.mul (show An.Bd 1 (An.lnn m) by unfold An.Bd;grind)).mono (by grind))
theorem jsl {c a b:Int} {r:Rat} (hc:c=0∨c=1) (N:An.Nrm a b r):An.valF c a b=eF c r:=funext fun m=>by
  unfold An.valF eF;rw [N.xQ]
  rcases hc with rfl | rfl
  · rw [if_pos rfl,if_pos rfl]
  · rw [if_neg (by omega),if_pos rfl,if_neg (by omega)]
theorem j2h {c:Int} (hc:c=0∨c=1) {r s:Rat} (hr:An.Bd 16 r) (hs:An.Bd 16 s):An.Lim fun m ε=>An.Bd ε (eF c (r+s) m - eF c r m*eF c s m):=by
  rcases hc with rfl | rfl
  · exact (An.exp_add 16).mono fun m ε he k=>k r s hr hs
  · exact An.exp2_add hr hs
theorem jsm (K:Nat):(((2:Int)^K:Int):Rat)=An.two (K:Int):=by rw [An.two_DD (by omega),An.DD_nat]
structure Asked (ρ:Nat→Int) (c:Int) (a b q:T) (r:Rat):Prop where
  bs:allT (FT h) ρ (bsI c a b q)
  en:An.Encl (eF c r) ((n90 c a b q).den (FT h) ρ) ((n91 c a b q).den (FT h) ρ) (q.den (FT h) ρ)
  s1:allT (FT h) ρ (szF capB (n90 c a b q))
  s2:allT (FT h) ρ (szF capB (n91 c a b q))
theorem asked {ρ:Nat→Int} {c:Int} (hc:c=0∨c=1) {a b q:T} {r:Rat} (N:An.Nrm (a.den (FT h) ρ) (b.den (FT h) ρ) r) (hr:An.Bd 16 r) (q0:0≤q.den (FT h) ρ) (q1:q.den (FT h) ρ≤800):Asked h ρ c a b q r:=by
  have B:=jcy (c:=c) (q:=q.den (FT h) ρ) (by omega) N q0 q1 (fun _=>hr.mono (by grind)) (fun k=>by omega);have Te:=An.tells_at B;have k:=An.k_in B;have vf:=jsl hc N;have sz:=Te.size (fun m=>by rw [vf];exact jzn hr m) k.1 k.2.1 q0 q1;have cb:((capB:Int):Rat)=An.two 3000:=jsm 3000
  have both:∀t:T,An.Bd (An.two 3000) ((t.den (FT h) ρ:Int):Rat)→allT (FT h) ρ (szF capB t):=fun t k=>by
    refine ⟨jaf (show -capB≤t.den (FT h) ρ from An.rat_le ?_),jaf (show t.den (FT h) ρ≤capB from An.rat_le ?_),trivial⟩
    · rw [Rat.intCast_neg,cb];exact k.1
    · rw [cb];exact k.2
  refine ⟨jfg (An.hT h) N q0 q1 (fun _=>hr.mono (by grind)) (fun k=>by omega),?_,both _ sz.1,both _ sz.2⟩;rw [←vf];exact An.encl_at B
theorem jxc {ρ:Nat→Int} {c:Int} (hc:c=0∨c=1):(meet1T laQ (laM c) (laM' c) (laS c) (laS' c)).bd (FT h) ρ=true:=by
  obtain ⟨r,N,hr⟩:=sm_i h (ρ:=ρ) 0;obtain ⟨s,M,hs⟩:=sm_i h (ρ:=ρ) 2;obtain ⟨K,-,-⟩:=su_n h N M hr hs;obtain ⟨q0,q1⟩:=la_q h (ρ:=ρ);have r16:=hr.mono (show (8:Rat)≤16 by grind);have s16:=hs.mono (show (8:Rat)≤16 by grind);have A:=asked h hc N r16 q0 q1;have C:=asked h hc M s16 q0 q1;have S:=asked h hc K ((hr.add hs).mono (by grind)) q0 q1;have P:=An.Encl.mul q0 A.en C.en (jzn r16) (jzn s16);have ad:=j2h hc r16 s16;have dp:∀n:Nat,(0:Int)<2^n:=fun n=>Int.pow_pos (by omega)
  have m1:=P.meet S.en (ad.mono fun m ε he k=>by unfold An.Bd at *;grind) q0 q0;have m2:=S.en.meet P ad q0 q0;exact joh (g:=gR (hC (hD (hB (An.hT h))))) P.le S.en.le (jbm (dp _) m1) (jbm (dp _) m2)
theorem jxd {ρ:Nat→Int} {c:Int} {b:T} (hc:c=0∨c=1) (hb:b.bd (FT h) ρ=true) (hf:allT (FT h) ρ laI):allT (FT h) ρ (laF c b):=by
  obtain ⟨r,N,hr⟩:=sm_i h (ρ:=ρ) 0;obtain ⟨s,M,hs⟩:=sm_i h (ρ:=ρ) 2;obtain ⟨K,c1,c2⟩:=su_n h N M hr hs;obtain ⟨q0,q1⟩:=la_q h (ρ:=ρ);have A:=asked h hc N (hr.mono (by grind)) q0 q1;have C:=asked h hc M (hs.mono (by grind)) q0 q1;have S:=asked h hc K ((hr.add hs).mono (by grind)) q0 q1
  have xb:∀(a b:T) (r:Rat),An.Nrm (a.den (FT h) ρ) (b.den (FT h) ρ) r→allT (FT h) ρ (xbI b):=fun a b r N=>by
    have b0:=N.b0;have b1:=N.b1;exact ⟨jaf (show -100000≤b.den (FT h) ρ by omega),jaf (show b.den (FT h) ρ≤100000 by omega),trivial⟩
  exact ⟨hb,jad (g:=gR (hC (hD (hB (An.hT h))))) A.en.le,jad (g:=gR (hC (hD (hB (An.hT h))))) C.en.le,jaa A.s1 (jaa A.s2 (jaa C.s1 (jaa C.s2 (jaa ⟨jaf c2,jaf c1,trivial⟩ (jaa (xb _ _ _ N) (jaa (xb _ _ _ M) (jaa (xb _ _ _ K) (jaa A.bs (jaa C.bs (jaa S.bs hf))))))))))⟩
end
end V
end
end
section
section
open Go.RowKit Go.Shelf L
namespace V
def addsS (f:FuncId) (fs:List T):Spec:=dsp f laP 6 fs (.one (.sc (.b (.n 1))))
section
variable (h:Nat→List Int→Int)
theorem addsOK:SpecOK Tryz.prog (FT h) (addsS 6 laI):=by
  intro ρ β w vs ha hb hf;have he:Enters Tryz.prog 6:=jae (f:=6) (by kernel_rfl)
  by_cases t:(T.v 5).bd (FT h) ρ=true
  · have rs:∀ρ,allT (FT h) ρ (addsS 6 (laF 1 (.v 5))).fs→eqA (FT h) ρ (laR 1) (addsS 6 (laF 1 (.v 5))).res:=fun ρ _=>jc7 (jxc h (.inr rfl))
    exact ja0 (tab:=laB h) (sp:=addsS 6 (laF 1 (.v 5))) follows_any he (ax1 h) rfl rs ha hb (jxd h (.inr rfl) t hf)
  · have t2:(T.not (.v 5)).bd (FT h) ρ=true:=by
      rw [jax]
      simpa using t
    have rs:∀ρ,allT (FT h) ρ (addsS 6 (laF 0 (.not (.v 5)))).fs→eqA (FT h) ρ (laR 0) (addsS 6 (laF 0 (.not (.v 5)))).res:=fun ρ _=>jc7 (jxc h (.inl rfl))
    exact ja0 (tab:=laB h) (sp:=addsS 6 (laF 0 (.not (.v 5)))) follows_any he (ax0 h) rfl rs ha hb (jxd h (.inl rfl) t2 hf)
end
def ρ9 (a b c d f g:Int):Nat→Int
  | 0=>a
  | 1=>b
  | 2=>c
  | 3=>d
  | 4=>f
  | _=>g
theorem jeq {F:Nat→List Int→Int} {ρ:Nat→Int} {β:Nat→Nat} {w:World} {n:Bool} {A:Option Addr} {l c:Nat} {L:List Nat} {x:Int} (i:Nat) (hN:Nums w 0 (.slice A l c) L)
    (h0:ρ i=ival n (val W L)) (h1:ρ (i+1)=x):(rawI i).has F ρ β w (.agg #[.bool n,.slice A l c,.int .i64 x]):=by
  subst h1;exact ⟨[.bool n,.slice A l c,.int .i64 (ρ (i+1))],rfl,_,[.int .i64 (ρ (i+1))],rfl,zHuge8 hN h0,_,[],rfl,rfl,rfl⟩
theorem adds_v {w:World} {n:Bool} {A:Option Addr} {l c:Nat} {L:List Nat} {x:Int} {m:Bool} {B:Option Addr} {j d:Nat} {M:List Nat} {y q:Int} {t:Bool} (hN:Nums w 0 (.slice A l c) L) (hM:Nums w 0 (.slice B j d) M)
    (hx : -9223372036854775808≤x∧x≤9223372036854775807) (hy : -9223372036854775808≤y∧y≤9223372036854775807) (hq : -9223372036854775808≤q∧q≤9223372036854775807) :
    Calls Tryz.prog 6 #[.agg #[.bool n,.slice A l c,.int .i64 x],.agg #[.bool m,.slice B j d,.int .i64 y],.int .i64 q,.bool t] w fun e w'=>e=.returned (.bool true)∧Below w.heap.size w w':=by
  have ha:hasA (FT zz8) (ρ9 (ival n (val W L)) x (ival m (val W M)) y q (b2i t)) id w (addsS 6 laI).ps [.agg #[.bool n,.slice A l c,.int .i64 x],.agg #[.bool m,.slice B j d,.int .i64 y],.int .i64 q,.bool t]:=by
    refine ⟨_,_,rfl,jeq 0 hN rfl rfl,_,_,rfl,jeq 2 hM rfl rfl,_,_,rfl,rfl,_,_,rfl,?_,rfl⟩
    show [Value.bool t]=[Value.bool (b2i t != 0)]
    rw [jc9]
  have hfs:allT (FT zz8) (ρ9 (ival n (val W L)) x (ival m (val W M)) y q (b2i t)) laI:=⟨jaf hx.1,jaf hx.2,jaf hy.1,jaf hy.2,jaf hq.1,jaf hq.2,trivial⟩;obtain ⟨-,g⟩:=addsOK zz8 ha jew hfs;refine g.mono fun e w' ⟨h1,u,h2,h3⟩=>⟨?_,h1⟩
  have h4:[u]=[Value.bool true]:=h3;rw [h2,List.head_eq_of_cons_eq h4]
end V
end
end
end Go.Proofs.YtcjklbakhlehhaaGreat