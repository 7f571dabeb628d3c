/- V: hairlinelaw08.ElemMeets answers true. -/
import Derived.Test.YtcjklbakhlehhaaGreatEq
import Derived.Test.YtcjklbakhlehhaaGreatEc
set_option linter.unusedVariables false
set_option linter.unusedSimpArgs false
namespace Go.Proofs.YtcjklbakhlehhaaGreat
open Go.RowKit Go.Shelf L
namespace V
theorem two2:An.two (-1000)≤4∧(8:Rat)<An.two 1000:=by
  have a:=An.two_le_two (show (-1000:Int)≤0 by decide);have b:=An.two_le_two (show (4:Int)≤1000 by decide);rw [An.two_zero] at a;have t4:An.two 4=16:=by show (2:Rat)^4=16;decide +kernel
  rw [t4] at b;refine ⟨by grind,by grind⟩
section
variable (h:Nat→List Int→Int)
theorem jjz {ρ:Nat→Int} {c:Int} {a b:T} {r:Rat} (hc:0≤c∧c≤5) (N:An.Nrm (a.den (FS h) ρ) (b.den (FS h) ρ) r) (ex:¬(c=2∨c=3)→An.Bd 512 r) (lp:(c=2∨c=3)→An.two (-1000)≤r∧r<An.two 1000):(mtR c a b).bd (FS h) ρ=true:=by
  have p0:0≤ρ 3%128∧ρ 3%128≤800:=by omega
  have q0:0≤ρ 4%128∧ρ 4%128≤800:=by omega
  have E1:=An.encl_at (jcy hc N p0.1 p0.2 ex lp);have E2:=An.encl_at (jcy hc N q0.1 q0.2 ex lp);have same:An.Lim fun m ε=>An.Bd ε (An.valF c (a.den (FS h) ρ) (b.den (FS h) ρ) m - An.valF c (a.den (FS h) ρ) (b.den (FS h) ρ) m):=An.Lim.all fun m ε he=>by unfold An.Bd;grind
  exact jy9 (p:=ρ 3%128) (q:=ρ 4%128) rfl rfl p0.1 q0.1 E1.le E2.le (E1.meet E2 same p0.1 q0.1) (E2.meet E1 same q0.1 p0.1)
theorem jc7 {F:Nat→List Int→Int} {ρ:Nat→Int} {t:T} (k:t.bd F ρ=true):eqA F ρ (.one (.sc (.b t))) (.one (.sc (.b (.n 1)))):=by
  show t.bd F ρ=(T.n 1).bd F ρ
  rw [k];rfl
theorem sm_n {ρ:Nat→Int}:∃r,An.Nrm (s88.den (FS h) ρ) (s89.den (FS h) ρ) r∧(r=0∨(4≤r∧r<8)∨(-8<r∧r≤-4)):=by
  obtain ⟨r,N,k⟩:=An.sm_ok (ρ 0);refine ⟨r,N,?_⟩
  rcases k with k | k | k
  · exact .inl k.2
  · exact .inr (.inl k.2)
  · exact .inr (.inr k.2)
theorem jza {ρ:Nat→Int} {a b:T}:(ap2 67 a b).den (FS h) ρ=(cM (a.den (FS h) ρ) (b.den (FS h) ρ)).sign:=rfl
theorem jfh {ρ:Nat→Int} {a b:T} {r:Rat} (N:An.Nrm (a.den (FS h) ρ) (b.den (FS h) ρ) r):(0<(ap2 67 a b).den (FS h) ρ↔0<r)∧((ap2 67 a b).den (FS h) ρ<0↔r<0):=by
  rw [jza,N.sign.1];obtain ⟨-,s1,s2⟩:=N.sign
  generalize av 4000 (a.den (FS h) ρ) (b.den (FS h) ρ)=v at *
  constructor
  · rw [←s1]
    constructor
    · intro k
      by_cases c:0<v
      · exact c
      · by_cases d:v<0
        · rw [Int.sign_eq_neg_one_of_neg d] at k;omega
        · rw [show v=0 by omega] at k;simp at k
    · intro k
      rw [Int.sign_eq_one_of_pos k];decide
  · rw [←s2]
    exact jdx.2
theorem ju8 {ρ:Nat→Int} {r:Rat} (N:An.Nrm (s88.den (FS h) ρ) (s89.den (FS h) ρ) r):allT (FS h) ρ xbF:=by
  have b0:=N.b0;have b1:=N.b1;exact ⟨jaf (show -100000≤s89.den (FS h) ρ by omega),jaf (show s89.den (FS h) ρ≤100000 by omega),trivial⟩
theorem j1x {ρ:Nat→Int} {r:Rat} (N:An.Nrm (s88.den (FS h) ρ) (s89.den (FS h) ρ) r):An.Nrm (n88.den (FS h) ρ) (n89.den (FS h) ρ) (-r):=N.neg
theorem meetsOK:SpecOK Tryz.prog (FS h) (mtS 4 mtI):=by
  intro ρ β w vs ha hb hf;have he:Enters Tryz.prog 4:=jae (f:=4) (by kernel_rfl);obtain ⟨c,ec⟩:∃c,mtF.den (FS h) ρ=c:=⟨_,rfl⟩
  have c5:0≤c∧c≤5:=by
    rw [←ec]
    show 0≤ρ 2%8%6∧ρ 2%8%6≤5
    omega
  have p0:0≤ρ 3%128∧ρ 3%128≤800:=by omega
  have q0:0≤ρ 4%128∧ρ 4%128≤800:=by omega
  have fe:(T.eq mtF (.n c)).bd (FS h) ρ=true:=bd_eq' ec;obtain ⟨r,N,hr⟩:=sm_n h (ρ:=ρ);obtain ⟨t1,t2⟩:=two2;have b8:An.Bd 512 r:=by unfold An.Bd;grind
  by_cases lg:c=2∨c=3
  · by_cases hp:0<r
    · have lp:(c=2∨c=3)→An.two (-1000)≤r∧r<An.two 1000:=fun _=>by grind
      have sg:=(jfh h N).1.2 hp
      have rs:∀ρ,allT (FS h) ρ (mtS 4 (mt2 c)).fs→eqA (FS h) ρ (.one (.sc (.b (mtR c s88 s89)))) (mtS 4 (mt2 c)).res:=fun ρ hf=>by
        obtain ⟨r,N,hr⟩:=sm_n h (ρ:=ρ);have hp:=(jfh h N).1.1 (jca hf.2.1);exact jc7 (jjz h c5 N (fun k=>absurd lg k) fun _=>by grind)
      exact ja0 (tab:=lwB h) (sp:=mtS 4 (mt2 c)) follows_any he (mx2 h c lg) rfl rs ha hb ⟨fe,jcg sg,jaa (ju8 h N) (jaa (jfg h N p0.1 p0.2 (fun k=>absurd lg k) lp) (jaa (jfg h N q0.1 q0.2 (fun k=>absurd lg k) lp) hf))⟩
    · by_cases hn:r<0
      · have lp:(c=2∨c=3)→An.two (-1000)≤-r∧-r<An.two 1000:=fun _=>by grind
        have M:=j1x h N;have sg:=(jfh h N).2.2 hn;have sg2:=(jfh h M).1.2 (by grind)
        have rs:∀ρ,allT (FS h) ρ (mtS 4 (mt3 c)).fs→eqA (FS h) ρ (.one (.sc (.b (mtR c n88 n89)))) (mtS 4 (mt3 c)).res:=fun ρ hf=>by
          obtain ⟨r,N,hr⟩:=sm_n h (ρ:=ρ);have hn:=(jfh h N).2.1 (jca hf.2.1);exact jc7 (jjz h c5 (j1x h N) (fun k=>absurd lg k) fun _=>by grind)
        exact ja0 (tab:=lwB h) (sp:=mtS 4 (mt3 c)) follows_any he (mx3 h c lg) rfl rs ha hb ⟨fe,jcg sg,jcg sg2,jaa (ju8 h N) (jaa (jfg h M p0.1 p0.2 (fun k=>absurd lg k) lp) (jaa (jfg h M q0.1 q0.2 (fun k=>absurd lg k) lp) hf))⟩
      · have s1:=(jfh h N).1
        have s2:=(jfh h N).2
        have z:(ap2 67 s88 s89).den (FS h) ρ=0:=by
          have a1:¬ 0<(ap2 67 s88 s89).den (FS h) ρ:=fun k=>hp (s1.1 k)
          have a2:¬ (ap2 67 s88 s89).den (FS h) ρ<0:=fun k=>hn (s2.1 k)
          omega
        exact ja0 (tab:=lwB h) (sp:=mtS 4 (mt4 c)) follows_any he (mx4 h c lg) rfl (fun ρ _=>jc7 rfl) ha hb ⟨fe,bd_eq' z,jaa (ju8 h N) hf⟩
  · have c4:c=0∨c=1∨c=4∨c=5:=by omega
    have rs:∀ρ,allT (FS h) ρ (mtS 4 (mt1 c)).fs→eqA (FS h) ρ (.one (.sc (.b (mtR c s88 s89)))) (mtS 4 (mt1 c)).res:=fun ρ hf=>by
      obtain ⟨r,N,hr⟩:=sm_n h (ρ:=ρ);exact jc7 (jjz h c5 N (fun _=>by unfold An.Bd;grind) fun k=>absurd k lg)
    exact ja0 (tab:=lwB h) (sp:=mtS 4 (mt1 c)) follows_any he (mx1 h c c4) rfl rs ha hb ⟨fe,jaa (ju8 h N) (jaa (jfg h N p0.1 p0.2 (fun _=>b8) (fun k=>absurd k lg)) (jaa (jfg h N q0.1 q0.2 (fun _=>b8) (fun k=>absurd k lg)) hf))⟩
end
def zz8:Nat→List Int→Int:=fun _ _=>0
def ρ8 (a b c d f:Int):Nat→Int
  | 0=>a
  | 1=>b
  | 2=>c
  | 3=>d
  | _=>f
theorem zHuge8 {F:Nat→List Int→Int} {ρ:Nat→Int} {β:Nat→Nat} {w:World} {n:Bool} {A:Option Addr} {l c:Nat} {L:List Nat} (hN:Nums w 0 (.slice A l c) L) {t:T} (ht:t.den F ρ=ival n (val W L)) :
    (X.z hugeK false t).has F ρ β w [.bool n,.slice A l c]:=by
  refine ⟨n,A,l,c,rfl,?_,fun hh=>by cases hh⟩;rw [ht];refine ⟨L,hN,?_,rfl⟩;obtain ⟨A',c',h1,⟨h2,-⟩,h3,-⟩:=hN;injection h1 with _ h4 h5
  show L.length≤9223372036854775807
  omega
theorem ju9 {F:Nat→List Int→Int} {ρ:Nat→Int} {β:Nat→Nat} {w:World} {n:Bool} {A:Option Addr} {l c:Nat} {L:List Nat} {x:Int} (hN:Nums w 0 (.slice A l c) L)
    (h0:ρ 0=ival n (val W L)) (h1:ρ 1=x):rawD.has F ρ β w (.agg #[.bool n,.slice A l c,.int .i64 x]):=by
  subst h1;exact ⟨[.bool n,.slice A l c,.int .i64 (ρ 1)],rfl,_,[.int .i64 (ρ 1)],rfl,zHuge8 hN h0,_,[],rfl,rfl,rfl⟩
theorem meets_v {w:World} {n:Bool} {A:Option Addr} {l c:Nat} {L:List Nat} {x f p q:Int} (hN:Nums w 0 (.slice A l c) L)
    (hf : -9223372036854775808≤f∧f≤9223372036854775807) (hx : -9223372036854775808≤x∧x≤9223372036854775807) (hp : -9223372036854775808≤p∧p≤9223372036854775807) (hq : -9223372036854775808≤q∧q≤9223372036854775807) :
    Calls Tryz.prog 4 #[.int .i64 f,.agg #[.bool n,.slice A l c,.int .i64 x],.int .i64 p,.int .i64 q] w fun e w'=>e=.returned (.bool true)∧Below w.heap.size w w':=by
  have ha:hasA (FS zz8) (ρ8 (ival n (val W L)) x f p q) id w (mtS 4 mtI).ps [.int .i64 f,.agg #[.bool n,.slice A l c,.int .i64 x],.int .i64 p,.int .i64 q]:=
    ⟨_,_,rfl,rfl,_,_,rfl,ju9 hN rfl rfl,_,_,rfl,rfl,_,_,rfl,rfl,rfl⟩
  have hfs:allT (FS zz8) (ρ8 (ival n (val W L)) x f p q) mtI:=⟨jaf hx.1,jaf hx.2,jaf hf.1,jaf hf.2,jaf hp.1,jaf hp.2,jaf hq.1,jaf hq.2,trivial⟩;obtain ⟨-,g⟩:=meetsOK zz8 ha jew hfs;refine g.mono fun e w' ⟨h1,u,h2,h3⟩=>⟨?_,h1⟩
  have h4:[u]=[Value.bool true]:=h3;rw [h2,List.head_eq_of_cons_eq h4]
end V
end Go.Proofs.YtcjklbakhlehhaaGreat
