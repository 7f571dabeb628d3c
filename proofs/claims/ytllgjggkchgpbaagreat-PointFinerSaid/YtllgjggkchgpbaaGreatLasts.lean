/- V: hairlinelaw09.PointFiner answers true. Floor and Ceil stand below and above a value. Plain facts. The place of a value's top bit. Plain facts. What is near is not above, and the next one is. Plain facts. Integer and dyad arguments opened to their cells. -/
import Derived.Test.YtllgjggkchgpbaaGreatLk
import Derived.Test.YtllgjggkchgpbaaGreatLm
import Derived.Test.YtllgjggkchgpbaaGreatEvs
import Derived.Test.YtllgjggkchgpbaaGreatCons
import Derived.ProofKit
import Derived.OpenShut
import Derived.Lib.SmallJoins
set_option linter.unusedVariables false
set_option linter.unusedSimpArgs false
namespace Go.Proofs.YtllgjggkchgpbaaGreat
section
section
open Go.RowKit Go.Shelf L
namespace V
theorem j2j {F:Nat→List Int→Int} {ρ:Nat→Int} (a b d:T):(T.ite a b d).bd F ρ=if a.bd F ρ then b.bd F ρ else d.bd F ρ:=by
  unfold T.bd;rw [jb8];unfold T.bd
  split <;> rfl
theorem eq_one' {F:Nat→List Int→Int} {ρ:Nat→Int} {t:T} (k:t.bd F ρ=true):eqA F ρ (.one (.sc (.b t))) (.one (.sc (.b (.n 1)))):=by
  show t.bd F ρ=(T.n 1).bd F ρ
  rw [k];rfl
section
variable (h:Nat→List Int→Int)
noncomputable def pfB:List (Ctr Tryz.prog (FL h)):=c09 (hV h)::Ctr.lem (jan (by kernel_rfl)) (lookG h)::dy1 (hV h)
noncomputable def pfE:List (Ctr Tryz.prog (FL h)):=c09 (hV h)::pt3 (hV h) (dy1 (hV h))
def pfM:T:=ap1 69 (.v 1)
def pfX:T:=ap1 70 (.v 1)
def pfFld:T:=ap2 2 (ap2 1 (.v 1) (.n 4503599627370496)) (.n 2048)
def pfTh (i:Nat):T:=.add (.n 1) (ap2 2 (.v i) (.n 128))
def pfL (n:Nat) (i:Nat):T:=ap4' n (.v 0) pfM pfX (pfTh i)
def pfI:List T:=[.le (.n (-9223372036854775808)) (.v 0),.le (.v 0) (.n 9223372036854775807),.le (.n 0) (.v 1),.le (.v 1) (.n 18446744073709551615),.le (.n (-9223372036854775808)) (.v 2),.le (.v 2) (.n 9223372036854775807),.le (.n (-9223372036854775808)) (.v 3),.le (.v 3) (.n 9223372036854775807)]
def pfP:List A:=[i64 (.v 0),.one (.sc (.i .u64 (.v 1))),i64 (.v 2),i64 (.v 3)]
def pfC (s:Bool):T:=if s then .lt (pfTh 3) (pfTh 2) else .le (pfTh 2) (pfTh 3)
def pfi (s:Bool):Nat:=if s then 3 else 2
def pfj (s:Bool):Nat:=if s then 2 else 3
def pfD (s:Bool):T:=.sub (pfL 89 (pfi s)) (pfL 89 (pfj s))
def pfOK (s:Bool):List T:=pfC s::.eq (ap4' 96 (.v 0) pfM pfX (.n 300)) (.n 1)::.le (.n 1) pfFld::.le pfFld (.n 2046)::.le (.n (-2200)) (pfL 89 (pfi s))::.le (pfL 89 (pfi s)) (.n 2200)::.le (.n (-2200)) (pfL 89 (pfj s))::.le (pfL 89 (pfj s)) (.n 2200)::.le (.n (-1)) (pfD s)::.le (pfD s) (.n 1)::.or (.not (pfL 93 (pfj s))) (pfL 93 (pfi s))::pfI
def pfR (s:Bool):A:=.one (.sc (.b (.ite (.not (pfL 93 (pfj s))) (.le (pfD s) (.n 1)) (.and (pfL 93 (pfi s)) (.le (pfD s) (.n 1))))))
theorem pfx:∀s:Bool,in12 (inlX (pfB h) 4 (pfOK s) [] pfP)=some ([],pfR s)
  | false=>by kernel_rfl
  | true=>by kernel_rfl
def pfA:T:=ap2 56 pfM pfX
def pfAE:T:=ap2 57 pfM pfX
def pfXX:List T:=[.le (.n (-2000)) pfX,.le pfX (.n 2000),.le (.n (-1200)) pfAE,.le pfAE (.n 4000)]
def pfN (l:List T) (s:Bool):List T:=pfC s::(l ++ pfI)
def pfE1:List T:=[.eq pfFld (.n 0)]
def pfE2:List T:=[.eq pfFld (.n 2047)]
def pfNm:List T:=[.le (.n 1) pfFld,.le pfFld (.n 2046)] ++ pfXX
def pfE3:List T:=.lt (.v 0) (.n 0)::pfNm
def pfE4:List T:=.lt (.n 5) (.v 0)::pfNm
def pfE5 (c:Int):List T:=.eq (.v 0) (.n c)::.le (ap2 67 pfA pfAE) (.n 0)::pfNm
def pfE6 (c:Int):List T:=.le (.n c) (.v 0)::.le (.v 0) (.n (c+1))::(ap2 68 pfA pfAE)::.le (.n 10) (ap2 58 pfA pfAE)::pfNm
def pfRE:A:=.one (.sc (.b (.eq (.n 1) (.n 1))))
theorem pe1:∀s:Bool,in12 (inlX (pfE h) 4 (pfN pfE1 s) [] pfP)=some ([],pfRE)
  | false=>by kernel_rfl
  | true=>by kernel_rfl
theorem pe2:∀s:Bool,in12 (inlX (pfE h) 4 (pfN pfE2 s) [] pfP)=some ([],pfRE)
  | false=>by kernel_rfl
  | true=>by kernel_rfl
theorem pe3:∀s:Bool,in12 (inlX (pfE h) 4 (pfN pfE3 s) [] pfP)=some ([],pfRE)
  | false=>by kernel_rfl
  | true=>by kernel_rfl
theorem pe4:∀s:Bool,in12 (inlX (pfE h) 4 (pfN pfE4 s) [] pfP)=some ([],pfRE)
  | false=>by kernel_rfl
  | true=>by kernel_rfl
theorem pe5:∀s t:Bool,in12 (inlX (pfE h) 4 (pfN (pfE5 (if t then 3 else 2)) s) [] pfP)=some ([],pfRE)
  | false,false=>by kernel_rfl
  | false,true=>by kernel_rfl
  | true,false=>by kernel_rfl
  | true,true=>by kernel_rfl
theorem pe6:∀s t:Bool,in12 (inlX (pfE h) 4 (pfN (pfE6 (if t then 4 else 0)) s) [] pfP)=some ([],pfRE)
  | false,false=>by kernel_rfl
  | false,true=>by kernel_rfl
  | true,false=>by kernel_rfl
  | true,true=>by kernel_rfl
def pfS (f:FuncId) (fs:List T):Spec:=dsp f pfP 4 fs (.one (.sc (.b (.n 1))))
theorem finerOK:SpecOK Tryz.prog (FL h) (pfS 4 pfI):=by
  intro ρ β w vs ha hb hf;have he:Enters Tryz.prog 4:=jan (f:=4) (by kernel_rfl);have b0:0≤ρ 1:=jaa hf.2.2.1;have b1:ρ 1≤18446744073709551615:=jaa hf.2.2.2.1;have th:∀i,(pfTh i).den (FL h) ρ=1+ρ i%128:=fun i=>rfl
  obtain ⟨s,hs⟩:∃s:Bool,s=decide ((pfTh 3).den (FL h) ρ<(pfTh 2).den (FL h) ρ):=⟨_,rfl⟩
  have cs:(pfC s).bd (FL h) ρ=true:=by
    cases s
    · have k:=of_decide_eq_false hs.symm
      exact jad (show (pfTh 2).den (FL h) ρ≤(pfTh 3).den (FL h) ρ by omega)
    · exact jbj (of_decide_eq_true hs.symm)
  have fl:pfFld.den (FL h) ρ=(pFld (ρ 1).toNat:Int):=by
    show ρ 1 / 4503599627370496%2048=_
    unfold pFld
    omega
  have flt:=jjy (ρ 1).toNat;have er:∀ρ:Nat→Int,eqA (FL h) ρ pfRE (.one (.sc (.b (.n 1)))):=fun ρ=>eq_one' rfl
  by_cases f0:pFld (ρ 1).toNat=0
  · exact jaq (tab:=pfE h) (sp:=pfS 4 (pfN pfE1 s)) follows_any he (pe1 h s) rfl (fun ρ _=>er ρ) ha hb ⟨cs,jac ⟨bd_eq' (by rw [fl,f0];rfl),trivial⟩ hf⟩
  by_cases f7:pFld (ρ 1).toNat=2047
  · exact jaq (tab:=pfE h) (sp:=pfS 4 (pfN pfE2 s)) follows_any he (pe2 h s) rfl (fun ρ _=>er ρ) ha hb ⟨cs,jac ⟨bd_eq' (by rw [fl,f7];rfl),trivial⟩ hf⟩
  have ve:=jmx _ f7;have N:=An.nrm_pat f7;have ne:pfAE.den (FL h) ρ=vE (ρ 1).toNat:=N.ne;have n1:(T.le (.n 1) pfFld).bd (FL h) ρ=true:=jad (by rw [fl];show (1:Int)≤_;omega);have n2:(T.le pfFld (.n 2046)).bd (FL h) ρ=true:=jad (by rw [fl];show _≤(2046:Int);omega);have nm:allT (FL h) ρ pfNm:=⟨n1,n2,jad (show -2000≤vE (ρ 1).toNat by omega),jad (show vE (ρ 1).toNat≤2000 by omega),jad (by rw [ne];show (-1200:Int)≤_;omega),jad (by rw [ne];show _≤(4000:Int);omega),trivial⟩
  by_cases M:An.May (ρ 0) (vM (ρ 1).toNat) (vE (ρ 1).toNat) 300
  · have lh:∀n i,(pfL n i).den (FL h) ρ=FL h n [ρ 0,vM (ρ 1).toNat,vE (ρ 1).toNat,1+ρ i%128]:=fun n i=>rfl
    have e89:∀i,(pfL 89 i).den (FL h) ρ=An.lkE (ρ 0) (vM (ρ 1).toNat) (vE (ρ 1).toNat) (1+ρ i%128):=fun i=>rfl
    have e93:∀i,(pfL 93 i).bd (FL h) ρ=An.lkH (ρ 0) (vM (ρ 1).toNat) (vE (ρ 1).toNat) (1+ρ i%128):=fun i=>by
      show (b2i (An.lkH (ρ 0) (vM (ρ 1).toNat) (vE (ρ 1).toNat) (1+ρ i%128)) != 0)=_
      rw [jcu]
    have inE:=fun i=>An.lkE_in M.B (m:=1+ρ i%128) (by omega) (by omega)
    have a1:=An.look_near M.B (m:=1+ρ (pfi s)%128) (n:=1+ρ (pfj s)%128) (by omega) (by omega) (by omega) (by omega);have a2:=An.look_near M.B (m:=1+ρ (pfj s)%128) (n:=1+ρ (pfi s)%128) (by omega) (by omega) (by omega) (by omega);have dD:(pfD s).den (FL h) ρ=An.lkE (ρ 0) (vM (ρ 1).toNat) (vE (ρ 1).toNat) (1+ρ (pfi s)%128) - An.lkE (ρ 0) (vM (ρ 1).toNat) (vE (ρ 1).toNat) (1+ρ (pfj s)%128):=rfl
    have ij:1+ρ (pfi s)%128≤1+ρ (pfj s)%128:=by
      cases s
      · have k:=of_decide_eq_false hs.symm
        rw [th,th] at k
        show 1+ρ 2%128≤1+ρ 3%128
        omega
      · have k:=of_decide_eq_true hs.symm
        rw [th,th] at k
        show 1+ρ 3%128≤1+ρ 2%128
        omega
    have fin:=An.look_finer M.B (m:=1+ρ (pfi s)%128) (n:=1+ρ (pfj s)%128) (by omega) ij (by omega)
    have orF:(T.or (.not (pfL 93 (pfj s))) (pfL 93 (pfi s))).bd (FL h) ρ=true:=by
      rw [jew,jax,e93,e93]
      cases k:An.lkH (ρ 0) (vM (ρ 1).toNat) (vE (ρ 1).toNat) (1+ρ (pfj s)%128)
      · rfl
      · rw [fin k];rfl
    have rs:∀ρ,allT (FL h) ρ (pfS 4 (pfOK s)).fs→eqA (FL h) ρ (pfR s) (pfS 4 (pfOK s)).res:=fun ρ hf=>by
      obtain ⟨-,-,-,-,-,-,-,-,-,d1,o,-⟩:=hf;refine eq_one' ?_;rw [j2j,jax,jck,d1];rw [jew,jax] at o
      cases k:(pfL 93 (pfj s)).bd (FL h) ρ
      · rfl
      · rw [k] at o
        have o:(pfL 93 (pfi s)).bd (FL h) ρ=true:=o;rw [o];rfl
    have q1:=inE (pfi s);have q2:=inE (pfj s);exact jaq (tab:=pfB h) (sp:=pfS 4 (pfOK s)) follows_any he (pfx h s) rfl rs ha hb ⟨cs,bd_eq' (An.may_one.2 M),n1,n2,jad q1.1,jad q1.2,jad q2.1,jad q2.2,jad (show -1≤(pfD s).den (FL h) ρ by rw [dD];omega),jad (show (pfD s).den (FL h) ρ≤1 by rw [dD];omega),orF,hf⟩
  · have sgT:(ap2 67 pfA pfAE).den (FL h) ρ=(cM (vM (ρ 1).toNat) (vE (ρ 1).toNat)).sign:=by
      show (cM (nM (vM (ρ 1).toNat) (vE (ρ 1).toNat)) (nE (vM (ρ 1).toNat) (vE (ρ 1).toNat))).sign=_
      rw [N.nm,N.ne]
    have okT:(ap2 68 pfA pfAE).bd (FL h) ρ=lgOk (vM (ρ 1).toNat) (vE (ρ 1).toNat):=by
      show (b2i (lgOk (nM (vM (ρ 1).toNat) (vE (ρ 1).toNat)) (nE (vM (ρ 1).toNat) (vE (ρ 1).toNat))) != 0)=_
      rw [jcu,N.nm,N.ne]
    have lgT:(ap2 58 pfA pfAE).den (FL h) ρ=lgN (vM (ρ 1).toNat) (vE (ρ 1).toNat):=by
      show lgN (nM (vM (ρ 1).toNat) (vE (ρ 1).toNat)) (nE (vM (ρ 1).toNat) (vE (ρ 1).toNat))=_
      rw [N.nm,N.ne]
    rcases An.not_may f7 M with c | c | ⟨c,sg⟩ | ⟨c2,c0,c5,ok,l10⟩
    · exact jaq (tab:=pfE h) (sp:=pfS 4 (pfN pfE3 s)) follows_any he (pe3 h s) rfl (fun ρ _=>er ρ) ha hb ⟨cs,jbj c,jac nm hf⟩
    · exact jaq (tab:=pfE h) (sp:=pfS 4 (pfN pfE4 s)) follows_any he (pe4 h s) rfl (fun ρ _=>er ρ) ha hb ⟨cs,jbj c,jac nm hf⟩
    · have hs':(T.le (ap2 67 pfA pfAE) (.n 0)).bd (FL h) ρ=true:=jad (by rw [sgT];exact sg)
      rcases c with c | c
      · exact jaq (tab:=pfE h) (sp:=pfS 4 (pfN (pfE5 2) s)) follows_any he (pe5 h s false) rfl (fun ρ _=>er ρ) ha hb ⟨cs,bd_eq' c,hs',jac nm hf⟩
      · exact jaq (tab:=pfE h) (sp:=pfS 4 (pfN (pfE5 3) s)) follows_any he (pe5 h s true) rfl (fun ρ _=>er ρ) ha hb ⟨cs,bd_eq' c,hs',jac nm hf⟩
    · have ho:(ap2 68 pfA pfAE).bd (FL h) ρ=true:=by rw [okT];exact ok
      have hl:(T.le (.n 10) (ap2 58 pfA pfAE)).bd (FL h) ρ=true:=jad (by rw [lgT];exact l10);have c1:(0≤ρ 0∧ρ 0≤1)∨(4≤ρ 0∧ρ 0≤5):=by omega
      rcases c1 with c | c
      · exact jaq (tab:=pfE h) (sp:=pfS 4 (pfN (pfE6 0) s)) follows_any he (pe6 h s false) rfl (fun ρ _=>er ρ) ha hb ⟨cs,jad c.1,jad c.2,ho,hl,jac nm hf⟩
      · exact jaq (tab:=pfE h) (sp:=pfS 4 (pfN (pfE6 4) s)) follows_any he (pe6 h s true) rfl (fun ρ _=>er ρ) ha hb ⟨cs,jad c.1,jad c.2,ho,hl,jac nm hf⟩
end
def zzP:Nat→List Int→Int:=fun _ _=>0
def ρP (a b c d:Int):Nat→Int
  | 0=>a
  | 1=>b
  | 2=>c
  | _=>d
theorem finer_v {w:World} {f b m n:Int} (hf : -9223372036854775808≤f∧f≤9223372036854775807) (hb:0≤b∧b≤18446744073709551615) (hm : -9223372036854775808≤m∧m≤9223372036854775807) (hn : -9223372036854775808≤n∧n≤9223372036854775807) :
    Calls Tryz.prog 4 #[.int .i64 f,.int .u64 b,.int .i64 m,.int .i64 n] w fun e w'=>e=.returned (.bool true)∧Below w.heap.size w w':=by
  have ha:hasA (FL zzP) (ρP f b m n) id w (pfS 4 pfI).ps [.int .i64 f,.int .u64 b,.int .i64 m,.int .i64 n]:=
    ⟨_,_,rfl,rfl,_,_,rfl,rfl,_,_,rfl,rfl,_,_,rfl,rfl,rfl⟩
  have hfs:allT (FL zzP) (ρP f b m n) pfI:=⟨jad hf.1,jad hf.2,jad hb.1,jad hb.2,jad hm.1,jad hm.2,jad hn.1,jad hn.2,trivial⟩;obtain ⟨-,g⟩:=finerOK zzP ha jgr hfs;refine g.mono fun e w' ⟨h1,u,h2,h3⟩=>⟨?_,h1⟩
  have h4:[u]=[Value.bool true]:=h3;rw [h2,List.head_eq_of_cons_eq h4]
end V
end
end
section
section
section
open Go.RowKit
open L (val dig nth)
theorem jn8 {K J:Nat} {V p:Int} (hKJ:K≤J) (hp:0≤p - K+J):vFloor K V p=sv J V (p - K) / 2^J:=by
  have hq:∀(t:Int) (i j:Nat),t*2^i / 2^(i+j)=t / 2^j:=by
    intro t i j;rw [Int.pow_add,Int.mul_comm t];exact Int.mul_ediv_mul_of_pos _ _ (jbr i)
  unfold vFloor sv
  by_cases h:0≤p
  · rw [if_pos h,show (p - K+J).toNat=p.toNat+(J - K) from by omega,Int.pow_add,←Int.mul_assoc]
    conv=>rhs;rw [show J=(J - K)+K from by omega]
    rw [show J - K+K - K=J - K from by omega,hq]
  · rw [if_neg h]
    conv=>rhs;rw [show J=(p - K+J).toNat+(K+(-p).toNat) from by omega]
    rw [show (p - K+((p - K+J).toNat+(K+(-p).toNat):Nat)).toNat=(p - K+J).toNat from by omega,hq]
theorem jzs {K J:Nat} {V p:Int} (hKJ:K≤J) (hp:0≤p - K+J):vCeil K V p = -(-sv J V (p - K) / 2^J):=by
  unfold vCeil;rw [jn8 hKJ hp,jrp]
section
variable {X D f c:Int} (hD:0<D) (hf:f=X / D) (hc:c = -(-X / D))
include hD hf hc
theorem j4g:f*D≤X∧X≤c*D∧0≤c - f∧c - f≤1∧(c - f=0↔f*D=X)∧X<f*D+D∧c*D<X+D:=by
  have h1:=Int.mul_ediv_add_emod X D;have h2:=Int.emod_nonneg X (show D≠0 by omega);have h3:=Int.emod_lt_of_pos X hD;have h4:=Int.mul_ediv_add_emod (-X) D;have h5:=Int.emod_nonneg (-X) (show D≠0 by omega);have h6:=Int.emod_lt_of_pos (-X) hD;rw [←hf,Int.mul_comm] at h1;rw [show -X / D = -c from by omega,Int.mul_neg,Int.mul_comm] at h4;have h7:(c - f)*D=X%D + -X%D:=by rw [Int.sub_mul];omega
  have h8:0≤c - f:=by
    rcases Int.lt_or_le (c - f) 0 with h | h
    · have:(c - f)*D<0:=Int.mul_neg_of_neg_of_pos h hD
      omega
    · exact h
  have h9:c - f≤1:=by
    rcases Int.lt_or_le 1 (c - f) with h | h
    · have:2*D≤(c - f)*D:=Int.mul_le_mul_of_nonneg_right (by omega) (by omega)
      omega
    · exact h
  refine ⟨by omega,by omega,h8,h9,?_,by omega,by omega⟩
  constructor
  · intro h;rw [h,Int.zero_mul] at h7;omega
  · intro h
    have h10:(c - f)*D<1*D:=by omega
    have:=Int.lt_of_mul_lt_mul_right h10 (by omega)
    omega
end
section
variable {K J:Nat} {lo hi V p:Int}
theorem InV.shift (h:InV K lo hi V) (hp:0≤p - K+J) (hl:0≤lo+p+J):InV J (lo+p) (hi+p) (sv J V (p - K)):=by
  obtain ⟨a,b,⟨u,hu⟩,c⟩:=h;have hpos:0≤hi+p+J:=by omega
  refine ⟨hl,hpos,⟨u,?_⟩,?_⟩
  · rw [hu];unfold sv
    rw [Int.mul_assoc,←Int.pow_add];congr 2;omega
  · rw [jfb,show (hi+p+J).toNat=(hi+K).toNat+(p - K+J).toNat from by omega,Nat.pow_add]
    exact Nat.mul_lt_mul_of_pos_right c (Nat.two_pow_pos _)
theorem InV.of_near {X L:Int} {h:Int} (hh:0≤h) (hX:X.natAbs<2^(h+J).toNat) (hL:(L - X).natAbs<2^J):L.natAbs<2^(h+1+J).toNat:=by
  have h1:2^J≤2^(h+J).toNat:=Nat.pow_le_pow_right (by omega) (by omega);rw [show (h+1+(J:Int)).toNat=(h+J).toNat+1 from by omega,Nat.pow_succ]
  omega
theorem InV.floor (h:InV K lo hi V) (hKJ:K≤J) (hp:0≤p - K+J) (hl:0≤lo+p+J) (hh:0≤hi+p):InV J 0 (hi+p+1) (sv J (vFloor K V p) 0)∧InV J 0 (hi+p+1) (sv J (vCeil K V p) 0):=by
  have hX:=h.shift hp hl;have hD:(0:Int)<2^J:=jbr J;have hfl:=j4g (X:=sv J V (p - K)) hD (jn8 hKJ hp) (jzs hKJ hp);have hs:∀u,sv J u 0=u*2^J:=by intro u;unfold sv;rw [show (0+(J:Int)).toNat=J from by omega]
  have hDn:((2:Int)^J)=((2^J:Nat):Int):=natpow J;refine ⟨⟨by omega,by omega,⟨_,rfl⟩,?_⟩,⟨by omega,by omega,⟨_,rfl⟩,?_⟩⟩
  · exact InV.of_near hh hX.2.2.2 (by rw [hs];omega)
  · exact InV.of_near hh hX.2.2.2 (by rw [hs];omega)
end
end
end
section
section
open Go.RowKit
open L (val dig nth)
section
variable {K J:Nat} {V V' lo hi:Int}
end
end
end
section
section
open Go.RowKit
open L (val dig nth)
section
variable {z x V:Int} {n:Int}
end
end
end
section
section
open Go.RowKit Go.ChangeShapes Go.WideShapes
open L (val dig nth)
section
variable {H:Type} {enc:TypeId×Value→H} {w:World} {base:Nat} {spare:Nat→Bool} {held:Bool}
end
end
end
end
end Go.Proofs.YtllgjggkchgpbaaGreat