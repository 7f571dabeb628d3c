/- V: dyads, patterns, balls' products: contracts from what was walked. -/
import Derived.Test.YtllgjggkchgpbaaGreatSm
set_option linter.unusedVariables false
set_option linter.unusedSimpArgs false
namespace Go.Proofs.YtllgjggkchgpbaaGreat
open Go.RowKit Go.Shelf
namespace V
def hD (h:Nat→List Int→Int):Nat→List Int→Int
  | 0,[z,x]=>nM z x
  | 1,[z,x]=>nE z x
  | 2,[z,x]=>lgN z x
  | 3,[z,x,p]=>vFloor 4000 (av 4000 z x) (nearZ p)
  | 4,[z,x,p]=>vCeil 4000 (av 4000 z x) (nearZ p)
  | 5,[z,x,u,y]=>pM (av 4000 z x - av 4000 u y)
  | 6,[z,x,u,y]=>pE (av 4000 z x - av 4000 u y) (-(4000:Nat))
  | 7,[z,x,p]=>pE (av 4000 z x) (nearZ p - (4000:Nat))
  | 8,[z,x]=>pM (av 4000 z x)
  | 9,[z,x]=>pM (-av 4000 z x)
  | 10,[z,x]=>pE (-av 4000 z x) (-(4000:Nat))
  | 11,[z,x]=>(cM z x).sign
  | 12,[z,x]=>b2i (lgOk z x)
  | 13,[b]=>vM b.toNat
  | 14,[b]=>vE b.toNat
  | 15,[b]=>vX b.toNat
  | 16,[z,x]=>(oB1 (nM z x) (nE z x):Nat)
  | 17,[z,x]=>oX1 (nM z x) (nE z x)
  | 18,[x0,x1,y0,y1,q]=>vDn (min4 (x0*y0) (x0*y1) (x1*y0) (x1*y1)) q
  | 19,[x0,x1,y0,y1,q]=>vOv (max4 (x0*y0) (x0*y1) (x1*y0) (x1*y1)) q
  | 20,[x0,x1,y0,y1,q]=>min4 (vLo q x0 y0) (vLo q x0 y1) (vLo q x1 y0) (vLo q x1 y1)
  | 21,[x0,x1,y0,y1,q]=>max4 (vHi q x0 y0) (vHi q x0 y1) (vHi q x1 y0) (vHi q x1 y1)
  | n,l=>if n<24 then 0 else h (n - 24) l
def ap5 (f:Nat) (a b c d x:T):T:=.ap f (.c a (.c b (.c c (.c d (.c x .e)))))
def dA (k:Nat) (c:Bool) (m x:T):A:=.one (.ag [.z k c m,.i .i64 x])
def bA (k:Nat) (c:Bool) (l u q:T):A:=.one (.ag [.z k c l,.z k c u,.i .i64 q])
section
variable {F:Nat→List Int→Int} {ρ:Nat→Int} {β:Nat→Nat} {P:Program} {w:World}
theorem jh0 {k:Nat} {c:Bool} {m x:T} {v:Value} (h:(dA k c m x).has F ρ β w v):∃n A l c',v=.agg #[.bool n,.slice A l c',.int .i64 (x.den F ρ)]∧Q w k n A l c' (m.den F ρ):=by
  obtain ⟨cs,rfl,c1,d1,rfl,⟨n,A,l,c',rfl,h1,h2⟩,c2,d2,rfl,h3,h4⟩:=h;rw [show d2=[] from h4,show c2=[_] from h3];exact ⟨n,A,l,c',rfl,h1⟩
theorem jwh {k:Nat} {c:Bool} {l u q:T} {v:Value} (h:(bA k c l u q).has F ρ β w v):∃n A x c' n' A' x' c'',v=.agg #[.bool n,.slice A x c',.bool n',.slice A' x' c'',.int .i64 (q.den F ρ)]∧Q w k n A x c' (l.den F ρ)∧Q w k n' A' x' c'' (u.den F ρ):=by
  obtain ⟨cs,rfl,c1,d1,rfl,⟨n,A,x,c',rfl,h1,h2⟩,c2,d2,rfl,⟨n',A',x',c'',rfl,h1',h2'⟩,c3,d3,rfl,h3,h4⟩:=h;rw [show d3=[] from h4,show c3=[_] from h3];exact ⟨n,A,x,c',n',A',x',c'',rfl,h1,h1'⟩
theorem jlv {t:T} {v:Value} (h:(i64 t).has F ρ β w v):v=.int .i64 (t.den F ρ):=List.head_eq_of_cons_eq (show [v]=[_] from h)
theorem resD {k:Nat} {z x:Int} {e:Ending} {m t:T} (h:RetDC k z x e w) (hm:m.den F ρ=z) (ht:t.den F ρ=x):∃u,e=.returned u∧(dA k true m t).has F ρ β w u:=by
  obtain ⟨n,A,l,c,rfl,hq⟩:=h;subst hm ht;exact ⟨_,rfl,[.bool n,.slice A l c,.int .i64 (t.den F ρ)],rfl,_,[.int .i64 (t.den F ρ)],rfl,⟨n,A,l,c,rfl,hq.q,fun _=>hq⟩,_,[],rfl,rfl,rfl⟩
theorem resI {k:Nat} {z:Int} {e:Ending} {m:T} (h:RetIC k z e w) (hm:m.den F ρ=z):∃u,e=.returned u∧(A.one (zV k m)).has F ρ β w u:=by
  obtain ⟨n,A,l,c,rfl,hq⟩:=h;subst hm;exact ⟨_,rfl,[.bool n,.slice A l c],rfl,_,[],rfl,⟨n,A,l,c,rfl,hq.q,fun _=>hq⟩,rfl⟩
theorem resB {B k:Nat} {x y q er:Int} {e:Ending} {a b c d:T} (h:RetB B k x y q er e w) (ha:a.den F ρ=x) (hb:b.den F ρ=y) (hc:c.den F ρ=q) (hd:d.den F ρ=er):∃u,e=.returned u∧(A.tup [.ag [.z k true a,.z k true b,.i .i64 c],.sc (.i .i64 d)]).has F ρ β w u:=by
  obtain ⟨n,A,l,c',n',A',l',c'',rfl,hq,hq'⟩:=h;subst ha hb hc hd;refine ⟨_,rfl,[.agg #[.bool n,.slice A l c',.bool n',.slice A' l' c'',.int .i64 (c.den F ρ)],.int .i64 (d.den F ρ)],rfl,_,_,rfl,?_,_,[],rfl,rfl,rfl⟩;exact ⟨[.bool n,.slice A l c',.bool n',.slice A' l' c'',.int .i64 (c.den F ρ)],rfl,_,[.bool n',.slice A' l' c'',.int .i64 (c.den F ρ)],rfl,⟨n,A,l,c',rfl,hq.q,fun _=>hq.mono (Nat.zero_le _)⟩,_,[.int .i64 (c.den F ρ)],rfl,⟨n',A',l',c'',rfl,hq'.q,fun _=>hq'.mono (Nat.zero_le _)⟩,_,[],rfl,rfl,rfl⟩
end
theorem jbn {F:Nat→List Int→Int} {ρ:Nat→Int}:∀{l m:List T},allT F ρ (l ++ m)→allT F ρ l
  | [],_,_=>trivial
  | _::_,_,h=>⟨h.1,jbn h.2⟩
theorem jab {F:Nat→List Int→Int} {ρ:Nat→Int}:∀{l m:List T},allT F ρ (l ++ m)→allT F ρ m
  | [],_,h=>h
  | _::_,_,h=>jab (m:=_) h.2
def xF (i:Nat):List T:=[.le (.n (-100000)) (.v i),.le (.v i) (.n 100000)]
theorem jf3 {F:Nat→List Int→Int} {ρ:Nat→Int} {i:Nat} (h:allT F ρ (xF i)) : -100000≤ρ i∧ρ i≤100000:=by
  have h1 : -100000≤ρ i:=jaa h.1;have h2:ρ i≤100000:=jaa h.2.1;exact ⟨h1,h2⟩
def d0:A:=dA 200 false (.v 0) (.v 1)
def d2:A:=dA 200 false (.v 2) (.v 3)
def dsp (f:FuncId) (ps:List A) (n:Nat) (fs:List T) (res:A):Spec:={ f:=f,ps:=ps,bx:=[],np:=n,fs:=fs,res:=res,post:=[] }
section
variable (h:Nat→List Int→Int)
abbrev FD:Nat→List Int→Int:=stdF (gR (hC (hD h)))
def normS (f:FuncId):Spec:=dsp f [d0] 2 (xF 1) (dA 200 true (ap2 56 (.v 0) (.v 1)) (ap2 57 (.v 0) (.v 1)))
theorem normOK:SpecOK Tryz.prog (FD h) (normS 91):=by
  intro ρ β w vs ha _ hf;obtain ⟨v,rfl,hv⟩:=args1 ha;obtain ⟨n,A,l,c,rfl,hq⟩:=jh0 hv;obtain ⟨x0,x1⟩:=jf3 hf;refine ⟨trivial,(j16 4000 hq (by omega) (by omega) ⟨x0,x1⟩ rfl rfl rfl).mono fun e w' ⟨k1,k2⟩=>⟨k1,resD k2 ?_ ?_⟩⟩
  · exact ju9 4000 _ _
  · exact jrs (by omega) _ _
def negS (f:FuncId):Spec:=dsp f [d0] 2 (xF 1) (dA 200 true (ap2 65 (.v 0) (.v 1)) (ap2 66 (.v 0) (.v 1)))
theorem negOK:SpecOK Tryz.prog (FD h) (negS 287):=by
  intro ρ β w vs ha _ hf;obtain ⟨v,rfl,hv⟩:=args1 ha;obtain ⟨n,A,l,c,rfl,hq⟩:=jh0 hv;exact ⟨trivial,(j4f 4000 hq (by omega) (by omega) (jf3 hf) rfl rfl rfl).mono fun e w' ⟨k1,k2⟩=>⟨k1,resD k2 rfl rfl⟩⟩
def shiftS (f:FuncId):Spec:=dsp f [d0,i64 (.v 2)] 3 (xF 1) (dA 200 true (ap2 64 (.v 0) (.v 1)) (ap3 63 (.v 0) (.v 1) (.v 2)))
theorem shiftOK:SpecOK Tryz.prog (FD h) (shiftS 279):=by
  intro ρ β w vs ha _ hf;obtain ⟨v,u,rfl,hv,hu⟩:=args2 ha;obtain ⟨n,A,l,c,rfl,hq⟩:=jh0 hv;rw [jlv hu];exact ⟨trivial,(jzh 4000 _ hq (by omega) (by omega) (jf3 hf) rfl rfl rfl).mono fun e w' ⟨k1,k2⟩=>⟨k1,resD k2 rfl rfl⟩⟩
def ofS (f:FuncId):Spec:=dsp f [vz 200 false (.v 0),i64 (.v 1)] 2 (xF 1) (dA 200 true (ap2 56 (.v 0) (.v 1)) (ap2 57 (.v 0) (.v 1)))
theorem ofOK:SpecOK Tryz.prog (FD h) (ofS 44):=by
  intro ρ β w vs ha _ hf;obtain ⟨v,u,rfl,hv,hu⟩:=args2 ha;obtain ⟨n,A,l,c,rfl,hq,-⟩:=jcx (k:=200) (c:=false) (t:=.v 0) rfl hv;rw [jlv hu];exact ⟨trivial,(e_of hq (by omega) (jf3 hf) rfl rfl).mono fun e w' ⟨k1,k2⟩=>⟨k1,resD k2 rfl rfl⟩⟩
def floorS (f:FuncId):Spec:=dsp f [d0,i64 (.v 2)] 3 (xF 1) (.one (zV 325 (ap3 59 (.v 0) (.v 1) (.v 2))))
theorem floorOK:SpecOK Tryz.prog (FD h) (floorS 264):=by
  intro ρ β w vs ha _ hf;obtain ⟨v,u,rfl,hv,hu⟩:=args2 ha;obtain ⟨n,A,l,c,rfl,hq⟩:=jh0 hv;rw [jlv hu];exact ⟨trivial,(jzi 4000 _ hq (by omega) (by omega) (jf3 hf) rfl rfl).mono fun e w' ⟨k1,k2⟩=>⟨k1,resI k2 rfl⟩⟩
def ceilS (f:FuncId):Spec:=dsp f [d0,i64 (.v 2)] 3 (xF 1) (.one (zV 325 (ap3 60 (.v 0) (.v 1) (.v 2))))
theorem ceilOK:SpecOK Tryz.prog (FD h) (ceilS 265):=by
  intro ρ β w vs ha _ hf;obtain ⟨v,u,rfl,hv,hu⟩:=args2 ha;obtain ⟨n,A,l,c,rfl,hq⟩:=jh0 hv;rw [jlv hu];exact ⟨trivial,(j17 4000 _ hq (by omega) (by omega) (jf3 hf) rfl rfl).mono fun e w' ⟨k1,k2⟩=>⟨k1,resI k2 rfl⟩⟩
def subS (f:FuncId):Spec:=dsp f [d0,d2] 4 (xF 1 ++ xF 3) (dA 526 true (ap4 61 (.v 0) (.v 1) (.v 2) (.v 3)) (ap4 62 (.v 0) (.v 1) (.v 2) (.v 3)))
theorem subOK:SpecOK Tryz.prog (FD h) (subS 270):=by
  intro ρ β w vs ha _ hf;obtain ⟨v,u,rfl,hv,hu⟩:=args2 ha;obtain ⟨n,A,l,c,rfl,hq⟩:=jh0 hv;obtain ⟨n',A',l',c',rfl,hq'⟩:=jh0 hu;exact ⟨trivial,(j4e 4000 hq hq' (by omega) (by omega) (by omega) (jf3 (jbn hf)) (jf3 (jab hf)) rfl rfl rfl rfl).mono fun e w' ⟨k1,k2⟩=>⟨k1,resD k2 rfl rfl⟩⟩
def signS (f:FuncId):Spec:=dsp f [d0] 2 (xF 1) (i64 (ap2 67 (.v 0) (.v 1)))
theorem signOK:SpecOK Tryz.prog (FD h) (signS 104):=by
  intro ρ β w vs ha _ hf;obtain ⟨v,rfl,hv⟩:=args1 ha;obtain ⟨n,A,l,c,rfl,hq⟩:=jh0 hv;obtain ⟨x0,x1⟩:=jf3 hf;exact ⟨trivial,(j11 hq (by omega) (by show _≤ρ 1;omega) (by show ρ 1≤_;omega)).mono fun e w' ⟨k1,k2⟩=>⟨k1,_,k2,rfl⟩⟩
def logS (f:FuncId):Spec:=dsp f [d0] 2 (xF 1) (.tup [.sc (.i .i64 (ap2 58 (.v 0) (.v 1))),.sc (.b (ap2 68 (.v 0) (.v 1)))])
theorem logOK:SpecOK Tryz.prog (FD h) (logS 109):=by
  intro ρ β w vs ha _ hf;obtain ⟨v,rfl,hv⟩:=args1 ha;obtain ⟨n,A,l,c,rfl,hq⟩:=jh0 hv;obtain ⟨x0,x1⟩:=jf3 hf;refine ⟨trivial,(j4a hq (by omega) (by show _≤ρ 1;omega) (by show ρ 1≤_;omega)).mono fun e w' ⟨k1,k2⟩=>⟨k1,_,k2,[.int .i64 (lgN (ρ 0) (ρ 1)),.bool (lgOk (ρ 0) (ρ 1))],rfl,_,_,rfl,rfl,_,[],rfl,?_,rfl⟩⟩
  show [Value.bool (lgOk (ρ 0) (ρ 1))]=[Value.bool (b2i (lgOk (ρ 0) (ρ 1)) != 0)]
  cases lgOk (ρ 0) (ρ 1) <;> rfl
def valS (f:FuncId):Spec:=dsp f [.one (.sc (.i .u64 (.v 0)))] 1 [.le (.n 0) (.v 0),.le (.v 0) (.n 18446744073709551615)] (.tup [.ag [.z 1 false (ap1 69 (.v 0)),.i .i64 (ap1 70 (.v 0))],.sc (.i .i64 (ap1 71 (.v 0)))])
theorem valOK:SpecOK Tryz.prog (FD h) (valS 28):=by
  intro ρ β w vs ha _ hf;obtain ⟨v,rfl,hv⟩:=args1 ha;have x0:0≤ρ 0:=jaa hf.1;have x1:ρ 0≤18446744073709551615:=jaa hf.2.1;have hv2:v=.int .u64 (((ρ 0).toNat:Nat):Int):=(List.head_eq_of_cons_eq (show [v]=[Value.int .u64 (ρ 0)] from hv)).trans (by rw [Int.toNat_of_nonneg x0]);subst hv2;refine ⟨trivial,(jzc (ρ 0).toNat (by unfold W;omega)).mono fun e w' ⟨k1,n,A,l,c,k2,k3⟩=>⟨k1,_,k2,[.agg #[.bool n,.slice A l c,.int .i64 (vE (ρ 0).toNat)],.int .i64 (vX (ρ 0).toNat)],rfl,_,_,rfl,?_,_,[],rfl,rfl,rfl⟩⟩;exact ⟨[.bool n,.slice A l c,.int .i64 (vE (ρ 0).toNat)],rfl,_,[.int .i64 (vE (ρ 0).toNat)],rfl,⟨n,A,l,c,rfl,k3,fun hh=>by cases hh⟩,_,[],rfl,rfl,rfl⟩
def bofS (f:FuncId):Spec:=dsp f [d0] 2 (xF 1) (.tup [.sc (.i .u64 (ap2 72 (.v 0) (.v 1))),.sc (.i .i64 (ap2 73 (.v 0) (.v 1)))])
theorem bofOK:SpecOK Tryz.prog (FD h) (bofS 45):=by
  intro ρ β w vs ha _ hf;obtain ⟨v,rfl,hv⟩:=args1 ha;obtain ⟨n,A,l,c,rfl,hq⟩:=jh0 hv;obtain ⟨x0,x1⟩:=jf3 hf;exact ⟨trivial,(jza hq (by omega) (by show _≤ρ 1;omega) (by show ρ 1≤_;omega)).mono fun e w' ⟨k1,k2⟩=>⟨k1,_,k2,[.int .u64 (oB1 (nM (ρ 0) (ρ 1)) (nE (ρ 0) (ρ 1)):Nat),.int .i64 (oX1 (nM (ρ 0) (ρ 1)) (nE (ρ 0) (ρ 1)))],rfl,_,_,rfl,rfl,_,[],rfl,rfl,rfl⟩⟩
def b0:A:=bA 400 false (.v 0) (.v 1) (.v 2)
def b3:A:=bA 400 false (.v 3) (.v 4) (.v 5)
def bF:List T:=[.le (.n 0) (.v 2),.le (.v 2) (.n 2048),rightL (.v 0) (.v 1),rightL (.v 3) (.v 4),.eq (.v 2) (.v 5)]
theorem jet {F:Nat→List Int→Int} {ρ:Nat→Int} {a b:T} (h:(T.eq a b).bd F ρ=true):a.den F ρ=b.den F ρ:=by
  unfold T.bd at h;rw [show (T.eq a b).den F ρ=b2i (a.den F ρ == b.den F ρ) from rfl] at h
  by_cases hc:a.den F ρ=b.den F ρ
  · exact hc
  · rw [show (a.den F ρ == b.den F ρ)=false from by simpa using hc] at h
    cases h
theorem j3s {g:Nat→List Int→Int} {ρ:Nat→Int} (h:allT (stdF g) ρ bF):pairB (ρ 0) (ρ 1) (ρ 2) (ρ 3) (ρ 4) (ρ 5)=true:=by
  obtain ⟨h0,h1,h2,h3,h4,-⟩:=h;have g0:0≤ρ 2:=jaa h0;have g1:ρ 2≤2048:=jaa h1;have g2:cmpZ (ρ 0) (ρ 1)≤0:=jaa h2;have g3:cmpZ (ρ 3) (ρ 4)≤0:=jaa h3;have g4:ρ 2=ρ 5:=jet h4;rw [jce] at g2 g3;unfold pairB rightB Proofs.YtllgjggkchgpbaaGreat.mayQ;simp [g2,g3,←g4,g0,g1]
def bR (k f:Nat):A:=.tup [.ag [.z k true (ap5 f (.v 0) (.v 1) (.v 3) (.v 4) (.v 2)),.z k true (ap5 (f+1) (.v 0) (.v 1) (.v 3) (.v 4) (.v 2)),.i .i64 (.v 2)],.sc (.i .i64 (.n 0))]
def mulS (f:FuncId):Spec:=dsp f [b0,b3] 6 bF (bR 925 74)
theorem mulOK:SpecOK Tryz.prog (FD h) (mulS 272):=by
  intro ρ β w vs ha _ hf;obtain ⟨v,u,rfl,hv,hu⟩:=args2 ha;obtain ⟨n,A,l,c,n',A',l',c',rfl,q1,q2⟩:=jwh hv;obtain ⟨m,B,j,d,m',B',j',d',rfl,q3,q4⟩:=jwh hu;refine ⟨trivial,(jp5 _ _ q1 q2 q3 q4 (by omega)).mono fun e w' ⟨k1,k2⟩=>⟨k1,?_⟩⟩;rw [show pairB ((T.v 0).den (FD h) ρ) ((T.v 1).den (FD h) ρ) ((T.v 2).den (FD h) ρ) ((T.v 3).den (FD h) ρ) ((T.v 4).den (FD h) ρ) ((T.v 5).den (FD h) ρ)=true from j3s hf] at k2;exact resB k2 rfl rfl rfl rfl
def divS (f:FuncId):Spec:=dsp f [b0,b3] 6 (bF ++ [.lt (.n 0) (.mul (ap1 4 (.v 3)) (ap1 4 (.v 4)))]) (bR 434 76)
theorem divOK:SpecOK Tryz.prog (FD h) (divS 282):=by
  intro ρ β w vs ha _ hf;obtain ⟨v,u,rfl,hv,hu⟩:=args2 ha;obtain ⟨n,A,l,c,n',A',l',c',rfl,q1,q2⟩:=jwh hv;obtain ⟨m,B,j,d,m',B',j',d',rfl,q3,q4⟩:=jwh hu;have hs:0<(ρ 3).sign*(ρ 4).sign:=jco (jab hf).1;refine ⟨trivial,(jp6 _ _ q1 q2 q3 q4 (by omega)).mono fun e w' ⟨k1,k2⟩=>⟨k1,?_⟩⟩;rw [show pairB ((T.v 0).den (FD h) ρ) ((T.v 1).den (FD h) ρ) ((T.v 2).den (FD h) ρ) ((T.v 3).den (FD h) ρ) ((T.v 4).den (FD h) ρ) ((T.v 5).den (FD h) ρ)=true from j3s (jbn hf),show decide (0<((T.v 3).den (FD h) ρ).sign*((T.v 4).den (FD h) ρ).sign)=true from decide_eq_true hs] at k2;exact resB k2 rfl rfl rfl rfl
def pntS (f:FuncId):Spec:=dsp f [d0,i64 (.v 2)] 3 (xF 1 ++ [.le (.n 0) (.v 2),.le (.v 2) (.n 2048)]) (.tup [.ag [.z 325 true (ap3 59 (.v 0) (.v 1) (.v 2)),.z 325 true (ap3 60 (.v 0) (.v 1) (.v 2)),.i .i64 (.v 2)],.sc (.i .i64 (.n 0))])
theorem pntOK:SpecOK Tryz.prog (FD h) (pntS 259):=by
  intro ρ β w vs ha _ hf;obtain ⟨v,u,rfl,hv,hu⟩:=args2 ha;obtain ⟨n,A,l,c,rfl,hq⟩:=jh0 hv;rw [jlv hu];obtain ⟨x0,x1⟩:=jf3 (jbn hf);have g0:0≤ρ 2:=jaa (jab hf).1;have g1:ρ 2≤2048:=jaa (jab hf).2.1;refine ⟨trivial,(jmh _ hq (by omega) (by show _≤ρ 1;omega) (by show ρ 1≤_;omega)).mono fun e w' ⟨k1,k2⟩=>⟨k1,?_⟩⟩;rw [show Proofs.YtllgjggkchgpbaaGreat.mayQ ((T.v 2).den (FD h) ρ)=true from decide_eq_true ⟨g0,g1⟩] at k2;exact resB k2 rfl rfl rfl rfl
def smallS (f:FuncId):Spec:=dsp f [vz 600 false (.v 0)] 1 [.le (.n (-4611686018427387904)) (.v 0),.le (.v 0) (.n 4611686018427387904)] (.tup [.sc (.i .i64 (.v 0)),.sc (.b (.n 1))])
theorem smallOK:SpecOK Tryz.prog (FD h) (smallS 222):=by
  intro ρ β w vs ha _ hf;obtain ⟨v,rfl,hv⟩:=args1 ha;obtain ⟨n,A,l,c,rfl,hq,-⟩:=jcx (k:=600) (c:=false) (t:=.v 0) rfl hv;have g0 : -4611686018427387904≤ρ 0:=jaa hf.1;have g1:ρ 0≤4611686018427387904:=jaa hf.2.1;exact ⟨trivial,(jm1 hq (by omega) (by show (ρ 0).natAbs≤_;omega)).mono fun e w' ⟨k1,k2⟩=>⟨k1,_,k2,[.int .i64 (ρ 0),.bool true],rfl,_,_,rfl,rfl,_,[],rfl,rfl,rfl⟩⟩
end
def limbs (n:Nat):Nat:=n.log2 / 64+1
theorem jwi {n m:Nat} (h:n≤m):n<W^limbs m:=by
  rw [je4];refine Nat.lt_of_le_of_lt h (Nat.lt_of_lt_of_le (Nat.lt_log2_self (n:=m)) (Nat.pow_le_pow_right (by omega) ?_));unfold limbs
  omega
def shrX (fs:List T):X→X
  | .z k true t=>match iv fs t with
    | (some a,some b)=>.z (min k (limbs (max a.natAbs b.natAbs))) true t
    | _=>.z k true t
  | x=>x
def shrV (fs:List T):V1→V1
  | .sc x=>.sc x
  | .ag xs=>.ag (xs.map (shrX fs))
  | .fn f c=>.fn f c
def shrA (fs:List T):A→A
  | .one a=>.one (shrV fs a)
  | a=>a
section
variable {F:Nat→List Int→Int} {ρ:Nat→Int} {β:Nat→Nat} {P:Program} {w:World} {fs:List T}
theorem j0p (hf:allT F ρ fs) {x:X} {cs:List Value} (h:x.has F ρ β w cs):(shrX fs x).has F ρ β w cs:=by
  unfold shrX
  split
  · rename_i k t
    split
    · rename_i a b e
      have hi:=jd0 hf t;rw [e] at hi;have h1:=hi.1 a rfl;have h2:=hi.2 b rfl;obtain ⟨n,A,l,c,rfl,h3,h4⟩:=h;obtain ⟨d,k1,k2,k3,k4⟩:=h4 rfl
      have hq:QB w 0 (min k (limbs (max a.natAbs b.natAbs))) n A l c (t.den F ρ):=by
        refine ⟨d,k1,Nat.le_min.2 ⟨k2,?_⟩,k3,k4⟩;rw [k3.len];exact jwi (by omega)
      exact ⟨n,A,l,c,rfl,hq.q,fun _=>hq⟩
    · exact h
  · exact h
theorem jpj (hf:allT F ρ fs):∀{xs:List X} {cs:List Value},hasL F ρ β w xs cs→hasL F ρ β w (xs.map (shrX fs)) cs
  | [],_,h=>h
  | _::_,_,⟨c,d,h1,h2,h3⟩=>⟨c,d,h1,j0p hf h2,jpj hf h3⟩
theorem j0q (hf:allT F ρ fs) {a:A} {v:Value} (h:a.has F ρ β w v):(shrA fs a).has F ρ β w v:=by
  cases a with
  | one a=>cases a with
    | sc x=>exact h
    | ag xs=>
      obtain ⟨cs,h1,h2⟩:=h;exact ⟨cs,h1,jpj hf h2⟩
    | fn f c=>exact h
  | tup l=>exact h
  | und=>exact h
theorem jpk (hf:allT F ρ fs):∀{l:List A} {vs:List Value},hasA F ρ β w l vs→hasA F ρ β w (l.map (shrA fs)) vs
  | [],_,h=>h
  | _::_,_,⟨v,r,h1,h2,h3⟩=>⟨v,r,h1,j0q hf h2,jpk hf h3⟩
def Ctr.shr (c:Ctr P F):Ctr P F:={ c with
  inst:=fun fs bx ar=>c.inst fs bx (ar.map (shrA fs))
  ok:=fun hf hb ha hi hp=>c.ok hf hb (jpk hf ha) hi hp }
end
end V
end Go.Proofs.YtllgjggkchgpbaaGreat
