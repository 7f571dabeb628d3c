/- zed.Small, of a small one. V: dyads, patterns, balls' products: contracts from what was walked. V: the functions (elem), and looks (point): tables. Plain: what is exact (hairlinelaw09.PointExact). -/
import Derived.Test.YtcjklbakhlehhaaGreatEvs
import Derived.Test.YtcjklbakhlehhaaGreatVk
set_option linter.unusedVariables false
set_option linter.unusedSimpArgs false
namespace Go.Proofs.YtcjklbakhlehhaaGreat
section
section
open Go.RowKit
open L (val dig nth)
set_option maxHeartbeats 2000000 in
set_option maxRecDepth 100000 in
theorem jnj {w:World} {k:Nat} {n:Bool} {A:Option Addr} {len cap:Nat} {z:Int} (h:Q w k n A len cap z) (hk:k≤29000) (hz:z.natAbs≤4611686018427387904) :
    Calls Tryz.prog 124 #[.agg #[.bool n,.slice A len cap]] w fun e w'=>Below w.heap.size w w'∧e=.returned (.tuple #[.int .i64 z,.bool true]):=by
  obtain ⟨d,h1,h2,h3⟩:=h;obtain ⟨W0,hW,hbx,hB0,hs⟩:=start1 w 24 #[.bool n,.slice A len cap];have h4:=h1.up hB0;have hs2:w.heap.size<W0.heap.size:=by omega
  clear hs;obtain ⟨c0,c1,-⟩:=hbx.two;have hab:z.natAbs=val W d:=by rw [←h3,jbh]
  have HAB:=hide hab;have HZ:=hide hz;have H3:=hide h3;clear hab hz h3
  go_enter Tryz.func124,Tryz.ntmps124
  go_upto_region 1 with (fail)
  rw [←hW];clear hW
  go_wp2_with fail
  refine (jbt _ 0 _ d h4 (by omega)).mono ?_;rintro e w1 ⟨hb1,u,d',rfl,hu,hd⟩;have hbx1:=hbx.below hb1 hs2;obtain ⟨e0,e1,-⟩:=hbx1.two;have HB:=hide (hB0.trans (hb1.mono (by omega)))
  rcases Nat.eq_zero_or_pos z.natAbs with h0 | h0
  · have hd0:d'=[]:=by rw [hd.nil_iff,←HAB.out];exact h0
    subst hd0;obtain ⟨A1,cap1,rfl⟩:=hu.form;have hz0:z=0:=by omega
    have HZ0:=hide hz0;clear h0 hz0
    go_wp2
    go_ret2
    refine ⟨HB.out,?_⟩;rw [HZ0.out]
    rfl
  · obtain ⟨N,HN⟩:∃N,Hid (z.natAbs=N):=⟨_,hide rfl⟩
    have hNp:N≠0:=by have:=HN.out;omega
    have hN2:N≤4611686018427387904:=by have:=HN.out;have:=HZ.out;omega
    have hd1:=jcv (d:=d') (N:=N) (by rw [←HN.out,HAB.out];exact hd) hNp (by unfold W;omega);subst hd1;obtain ⟨A1,cap1,rfl,-,-,-,hcell⟩:=hu;obtain ⟨b1,o1,rfl,-,-,hcell1⟩:=hcell (by simp);have hcl:=hcell1 0 (by simp);simp only [Nat.add_zero] at hcl;have hcl':w1.cell? ⟨b1,o1,none⟩=some (.int .u64 (N:Int)):=by rw [hcl];simp [L.nth]
    clear hcell1 hcell hcl
    have hz1:n=decide (z<0):=by
      have h5:=H3.out;have h6:=HAB.out;have h7:=HN.out;rw [h6] at h7;unfold ival at h5;rw [h7] at h5
      cases n <;> simp at h5 ⊢ <;> omega
    have hw1:IntKind.i64.wrap ((N:Nat):Int)=((N:Nat):Int):=IntWalk.i64_in _ (by omega);have hw2:IntKind.i64.wrap (-((N:Nat):Int)) = -((N:Nat):Int):=IntWalk.i64_in _ (by omega)
    cases n with
    | true=>
      have HZ1:Hid (z = -((N:Nat):Int)):=hide (by have h8:=HN.out;have h9:z<0:=(by simpa using hz1.symm);omega);have hlt:decide (0<N)=true:=decide_eq_true (by omega);clear hz1 h0 hd
      go_wp2
      go_ret2
      refine ⟨HB.out,?_⟩;rw [HZ1.out]
      rfl
    | false=>
      have HZ1:Hid (z=((N:Nat):Int)):=hide (by have h8:=HN.out;have h9:¬ z<0:=(by simpa using hz1.symm);omega);have hlt:decide (((N:Nat):Int)<0)=false:=decide_eq_false (by omega);clear hz1 h0 hd
      go_wp2
      go_ret2
      refine ⟨HB.out,?_⟩;rw [HZ1.out]
      rfl
end
end
section
section
open Go.RowKit Go.Shelf
namespace V
def hD (h:Nat→List Int→Int):Nat→List Int→Int
  | 0,[z,x]=>nM z x
  | 1,[z,x]=>nE z x
  | 2,[z,x]=>lgN z x
  | 3,[z,x,p]=>vFloor 4000 (av 4000 z x) (nearZ p)
  | 4,[z,x,p]=>vCeil 4000 (av 4000 z x) (nearZ p)
  | 5,[z,x,u,y]=>pM (av 4000 z x - av 4000 u y)
  | 6,[z,x,u,y]=>pE (av 4000 z x - av 4000 u y) (-(4000:Nat))
  | 7,[z,x,p]=>pE (av 4000 z x) (nearZ p - (4000:Nat))
  | 8,[z,x]=>pM (av 4000 z x)
  | 9,[z,x]=>pM (-av 4000 z x)
  | 10,[z,x]=>pE (-av 4000 z x) (-(4000:Nat))
  | 11,[z,x]=>(cM z x).sign
  | 12,[z,x]=>b2i (lgOk z x)
  | 13,[b]=>vM b.toNat
  | 14,[b]=>vE b.toNat
  | 15,[b]=>vX b.toNat
  | 16,[z,x]=>(oB1 (nM z x) (nE z x):Nat)
  | 17,[z,x]=>oX1 (nM z x) (nE z x)
  | 18,[x0,x1,y0,y1,q]=>vDn (min4 (x0*y0) (x0*y1) (x1*y0) (x1*y1)) q
  | 19,[x0,x1,y0,y1,q]=>vOv (max4 (x0*y0) (x0*y1) (x1*y0) (x1*y1)) q
  | 20,[x0,x1,y0,y1,q]=>min4 (vLo q x0 y0) (vLo q x0 y1) (vLo q x1 y0) (vLo q x1 y1)
  | 21,[x0,x1,y0,y1,q]=>max4 (vHi q x0 y0) (vHi q x0 y1) (vHi q x1 y0) (vHi q x1 y1)
  | n,l=>if n<24 then 0 else h (n - 24) l
def ap5 (f:Nat) (a b c d x:T):T:=.ap f (.c a (.c b (.c c (.c d (.c x .e)))))
def dA (k:Nat) (c:Bool) (m x:T):A:=.one (.ag [.z k c m,.i .i64 x])
def bA (k:Nat) (c:Bool) (l u q:T):A:=.one (.ag [.z k c l,.z k c u,.i .i64 q])
section
variable {F:Nat→List Int→Int} {ρ:Nat→Int} {β:Nat→Nat} {P:Program} {w:World}
theorem jfa {k:Nat} {c:Bool} {m x:T} {v:Value} (h:(dA k c m x).has F ρ β w v):∃n A l c',v=.agg #[.bool n,.slice A l c',.int .i64 (x.den F ρ)]∧Q w k n A l c' (m.den F ρ):=by
  obtain ⟨cs,rfl,c1,d1,rfl,⟨n,A,l,c',rfl,h1,h2⟩,c2,d2,rfl,h3,h4⟩:=h;rw [show d2=[] from h4,show c2=[_] from h3];exact ⟨n,A,l,c',rfl,h1⟩
theorem jv5 {k:Nat} {c:Bool} {l u q:T} {v:Value} (h:(bA k c l u q).has F ρ β w v):∃n A x c' n' A' x' c'',v=.agg #[.bool n,.slice A x c',.bool n',.slice A' x' c'',.int .i64 (q.den F ρ)]∧Q w k n A x c' (l.den F ρ)∧Q w k n' A' x' c'' (u.den F ρ):=by
  obtain ⟨cs,rfl,c1,d1,rfl,⟨n,A,x,c',rfl,h1,h2⟩,c2,d2,rfl,⟨n',A',x',c'',rfl,h1',h2'⟩,c3,d3,rfl,h3,h4⟩:=h;rw [show d3=[] from h4,show c3=[_] from h3];exact ⟨n,A,x,c',n',A',x',c'',rfl,h1,h1'⟩
theorem ji6 {t:T} {v:Value} (h:(i64 t).has F ρ β w v):v=.int .i64 (t.den F ρ):=List.head_eq_of_cons_eq (show [v]=[_] from h)
theorem resD {k:Nat} {z x:Int} {e:Ending} {m t:T} (h:RetDC k z x e w) (hm:m.den F ρ=z) (ht:t.den F ρ=x):∃u,e=.returned u∧(dA k true m t).has F ρ β w u:=by
  obtain ⟨n,A,l,c,rfl,hq⟩:=h;subst hm ht;exact ⟨_,rfl,[.bool n,.slice A l c,.int .i64 (t.den F ρ)],rfl,_,[.int .i64 (t.den F ρ)],rfl,⟨n,A,l,c,rfl,hq.q,fun _=>hq⟩,_,[],rfl,rfl,rfl⟩
theorem resI {k:Nat} {z:Int} {e:Ending} {m:T} (h:RetIC k z e w) (hm:m.den F ρ=z):∃u,e=.returned u∧(A.one (zV k m)).has F ρ β w u:=by
  obtain ⟨n,A,l,c,rfl,hq⟩:=h;subst hm;exact ⟨_,rfl,[.bool n,.slice A l c],rfl,_,[],rfl,⟨n,A,l,c,rfl,hq.q,fun _=>hq⟩,rfl⟩
theorem resB {B k:Nat} {x y q er:Int} {e:Ending} {a b c d:T} (h:RetB B k x y q er e w) (ha:a.den F ρ=x) (hb:b.den F ρ=y) (hc:c.den F ρ=q) (hd:d.den F ρ=er):∃u,e=.returned u∧(A.tup [.ag [.z k true a,.z k true b,.i .i64 c],.sc (.i .i64 d)]).has F ρ β w u:=by
  obtain ⟨n,A,l,c',n',A',l',c'',rfl,hq,hq'⟩:=h;subst ha hb hc hd;refine ⟨_,rfl,[.agg #[.bool n,.slice A l c',.bool n',.slice A' l' c'',.int .i64 (c.den F ρ)],.int .i64 (d.den F ρ)],rfl,_,_,rfl,?_,_,[],rfl,rfl,rfl⟩;exact ⟨[.bool n,.slice A l c',.bool n',.slice A' l' c'',.int .i64 (c.den F ρ)],rfl,_,[.bool n',.slice A' l' c'',.int .i64 (c.den F ρ)],rfl,⟨n,A,l,c',rfl,hq.q,fun _=>hq.mono (Nat.zero_le _)⟩,_,[.int .i64 (c.den F ρ)],rfl,⟨n',A',l',c'',rfl,hq'.q,fun _=>hq'.mono (Nat.zero_le _)⟩,_,[],rfl,rfl,rfl⟩
end
theorem ja9 {F:Nat→List Int→Int} {ρ:Nat→Int}:∀{l m:List T},allT F ρ (l ++ m)→allT F ρ l
  | [],_,_=>trivial
  | _::_,_,h=>⟨h.1,ja9 h.2⟩
theorem jab {F:Nat→List Int→Int} {ρ:Nat→Int}:∀{l m:List T},allT F ρ (l ++ m)→allT F ρ m
  | [],_,h=>h
  | _::_,_,h=>jab (m:=_) h.2
def xF (i:Nat):List T:=[.le (.n (-100000)) (.v i),.le (.v i) (.n 100000)]
theorem jez {F:Nat→List Int→Int} {ρ:Nat→Int} {i:Nat} (h:allT F ρ (xF i)) : -100000≤ρ i∧ρ i≤100000:=by
  have h1 : -100000≤ρ i:=jac h.1;have h2:ρ i≤100000:=jac h.2.1;exact ⟨h1,h2⟩
def d0:A:=dA 200 false (.v 0) (.v 1)
def d2:A:=dA 200 false (.v 2) (.v 3)
def dsp (f:FuncId) (ps:List A) (n:Nat) (fs:List T) (res:A):Spec:={ f:=f,ps:=ps,bx:=[],np:=n,fs:=fs,res:=res,post:=[] }
section
variable (h:Nat→List Int→Int)
abbrev FD:Nat→List Int→Int:=stdF (gR (hC (hD h)))
def normS (f:FuncId):Spec:=dsp f [d0] 2 (xF 1) (dA 200 true (ap2 56 (.v 0) (.v 1)) (ap2 57 (.v 0) (.v 1)))
theorem normOK:SpecOK Tryz.prog (FD h) (normS 37):=by
  intro ρ β w vs ha _ hf;obtain ⟨v,rfl,hv⟩:=args1 ha;obtain ⟨n,A,l,c,rfl,hq⟩:=jfa hv;obtain ⟨x0,x1⟩:=jez hf;refine ⟨trivial,(j2f 4000 hq (by omega) (by omega) ⟨x0,x1⟩ rfl rfl rfl).mono fun e w' ⟨k1,k2⟩=>⟨k1,resD k2 ?_ ?_⟩⟩
  · exact jry 4000 _ _
  · exact jmq (by omega) _ _
def negS (f:FuncId):Spec:=dsp f [d0] 2 (xF 1) (dA 200 true (ap2 65 (.v 0) (.v 1)) (ap2 66 (.v 0) (.v 1)))
theorem negOK:SpecOK Tryz.prog (FD h) (negS 11):=by
  intro ρ β w vs ha _ hf;obtain ⟨v,rfl,hv⟩:=args1 ha;obtain ⟨n,A,l,c,rfl,hq⟩:=jfa hv;exact ⟨trivial,(j4d 4000 hq (by omega) (by omega) (jez hf) rfl rfl rfl).mono fun e w' ⟨k1,k2⟩=>⟨k1,resD k2 rfl rfl⟩⟩
def shiftS (f:FuncId):Spec:=dsp f [d0,i64 (.v 2)] 3 (xF 1) (dA 200 true (ap2 64 (.v 0) (.v 1)) (ap3 63 (.v 0) (.v 1) (.v 2)))
theorem shiftOK:SpecOK Tryz.prog (FD h) (shiftS 136):=by
  intro ρ β w vs ha _ hf;obtain ⟨v,u,rfl,hv,hu⟩:=args2 ha;obtain ⟨n,A,l,c,rfl,hq⟩:=jfa hv;rw [ji6 hu];exact ⟨trivial,(jzk 4000 _ hq (by omega) (by omega) (jez hf) rfl rfl rfl).mono fun e w' ⟨k1,k2⟩=>⟨k1,resD k2 rfl rfl⟩⟩
def ofS (f:FuncId):Spec:=dsp f [vz 200 false (.v 0),i64 (.v 1)] 2 (xF 1) (dA 200 true (ap2 56 (.v 0) (.v 1)) (ap2 57 (.v 0) (.v 1)))
theorem ofOK:SpecOK Tryz.prog (FD h) (ofS 13):=by
  intro ρ β w vs ha _ hf;obtain ⟨v,u,rfl,hv,hu⟩:=args2 ha;obtain ⟨n,A,l,c,rfl,hq,-⟩:=jcl (k:=200) (c:=false) (t:=.v 0) rfl hv;rw [ji6 hu];exact ⟨trivial,(e_of hq (by omega) (jez hf) rfl rfl).mono fun e w' ⟨k1,k2⟩=>⟨k1,resD k2 rfl rfl⟩⟩
def floorS (f:FuncId):Spec:=dsp f [d0,i64 (.v 2)] 3 (xF 1) (.one (zV 325 (ap3 59 (.v 0) (.v 1) (.v 2))))
theorem floorOK:SpecOK Tryz.prog (FD h) (floorS 40):=by
  intro ρ β w vs ha _ hf;obtain ⟨v,u,rfl,hv,hu⟩:=args2 ha;obtain ⟨n,A,l,c,rfl,hq⟩:=jfa hv;rw [ji6 hu];exact ⟨trivial,(jzl 4000 _ hq (by omega) (by omega) (jez hf) rfl rfl).mono fun e w' ⟨k1,k2⟩=>⟨k1,resI k2 rfl⟩⟩
def ceilS (f:FuncId):Spec:=dsp f [d0,i64 (.v 2)] 3 (xF 1) (.one (zV 325 (ap3 60 (.v 0) (.v 1) (.v 2))))
theorem ceilOK:SpecOK Tryz.prog (FD h) (ceilS 39):=by
  intro ρ β w vs ha _ hf;obtain ⟨v,u,rfl,hv,hu⟩:=args2 ha;obtain ⟨n,A,l,c,rfl,hq⟩:=jfa hv;rw [ji6 hu];exact ⟨trivial,(j2g 4000 _ hq (by omega) (by omega) (jez hf) rfl rfl).mono fun e w' ⟨k1,k2⟩=>⟨k1,resI k2 rfl⟩⟩
def subS (f:FuncId):Spec:=dsp f [d0,d2] 4 (xF 1 ++ xF 3) (dA 526 true (ap4 61 (.v 0) (.v 1) (.v 2) (.v 3)) (ap4 62 (.v 0) (.v 1) (.v 2) (.v 3)))
theorem subOK:SpecOK Tryz.prog (FD h) (subS 130):=by
  intro ρ β w vs ha _ hf;obtain ⟨v,u,rfl,hv,hu⟩:=args2 ha;obtain ⟨n,A,l,c,rfl,hq⟩:=jfa hv;obtain ⟨n',A',l',c',rfl,hq'⟩:=jfa hu;exact ⟨trivial,(j4b 4000 hq hq' (by omega) (by omega) (by omega) (jez (ja9 hf)) (jez (jab hf)) rfl rfl rfl rfl).mono fun e w' ⟨k1,k2⟩=>⟨k1,resD k2 rfl rfl⟩⟩
def signS (f:FuncId):Spec:=dsp f [d0] 2 (xF 1) (i64 (ap2 67 (.v 0) (.v 1)))
theorem signOK:SpecOK Tryz.prog (FD h) (signS 10):=by
  intro ρ β w vs ha _ hf;obtain ⟨v,rfl,hv⟩:=args1 ha;obtain ⟨n,A,l,c,rfl,hq⟩:=jfa hv;obtain ⟨x0,x1⟩:=jez hf;exact ⟨trivial,(j1r hq (by omega) (by show _≤ρ 1;omega) (by show ρ 1≤_;omega)).mono fun e w' ⟨k1,k2⟩=>⟨k1,_,k2,rfl⟩⟩
def logS (f:FuncId):Spec:=dsp f [d0] 2 (xF 1) (.tup [.sc (.i .i64 (ap2 58 (.v 0) (.v 1))),.sc (.b (ap2 68 (.v 0) (.v 1)))])
theorem logOK:SpecOK Tryz.prog (FD h) (logS 72):=by
  intro ρ β w vs ha _ hf;obtain ⟨v,rfl,hv⟩:=args1 ha;obtain ⟨n,A,l,c,rfl,hq⟩:=jfa hv;obtain ⟨x0,x1⟩:=jez hf;refine ⟨trivial,(j34 hq (by omega) (by show _≤ρ 1;omega) (by show ρ 1≤_;omega)).mono fun e w' ⟨k1,k2⟩=>⟨k1,_,k2,[.int .i64 (lgN (ρ 0) (ρ 1)),.bool (lgOk (ρ 0) (ρ 1))],rfl,_,_,rfl,rfl,_,[],rfl,?_,rfl⟩⟩
  show [Value.bool (lgOk (ρ 0) (ρ 1))]=[Value.bool (b2i (lgOk (ρ 0) (ρ 1)) != 0)]
  cases lgOk (ρ 0) (ρ 1) <;> rfl
def b0:A:=bA 400 false (.v 0) (.v 1) (.v 2)
def b3:A:=bA 400 false (.v 3) (.v 4) (.v 5)
def bF:List T:=[.le (.n 0) (.v 2),.le (.v 2) (.n 2048),rightL (.v 0) (.v 1),rightL (.v 3) (.v 4),.eq (.v 2) (.v 5)]
theorem jfy {F:Nat→List Int→Int} {ρ:Nat→Int} {a b:T} (h:(T.eq a b).bd F ρ=true):a.den F ρ=b.den F ρ:=by
  unfold T.bd at h;rw [show (T.eq a b).den F ρ=b2i (a.den F ρ == b.den F ρ) from rfl] at h
  by_cases hc:a.den F ρ=b.den F ρ
  · exact hc
  · rw [show (a.den F ρ == b.den F ρ)=false from by simpa using hc] at h
    cases h
theorem j24 {g:Nat→List Int→Int} {ρ:Nat→Int} (h:allT (stdF g) ρ bF):pairB (ρ 0) (ρ 1) (ρ 2) (ρ 3) (ρ 4) (ρ 5)=true:=by
  obtain ⟨h0,h1,h2,h3,h4,-⟩:=h;have g0:0≤ρ 2:=jac h0;have g1:ρ 2≤2048:=jac h1;have g2:cmpZ (ρ 0) (ρ 1)≤0:=jac h2;have g3:cmpZ (ρ 3) (ρ 4)≤0:=jac h3;have g4:ρ 2=ρ 5:=jfy h4;rw [jcd] at g2 g3;unfold pairB rightB Proofs.YtcjklbakhlehhaaGreat.mayQ;simp [g2,g3,←g4,g0,g1]
def bR (k f:Nat):A:=.tup [.ag [.z k true (ap5 f (.v 0) (.v 1) (.v 3) (.v 4) (.v 2)),.z k true (ap5 (f+1) (.v 0) (.v 1) (.v 3) (.v 4) (.v 2)),.i .i64 (.v 2)],.sc (.i .i64 (.n 0))]
def mulS (f:FuncId):Spec:=dsp f [b0,b3] 6 bF (bR 925 74)
theorem mulOK:SpecOK Tryz.prog (FD h) (mulS 19):=by
  intro ρ β w vs ha _ hf;obtain ⟨v,u,rfl,hv,hu⟩:=args2 ha;obtain ⟨n,A,l,c,n',A',l',c',rfl,q1,q2⟩:=jv5 hv;obtain ⟨m,B,j,d,m',B',j',d',rfl,q3,q4⟩:=jv5 hu;refine ⟨trivial,(jp3 _ _ q1 q2 q3 q4 (by omega)).mono fun e w' ⟨k1,k2⟩=>⟨k1,?_⟩⟩;rw [show pairB ((T.v 0).den (FD h) ρ) ((T.v 1).den (FD h) ρ) ((T.v 2).den (FD h) ρ) ((T.v 3).den (FD h) ρ) ((T.v 4).den (FD h) ρ) ((T.v 5).den (FD h) ρ)=true from j24 hf] at k2;exact resB k2 rfl rfl rfl rfl
def divS (f:FuncId):Spec:=dsp f [b0,b3] 6 (bF ++ [.lt (.n 0) (.mul (ap1 4 (.v 3)) (ap1 4 (.v 4)))]) (bR 434 76)
theorem divOK:SpecOK Tryz.prog (FD h) (divS 139):=by
  intro ρ β w vs ha _ hf;obtain ⟨v,u,rfl,hv,hu⟩:=args2 ha;obtain ⟨n,A,l,c,n',A',l',c',rfl,q1,q2⟩:=jv5 hv;obtain ⟨m,B,j,d,m',B',j',d',rfl,q3,q4⟩:=jv5 hu;have hs:0<(ρ 3).sign*(ρ 4).sign:=jca (jab hf).1;refine ⟨trivial,(jp4 _ _ q1 q2 q3 q4 (by omega)).mono fun e w' ⟨k1,k2⟩=>⟨k1,?_⟩⟩;rw [show pairB ((T.v 0).den (FD h) ρ) ((T.v 1).den (FD h) ρ) ((T.v 2).den (FD h) ρ) ((T.v 3).den (FD h) ρ) ((T.v 4).den (FD h) ρ) ((T.v 5).den (FD h) ρ)=true from j24 (ja9 hf),show decide (0<((T.v 3).den (FD h) ρ).sign*((T.v 4).den (FD h) ρ).sign)=true from decide_eq_true hs] at k2;exact resB k2 rfl rfl rfl rfl
def pntS (f:FuncId):Spec:=dsp f [d0,i64 (.v 2)] 3 (xF 1 ++ [.le (.n 0) (.v 2),.le (.v 2) (.n 2048)]) (.tup [.ag [.z 325 true (ap3 59 (.v 0) (.v 1) (.v 2)),.z 325 true (ap3 60 (.v 0) (.v 1) (.v 2)),.i .i64 (.v 2)],.sc (.i .i64 (.n 0))])
theorem pntOK:SpecOK Tryz.prog (FD h) (pntS 123):=by
  intro ρ β w vs ha _ hf;obtain ⟨v,u,rfl,hv,hu⟩:=args2 ha;obtain ⟨n,A,l,c,rfl,hq⟩:=jfa hv;rw [ji6 hu];obtain ⟨x0,x1⟩:=jez (ja9 hf);have g0:0≤ρ 2:=jac (jab hf).1;have g1:ρ 2≤2048:=jac (jab hf).2.1;refine ⟨trivial,(jmn _ hq (by omega) (by show _≤ρ 1;omega) (by show ρ 1≤_;omega)).mono fun e w' ⟨k1,k2⟩=>⟨k1,?_⟩⟩;rw [show Proofs.YtcjklbakhlehhaaGreat.mayQ ((T.v 2).den (FD h) ρ)=true from decide_eq_true ⟨g0,g1⟩] at k2;exact resB k2 rfl rfl rfl rfl
def smallS (f:FuncId):Spec:=dsp f [vz 600 false (.v 0)] 1 [.le (.n (-4611686018427387904)) (.v 0),.le (.v 0) (.n 4611686018427387904)] (.tup [.sc (.i .i64 (.v 0)),.sc (.b (.n 1))])
theorem smallOK:SpecOK Tryz.prog (FD h) (smallS 124):=by
  intro ρ β w vs ha _ hf;obtain ⟨v,rfl,hv⟩:=args1 ha;obtain ⟨n,A,l,c,rfl,hq,-⟩:=jcl (k:=600) (c:=false) (t:=.v 0) rfl hv;have g0 : -4611686018427387904≤ρ 0:=jac hf.1;have g1:ρ 0≤4611686018427387904:=jac hf.2.1;exact ⟨trivial,(jnj hq (by omega) (by show (ρ 0).natAbs≤_;omega)).mono fun e w' ⟨k1,k2⟩=>⟨k1,_,k2,[.int .i64 (ρ 0),.bool true],rfl,_,_,rfl,rfl,_,[],rfl,rfl,rfl⟩⟩
end
def limbs (n:Nat):Nat:=n.log2 / 64+1
theorem jv6 {n m:Nat} (h:n≤m):n<W^limbs m:=by
  rw [jf8];refine Nat.lt_of_le_of_lt h (Nat.lt_of_lt_of_le (Nat.lt_log2_self (n:=m)) (Nat.pow_le_pow_right (by omega) ?_));unfold limbs
  omega
def shrX (fs:List T):X→X
  | .z k true t=>match iv fs t with
    | (some a,some b)=>.z (min k (limbs (max a.natAbs b.natAbs))) true t
    | _=>.z k true t
  | x=>x
def shrV (fs:List T):V1→V1
  | .sc x=>.sc x
  | .ag xs=>.ag (xs.map (shrX fs))
  | .fn f c=>.fn f c
def shrA (fs:List T):A→A
  | .one a=>.one (shrV fs a)
  | a=>a
section
variable {F:Nat→List Int→Int} {ρ:Nat→Int} {β:Nat→Nat} {P:Program} {w:World} {fs:List T}
theorem j0d (hf:allT F ρ fs) {x:X} {cs:List Value} (h:x.has F ρ β w cs):(shrX fs x).has F ρ β w cs:=by
  unfold shrX
  split
  · rename_i k t
    split
    · rename_i a b e
      have hi:=jdq hf t;rw [e] at hi;have h1:=hi.1 a rfl;have h2:=hi.2 b rfl;obtain ⟨n,A,l,c,rfl,h3,h4⟩:=h;obtain ⟨d,k1,k2,k3,k4⟩:=h4 rfl
      have hq:QB w 0 (min k (limbs (max a.natAbs b.natAbs))) n A l c (t.den F ρ):=by
        refine ⟨d,k1,Nat.le_min.2 ⟨k2,?_⟩,k3,k4⟩;rw [k3.len];exact jv6 (by omega)
      exact ⟨n,A,l,c,rfl,hq.q,fun _=>hq⟩
    · exact h
  · exact h
theorem jpk (hf:allT F ρ fs):∀{xs:List X} {cs:List Value},hasL F ρ β w xs cs→hasL F ρ β w (xs.map (shrX fs)) cs
  | [],_,h=>h
  | _::_,_,⟨c,d,h1,h2,h3⟩=>⟨c,d,h1,j0d hf h2,jpk hf h3⟩
theorem j0e (hf:allT F ρ fs) {a:A} {v:Value} (h:a.has F ρ β w v):(shrA fs a).has F ρ β w v:=by
  cases a with
  | one a=>cases a with
    | sc x=>exact h
    | ag xs=>
      obtain ⟨cs,h1,h2⟩:=h;exact ⟨cs,h1,jpk hf h2⟩
    | fn f c=>exact h
  | tup l=>exact h
  | und=>exact h
theorem jpl (hf:allT F ρ fs):∀{l:List A} {vs:List Value},hasA F ρ β w l vs→hasA F ρ β w (l.map (shrA fs)) vs
  | [],_,h=>h
  | _::_,_,⟨v,r,h1,h2,h3⟩=>⟨v,r,h1,j0e hf h2,jpl hf h3⟩
def Ctr.shr (c:Ctr P F):Ctr P F:={ c with
  inst:=fun fs bx ar=>c.inst fs bx (ar.map (shrA fs))
  ok:=fun hf hb ha hi hp=>c.ok hf hb (jpl hf ha) hi hp }
end
end V
end
end
section
section
open Go.RowKit Go.Shelf
namespace V
section
variable (h:Nat→List Int→Int)
noncomputable def inlS (tab:List (Ctr Tryz.prog (FD h))) (f:FuncId) (he:entersB Tryz.prog f=true):Ctr Tryz.prog (FD h):=Ctr.shr (inl tab f he)
def lemS {sp:Spec} (he:entersB Tryz.prog sp.f=true) (hs:SpecOK Tryz.prog (FD h) sp):Ctr Tryz.prog (FD h):=Ctr.shr (Ctr.lem (jae he) hs)
noncomputable def dy1:List (Ctr Tryz.prog (FD h)):=
  lemS h (by kernel_rfl) (normOK h) :: -- opt
  lemS h (by kernel_rfl) (negOK h) :: -- opt
  lemS h (by kernel_rfl) (shiftOK h) :: -- opt
  lemS h (by kernel_rfl) (ofOK h) :: -- opt
  lemS h (by kernel_rfl) (floorOK h) :: -- opt
  lemS h (by kernel_rfl) (ceilOK h) :: -- opt
  lemS h (by kernel_rfl) (subOK h) :: -- opt
  lemS h (by kernel_rfl) (signOK h) :: -- opt
  lemS h (by kernel_rfl) (logOK h) :: -- opt
  lemS h (by kernel_rfl) (mulOK h) :: -- opt
  lemS h (by kernel_rfl) (divOK h) :: -- opt
  lemS h (by kernel_rfl) (pntOK h) :: -- opt
  lemS h (by kernel_rfl) (smallOK h) :: -- opt
  (cAtanh (hC (hD h))).shr :: -- opt
  inlS h (rows4 (hC (hD h))) 122 (by kernel_rfl) :: -- opt
  inlS h (rows4 (hC (hD h))) 145 (by kernel_rfl) :: -- opt
  inlS h (rows4 (hC (hD h))) 146 (by kernel_rfl) :: -- opt
  cons2 (hD h)
end
section
variable (a:Array Value) (w:World)
theorem mth0:(callMethod (Kc.ifc 97 []).val "hairline/elem.at" a).run Tryz.prog w=.ok (.enter 116 (#[Value.agg (([]:List Int).map (Value.int .i64)).toArray] ++ a)) w:=by kernel_rfl
theorem mth1:(callMethod (Kc.ifc 98 []).val "hairline/elem.at" a).run Tryz.prog w=.ok (.enter 129 (#[Value.agg (([]:List Int).map (Value.int .i64)).toArray] ++ a)) w:=by kernel_rfl
theorem mth2:(callMethod (Kc.ifc 99 []).val "hairline/elem.at" a).run Tryz.prog w=.ok (.enter 133 (#[Value.agg (([]:List Int).map (Value.int .i64)).toArray] ++ a)) w:=by kernel_rfl
theorem mth3:(callMethod (Kc.ifc 101 []).val "hairline/elem.at" a).run Tryz.prog w=.ok (.enter 142 (#[Value.agg (([]:List Int).map (Value.int .i64)).toArray] ++ a)) w:=by kernel_rfl
theorem mth4:(callMethod (Kc.ifc 103 [0]).val "hairline/elem.at" a).run Tryz.prog w=.ok (.enter 143 (#[Value.agg (([0]:List Int).map (Value.int .i64)).toArray] ++ a)) w:=by kernel_rfl
theorem mth5:(callMethod (Kc.ifc 103 [1]).val "hairline/elem.at" a).run Tryz.prog w=.ok (.enter 143 (#[Value.agg (([1]:List Int).map (Value.int .i64)).toArray] ++ a)) w:=by kernel_rfl
end
section
variable (h:Nat→List Int→Int)
noncomputable def el1 (b:List (Ctr Tryz.prog (FD h))):List (Ctr Tryz.prog (FD h)):=
  inl b 117 (by kernel_rfl) :: -- opt
  inl b 118 (by kernel_rfl) :: -- opt
  inl b 54 (by kernel_rfl) :: -- opt
  inl b 135 (by kernel_rfl) :: -- opt
  inl b 119 (by kernel_rfl) :: -- opt
  inl b 131 (by kernel_rfl) :: -- opt
  inl b 138 (by kernel_rfl) :: -- opt
  inl b 120 (by kernel_rfl) :: -- opt
  inl b 121 (by kernel_rfl) :: -- opt
  inl b 56 (by kernel_rfl) :: -- opt
  b
noncomputable def el2 (b:List (Ctr Tryz.prog (FD h))):List (Ctr Tryz.prog (FD h)):=
  inl (el1 h b) 137 (by kernel_rfl) :: -- opt
  inl (el1 h b) 115 (by kernel_rfl) :: -- opt
  el1 h b
noncomputable def el3 (b:List (Ctr Tryz.prog (FD h))):List (Ctr Tryz.prog (FD h)):=
  inl (el2 h b) 134 (by kernel_rfl) :: -- opt
  el2 h b
noncomputable def el4 (b:List (Ctr Tryz.prog (FD h))):List (Ctr Tryz.prog (FD h)):=
  (inl (el3 h b) 116 (by kernel_rfl)).meth 97 [] "hairline/elem.at" (fun w a => mth0 a w) :: -- opt
  (inl (el3 h b) 129 (by kernel_rfl)).meth 98 [] "hairline/elem.at" (fun w a => mth1 a w) :: -- opt
  (inl (el3 h b) 133 (by kernel_rfl)).meth 99 [] "hairline/elem.at" (fun w a => mth2 a w) :: -- opt
  (inl (el3 h b) 142 (by kernel_rfl)).meth 101 [] "hairline/elem.at" (fun w a => mth3 a w) :: -- opt
  (inl (el3 h b) 143 (by kernel_rfl)).meth 103 [0] "hairline/elem.at" (fun w a => mth4 a w) :: -- opt
  (inl (el3 h b) 143 (by kernel_rfl)).meth 103 [1] "hairline/elem.at" (fun w a => mth5 a w) :: -- opt
  el3 h b
noncomputable def el5 (b:List (Ctr Tryz.prog (FD h))):List (Ctr Tryz.prog (FD h)):=
  inl (el4 h b) 29 (by kernel_rfl) :: -- opt
  el4 h b
end
end V
end
end
section
section
open L (val dig nth)
namespace Px
theorem up0 {y:Int} (hy:0<y):vUp 0 y=0:=by rw [jnn hy];simp
theorem rA0 (d:Nat→Int) (T:Int):∀k,rA d T 0 k=0
  | 0=>rfl
  | k+1=>by
    show rA d T 0 k*T / d (k+1)=0
    rw [rA0 d T k,Int.zero_mul,Int.zero_ediv]
theorem rB0 {d:Nat→Int} (hd:∀k,0<d (k+1)) (T:Int):∀k,rB d T 0 k=0
  | 0=>rfl
  | k+1=>by
    show vUp (rB d T 0 k*T) (d (k+1))=0
    rw [rB0 hd T k,Int.zero_mul,up0 (hd k)]
theorem j25 {x:Int} (h1 : -4000≤x) (h2:x≤4000):cM 1 x=1:=by unfold cM;rw [if_neg (by omega)]
theorem j26 {x:Int} (h1 : -4000≤x) (h2:x≤4000):cE 1 x=x:=by unfold cE;rw [if_neg (by omega)]
theorem j27 {n:Int} (h1 : -4000≤n) (h2:n≤4000):av 4000 1 n=1*2^(n+(4000:Nat)).toNat:=by
  unfold av sv;rw [j25 h1 h2,j26 h1 h2]
theorem point_one {w:Int} (h1:0≤w) (h2:w≤4000):vFloor 4000 (av 4000 1 0) (nearZ w)=2^w.toNat∧vCeil 4000 (av 4000 1 0) (nearZ w)=2^w.toNat:=by
  have e:nearZ w=w:=by unfold nearZ;omega
  have hp:((2:Int)^4000)≠0:=Int.ne_of_gt (Int.pow_pos (by omega))
  have ea:av 4000 1 0=2^4000:=by
    rw [j27 (by omega) (by omega),Int.one_mul]
    rfl
  refine ⟨?_,?_⟩
  · unfold vFloor
    rw [e,if_pos h1,ea,Int.mul_ediv_cancel_left _ hp]
  · unfold vCeil vFloor
    rw [e,if_pos h1,ea,Int.neg_mul,←Int.mul_neg,Int.mul_ediv_cancel_left _ hp,Int.neg_neg]
end Px
end
end
end Go.Proofs.YtcjklbakhlehhaaGreat