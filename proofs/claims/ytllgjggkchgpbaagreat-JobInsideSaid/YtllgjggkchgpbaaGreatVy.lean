/- V: powers; Atanh and Atan. -/
import Derived.Test.YtllgjggkchgpbaaGreatVr
set_option linter.unusedVariables false
set_option linter.unusedSimpArgs false
namespace Go.Proofs.YtllgjggkchgpbaaGreat
open Go.RowKit Go.Shelf
open L (val dig nth)
def jb6 (t q:Int) (y:Nat) (x:Int):Int:=x*t / ((1)*2^(2*q).toNat)
def ja4 (t q:Int) (y:Nat) (x:Int):Int:=vUp (x*t) ((1)*2^(2*q).toNat)
def oddLo (y:Nat) (x:Int):Int:=x*1 / ((2*(y:Int)+1)*2^(0:Int).toNat)
def oddHi (y:Nat) (x:Int):Int:=vUp (x*1) ((2*(y:Int)+1)*2^(0:Int).toNat)
def mayR (x q n y:Int):Bool:=decide (0≤q) && (decide (q≤1200) && (decide (1≤n) && (decide (n≤400) && (decide (0≤x) && decide (x*2≤y*2^q.toNat)))))
theorem hmfR (fn:Fn) (first cap:Array Value) (w:World):(Instr.makeFunc fn first cap).run Tryz.prog w=.ok (.func fn first cap) w:=rfl
theorem jlx {x q n y:Int} (h:mayR x q n y=true):(0≤q∧q≤1200)∧(1≤n∧n≤400)∧0≤x∧x*2≤y*2^q.toNat:=by
  unfold mayR at h;simp only [Bool.and_eq_true,decide_eq_true_eq] at h;obtain ⟨h1,h2,h3,h4,h5,h6⟩:=h;exact ⟨⟨h1,h2⟩,⟨h3,h4⟩,h5,h6⟩
namespace V
def g0:Nat→List Int→Int:=fun _ _=>0
def ρ3 (n t q:Int):Nat→Int:=fun i=>if i=0 then n else if i=1 then t else q
def β2 (g p:Nat):Nat→Nat:=fun i=>if i=100 then g else p
def mayT:T:=.and (.le (.n 0) (.v 2)) (.and (.le (.v 2) (.n 1200)) (.and (.le (.n 1) (.v 0)) (.and (.le (.v 0) (.n 400)) (.and (.le (.n 0) (ap1 4 (.v 1))) (.le (ap2 5 (.mul (.v 1) (ap1 0 (.n 1))) (.mul (.n 1) (p2 (.v 2)))) (.n 0))))))
theorem jly {n t q m:Int} {g:Nat→List Int→Int} (hq:0≤q∧q≤1200) (hn:1≤n∧n≤400) (ht:0≤t) (hT:t*2≤m*2^q.toNat):allT (stdF g) (ρ3 n t q) (rowF m 400):=by
  have le:∀{a b:T},a.den (stdF g) (ρ3 n t q)≤b.den (stdF g) (ρ3 n t q)→(T.le a b).bd (stdF g) (ρ3 n t q)=true:=fun h=>by rw [bd_le];exact decide_eq_true h
  exact ⟨le hq.1,le hq.2,le (show 0≤t.sign from Int.sign_nonneg_iff.2 ht),le (show cmpZ (t*2^(1:Int).toNat) (m*2^q.toNat)≤0 from (jce _ _).2 hT),le hn.1,le hn.2,trivial⟩
section
variable {w:World} {kt:Nat} {m:Bool} {B:Option Addr} {j d:Nat} {q:Int} {g p:Nat} {N:Nat} {k0 k1:Nat} {n0 n1:Bool} {A0 A1:Option Addr} {l0 l1 c0 c1:Nat} {x0:Int}
theorem jyc (ht:Q w kt m B j d (x0*x0)) (hb1:Blk w g 26 #[.bool m,.slice B j d]) (hb2:Blk w p 3 #[.int .i64 q]) (hkt:kt≤80) {F:Nat→List Int→Int} :
    bxOK F (ρ3 N x0 q) (β2 g p) w [⟨100,26,[.z 80 false tt],true⟩,⟨101,3,[.i .i64 (.v 2)],true⟩]:=by
  have hne:g≠p:=by
    intro e;subst e;have:=hb1.symm.trans hb2;simp at this
  refine ⟨fun i b hi=>?_,fun i i' b c hi hi' hx=>?_⟩
  · simp only [getB] at hi
    split at hi
    · rename_i e
      cases hi
      have e':=Nat.eq_of_beq_eq_true e;subst e';exact ⟨[.bool m,.slice B j d],hb1,trivial,[.bool m,.slice B j d],[],rfl,⟨m,B,j,d,rfl,ht.up hkt,fun h=>by cases h⟩,rfl⟩
    · split at hi
      · rename_i e
        cases hi
        have e':=Nat.eq_of_beq_eq_true e;subst e';exact ⟨[.int .i64 q],hb2,trivial,[.int .i64 q],[],rfl,rfl,rfl⟩
      · cases hi
  · have two:∀{i:Nat} {b:Bx},getB [⟨100,26,[.z 80 false tt],true⟩,⟨101,3,[.i .i64 (.v 2)],true⟩] i=some b→i=100∨i=101:=by
      intro i b h;simp only [getB] at h
      split at h
      · rename_i e;exact .inl (Nat.eq_of_beq_eq_true e).symm
      · split at h
        · rename_i e;exact .inr (Nat.eq_of_beq_eq_true e).symm
        · cases h
    rcases two hi with rfl | rfl <;> rcases two hi' with rfl | rfl
    · exact (hx rfl).elim
    · exact hne
    · exact fun h=>hne h.symm
    · exact (hx rfl).elim
theorem jyd (h0:Q w k0 n0 A0 l0 c0 x0) (h1:Q w k1 n1 A1 l1 c1 x0) (hk0:k0≤40) (hk1:k1≤40) {F:Nat→List Int→Int} (f f':Nat) :
    hasA F (ρ3 N x0 q) (β2 g p) w [i64 (.v 0),pa 40 (.v 1) (.v 1),.one (.fn f [.p 100 0,.p 101 0]),.one (.fn f' [])] [.int .i64 (N:Nat),.agg #[.bool n0,.slice A0 l0 c0,.bool n1,.slice A1 l1 c1],.func (.func f) #[] #[.pointer (some ⟨g,0,none⟩),.pointer (some ⟨p,0,none⟩)],.func (.func f') #[] #[]]:=
  ⟨_,_,rfl,rfl,_,_,rfl,⟨[.bool n0,.slice A0 l0 c0,.bool n1,.slice A1 l1 c1],rfl,[.bool n0,.slice A0 l0 c0],[.bool n1,.slice A1 l1 c1],rfl,⟨n0,A0,l0,c0,rfl,h0.up hk0,fun h=>by cases h⟩,[.bool n1,.slice A1 l1 c1],[],rfl,⟨n1,A1,l1,c1,rfl,h1.up hk1,fun h=>by cases h⟩,rfl⟩,_,_,rfl,⟨[.pointer (some ⟨g,0,none⟩),.pointer (some ⟨p,0,none⟩)],rfl,[.pointer (some ⟨g,0,none⟩)],[.pointer (some ⟨p,0,none⟩)],rfl,rfl,[.pointer (some ⟨p,0,none⟩)],[],rfl,rfl,rfl⟩,_,_,rfl,⟨[],rfl,rfl⟩,rfl⟩
theorem vf3 {F:Nat→List Int→Int} {ρ:Nat→Int} {β:Nat→Nat} {k k':Nat} {a b c:T} {u:Value} {w:World} (h:(A.tup [zV k a,zV k' b,.sc (.i .i64 c)]).has F ρ β w u) (hk:k'≤340) :
    (Fact.t3 (Fact.z k (a.den F ρ)) (Fact.z 340 (b.den F ρ)) (Fact.eq (.int .i64 (c.den F ρ)))).holds w u:=by
  obtain ⟨vs,rfl,v1,r1,rfl,⟨cs1,rfl,e1,f1,rfl,⟨n1,A1,l1,c1,rfl,-,q1⟩,g1⟩,v2,r2,rfl,⟨cs2,rfl,e2,f2,rfl,⟨n2,A2,l2,c2,rfl,-,q2⟩,g2⟩,v3,r3,rfl,h3,h4⟩:=h;rw [show f1=[] from g1,show f2=[] from g2,show r3=[] from h4];have h5:[v3]=[Value.int .i64 (c.den F ρ)]:=h3;rw [List.head_eq_of_cons_eq h5];exact Fact.t3_mk (Fact.z_mk (q1 rfl)) (Fact.z_mk ((q2 rfl).up hk)) (Fact.eq_self _ _)
theorem rise_pow (h0:Q w k0 n0 A0 l0 c0 x0) (h1:Q w k1 n1 A1 l1 c1 x0) (ht:Q w kt m B j d (x0*x0)) (hb1:Blk w g 26 #[.bool m,.slice B j d]) (hb2:Blk w p 3 #[.int .i64 q]) (hk0:k0≤40) (hkt:kt≤80) (hq:0≤q∧q≤1200) (hn:1≤(N:Int)∧(N:Int)≤400) (hx0:0≤x0) (hT:x0*2≤1*2^q.toNat) (hk1:k1≤40:=by omega) :
    Calls Tryz.prog 208 #[.int .i64 (N:Nat),.agg #[.bool n0,.slice A0 l0 c0,.bool n1,.slice A1 l1 c1],.func (.func 224) #[] #[.pointer (some ⟨g,0,none⟩),.pointer (some ⟨p,0,none⟩)],.func (.func 210) #[] #[]] w fun e w'=>Below w.heap.size w w'∧VF (Fact.t3 (Fact.z 40 (su (fun y=>oddLo y (sq (jb6 (x0*x0) q) x0 y)) N)) (Fact.z 340 ((su (fun y=>oddHi y (sq (ja4 (x0*x0) q) x0 y)) N)+oddHi N (sq (ja4 (x0*x0) q) x0 N)*2^(1:Int).toNat)) (Fact.eq (.int .i64 0))) e w':=by
  obtain ⟨-,-,k⟩:=jv7 (jt4 g0) (fun n w0=>jfn follows_any _ n w0) (powRiseC (gR g0)) (jyd h0 h1 hk0 hk1 _ _) (jyc ht hb1 hb2 hkt) (jly hq hn hx0 hT);exact k.mono fun e w' ⟨k1,u,k2,k3⟩=>⟨k1,u,k2,vf3 k3 (by omega)⟩
theorem turn_pow (h0:Q w k0 n0 A0 l0 c0 x0) (h1:Q w k1 n1 A1 l1 c1 x0) (ht:Q w kt m B j d (x0*x0)) (hb1:Blk w g 26 #[.bool m,.slice B j d]) (hb2:Blk w p 3 #[.int .i64 q]) (hk0:k0≤40) (hkt:kt≤80) (hq:0≤q∧q≤1200) (hn:1≤(N:Int)∧(N:Int)≤400) (hx0:0≤x0) (hT:x0*2≤1*2^q.toNat) (hk1:k1≤40:=by omega) :
    Calls Tryz.prog 292 #[.int .i64 (N:Nat),.agg #[.bool n0,.slice A0 l0 c0,.bool n1,.slice A1 l1 c1],.func (.func 224) #[] #[.pointer (some ⟨g,0,none⟩),.pointer (some ⟨p,0,none⟩)],.func (.func 210) #[] #[]] w fun e w'=>Below w.heap.size w w'∧VF (Fact.t3 (Fact.z 40 (tu (fun y=>oddLo y (sq (jb6 (x0*x0) q) x0 y)) (fun y=>oddHi y (sq (ja4 (x0*x0) q) x0 y)) (2*N))) (Fact.z 340 ((tu (fun y=>oddHi y (sq (ja4 (x0*x0) q) x0 y)) (fun y=>oddLo y (sq (jb6 (x0*x0) q) x0 y)) (2*N))+oddHi (2*N) (sq (ja4 (x0*x0) q) x0 (2*N)))) (Fact.eq (.int .i64 0))) e w':=by
  have hf:allT (stdF (gR g0)) (ρ3 N x0 q) (rowF 1 400 ++ [.le n2 (.n 800)]):=jac (jly hq hn hx0 hT) ⟨by rw [bd_le];exact decide_eq_true (show 2*(N:Int)≤800 by omega),trivial⟩;obtain ⟨-,-,k⟩:=jv7 (jt4 g0) (fun n w0=>jfn follows_any _ n w0) (powTurnC (gR g0)) (jyd h0 h1 hk0 hk1 _ _) (jyc ht hb1 hb2 hkt) hf;refine k.mono fun e w' ⟨k1,u,k2,k3⟩=>⟨k1,u,k2,?_⟩
  have k4:=vf3 k3 (by omega);have e1:(2*(N:Int)).toNat=2*N:=by omega
  refine Fact.cast k4 ?_
  have f1:(row 24 n2).den (stdF (gR g0)) (ρ3 N x0 q)=tu (fun y=>oddLo y (sq (jb6 (x0*x0) q) x0 y)) (fun y=>oddHi y (sq (ja4 (x0*x0) q) x0 y)) (2*N):=by
    rw [←e1];rfl
  have f2:(row 25 n2).den (stdF (gR g0)) (ρ3 N x0 q)=tu (fun y=>oddHi y (sq (ja4 (x0*x0) q) x0 y)) (fun y=>oddLo y (sq (jb6 (x0*x0) q) x0 y)) (2*N):=by
    rw [←e1];rfl
  have f3:(ap2 3 (.mul (row 21 n2) (.n 1)) (.mul (.add (.mul (.n 2) n2) (.n 1)) (p2 (.n 0)))).den (stdF (gR g0)) (ρ3 N x0 q)=oddHi (2*N) (sq (ja4 (x0*x0) q) x0 (2*N)):=by
    show vUp (rB (dPow q) (x0*x0) x0 (2*(N:Int)).toNat*1) ((2*(2*(N:Int))+1)*2^(0:Int).toNat)=_
    rw [e1]
    show _=vUp (_*1) ((2*((2*N:Nat):Int)+1)*2^(0:Int).toNat)
    rw [show ((2*N:Nat):Int)=2*(N:Int) by omega]
    rfl
  rw [jd7,f1,f2,f3]
  rfl
theorem may_v {n:Int} (h0:Q w k0 n0 A0 l0 c0 x0) (hk0:k0≤40):Calls Tryz.prog 207 #[.agg #[.bool n0,.slice A0 l0 c0],.int .i64 q,.int .i64 n,.int .i64 1] w fun e w'=>Below w.heap.size w w'∧VF (Fact.eq (.bool (mayR x0 q n 1))) e w':=by
  have k:=(inl (stdT g0) 207 (by kernel_rfl)).ok (ρ:=ρ3 n x0 q) (β:=id) (w:=w) (fs:=[]) (bx:=[]) (ar:=[.one (.ag [.z 40 false (.v 1)]),i64 (.v 2),i64 (.v 0),i64 (.n 1)]) (vs:=[.agg #[.bool n0,.slice A0 l0 c0],.int .i64 q,.int .i64 n,.int .i64 1]) (pre:=[]) (post:=[]) (res:=.one (.sc (.b mayT))) trivial jgr
    ⟨_,_,rfl,⟨[.bool n0,.slice A0 l0 c0],rfl,[.bool n0,.slice A0 l0 c0],[],rfl,⟨n0,A0,l0,c0,rfl,h0.up hk0,fun h=>by cases h⟩,rfl⟩,_,_,rfl,rfl,_,_,rfl,rfl,_,_,rfl,rfl,rfl⟩ (by kernel_rfl) trivial
  refine k.2.mono fun e w' ⟨k1,u,k2,k3⟩=>⟨k1,u,k2,?_⟩
  have k4:[u]=[Value.bool (mayT.bd (stdF g0) (ρ3 n x0 q))]:=k3;rw [List.head_eq_of_cons_eq k4];refine (Fact.eq_mk ?_)
  congr 1
  simp only [mayT,jck,bd_le,mayR];have e5:decide ((T.n 0).den (stdF g0) (ρ3 n x0 q)≤(ap1 4 (.v 1)).den (stdF g0) (ρ3 n x0 q))=decide (0≤x0):=decide_eq_decide.2 Int.sign_nonneg_iff;have e6:decide ((ap2 5 (.mul (.v 1) (ap1 0 (.n 1))) (.mul (.n 1) (p2 (.v 2)))).den (stdF g0) (ρ3 n x0 q)≤(T.n 0).den (stdF g0) (ρ3 n x0 q))=decide (x0*2≤1*2^q.toNat):=decide_eq_decide.2 (jce _ _);rw [e5,e6]
  rfl
end
end V
def CapV (F:Fn) (k:Nat) (T q:Int) (w:World) (u:Value):Prop:=∃g p m B j d,u=.func F #[] #[.pointer (some ⟨g,0,none⟩),.pointer (some ⟨p,0,none⟩)]∧Blk w g 26 #[.bool m,.slice B j d]∧QB w 0 k m B j d T∧Blk w p 3 #[.int .i64 q]
theorem CapV.below {F:Fn} {k:Nat} {T q:Int} {w w':World} {u:Value} (h:CapV F k T q w u) (hb:Below w.heap.size w w'):CapV F k T q w' u:=by
  obtain ⟨g,p,m,B,j,d,h1,h2,h3,h4⟩:=h;exact ⟨g,p,m,B,j,d,h1,h2.below hb h2.lt,h3.ext (jau hb),h4.below hb h4.lt⟩
def F4.FactW.cap (F:Fn) (k:Nat) (T q:Int):F4.FactW:=⟨CapV F k T q,fun h hb=>h.below hb⟩
set_option maxHeartbeats 4000000 in
set_option maxRecDepth 100000 in
theorem jfq {w:World}  {k0:Nat} {n0:Bool} {A0:Option Addr} {l0 c0:Nat} {x0:Int} {q:Int} (h0:Q w k0 n0 A0 l0 c0 x0) (hk0:k0≤4000) :
    Calls Tryz.prog 209 #[.agg #[.bool n0,.slice A0 l0 c0],.int .i64 q] w fun e w'=>Below w.heap.size w w'∧∃u,e=.returned u∧CapV (.func 224) (k0+k0) (x0*x0) q w' u:=by
 go_enter Tryz.func209,Tryz.ntmps209
 have HB:Hid (Below w.heap.size w w):=hide (Below.refl _ _)
 go_upto_region 0 with (fail)
 refine F2.regionS [.al 26 #[.bool n0,.slice A0 l0 c0],.al 3 #[.int .i64 q],.o] [Fact.any,Fact.any,Fact.eq ?ca4_] [2,3,4] [2,3,4] (by kernel_rfl) ?soa ?sopa (by kernel_rfl) ?sta ?fina
 case soa=>exact fun x hx=>by cases hx
 case sopa=>exact List.Pairwise.nil
 case sta=>
  refine F2.Steps.consA rfl ⟨NoU.two nB nS,?_⟩ ?_
  ·
   intro vz wz hBz K hK;simp only [zy,F2.Wp] at hK ⊢;go_simp;exact hK
  refine F2.Steps.consA rfl ⟨NoU.one nI,?_⟩ ?_
  ·
   intro vz wz hBz K hK;simp only [zy,F2.Wp] at hK ⊢;go_simp;exact hK
  refine F2.Steps.consO rfl ?_ ?_
  ·
   intro vz wz hBz hDz hTz K hK;have HW:=hBz.ext;simp only [zy,F2.Wp] at hK ⊢;go_simp;refine hK _ wz zB (Fact.eq_mk ?_);with_reducible rfl
  exact F2.Steps.nil
 intro va w1 hBz ⟨hOz,hAz,hNz,hSz⟩;obtain ⟨g2,cs2,E2,hg2,bx2,hs2,hz2⟩:=hAz 0 _ _ (by decide) rfl;have hzz:=hz2 (F2.nost (by kernel_rfl));subst hzz;obtain ⟨g3,cs3,E3,hg3,bx3,hs3,hz3⟩:=hAz 1 _ _ (by decide) rfl;have hzz:=hz3 (F2.nost (by kernel_rfl));subst hzz;have E4:va 4=_:=hOz 2 (by decide) rfl;have hne2_3:Hid (¬ g2=g3):=hide (fun h=>hNz 0 1 _ _ _ _ (by decide) (by decide) (by decide) rfl rfl (by rw [E2,E3,h]));simp only [Act.put,actv,fill,fC,fN,tA,cS,cZ];simp only [(show va 2=_ from E2),(show va 3=_ from E3),E4];clear E2 E3 E4;have hge2:w.heap.size≤g2:=Nat.le_trans HB.out.size hg2;have hge3:w.heap.size≤g3:=Nat.le_trans HB.out.size hg3;replace h0:=h0.ext hBz.ext;replace HB:=hide (HB.out.trans (hBz.below (B:=w.heap.size) HB.out.size zE));clear hOz hAz hNz hSz hs2 hz2 hs3 hz3 hBz
 go_upto_region 1 with (fail)
 refine F2.regionS [.o,.o,.o,.al 26 #[.bool false,.slice none 0 0],.st 3] [Fact.eq ?cb6_,Fact.eq ?cb7_,Fact.z ?kb8_ ?zb8_,Fact.any,Fact.z ?kbs5_ ?zbs5_] [6,7,8,5] [6,7,8,5,0] (by kernel_rfl) ?sob ?sopb (by kernel_rfl) ?stb ?finb
 case sob=>exact fun x hx=>by cases hx
 case sopb=>exact List.Pairwise.nil
 case stb=>
  refine F2.Steps.consO rfl ?_ ?_
  ·
   intro vz wz hBz hDz hTz K hK;have HW:=hBz.ext;have bx2z:=hBz.blk bx2 zN;obtain ⟨zl0,zl1,-⟩:=bx2z.two;simp only [zy,F2.Wp] at hK ⊢;go_simp;refine hK _ wz zB (Fact.eq_mk ?_);with_reducible rfl
  refine F2.Steps.consO rfl ?_ ?_
  ·
   intro vz wz hBz hDz hTz K hK;have HW:=hBz.ext;have bx2z:=hBz.blk bx2 zN;obtain ⟨zl0,zl1,-⟩:=bx2z.two;simp only [zy,F2.Wp] at hK ⊢;go_simp;refine hK _ wz zB (Fact.eq_mk ?_);with_reducible rfl
  refine F2.Steps.consO rfl ?_ ?_
  ·
   intro vz wz hBz hDz hTz K hK;have E6:vz 6=_:=hDz 0 (by kernel_rfl) rfl;have E7:vz 7=_:=hDz 1 (by kernel_rfl) rfl;have HW:=hBz.ext;simp only [zy,F2.Wp] at hK ⊢;simp only [E6,E7] at hK ⊢;go_simp;refine Calls.mono (j3u (h0.ext HW) (h0.ext HW) (by omega) (by omega)) ?_;rintro e w2z ⟨hb2,uz,rfl,hf⟩
   go_wp2_with fail
   refine hK _ w2z hb2 (Fact.cast (hf) ?_);with_reducible rfl
  refine F2.Steps.consA rfl ⟨NoU.two nB nS,?_⟩ ?_
  ·
   intro vz wz hBz K hK;simp only [zy,F2.Wp] at hK ⊢;go_simp;exact hK
  refine F2.Steps.consS rfl rfl ?_ ?_
  ·
   intro vz wz gz hBz hDz E5' hgz hbz K hK;obtain ⟨zc0,zc1,zc2,zc3⟩:=hbz.two;obtain ⟨n8_,A8_,l8_,c8_,E8,q8⟩:IntV 0 _ _ wz (vz 8):=hDz 2 (by kernel_rfl) rfl;have E5:vz 5=.pointer (some ⟨gz,0,none⟩):=E5';have HW:=hBz.ext;simp only [zy,F2.Wp] at hK ⊢;simp only [E5,E8] at hK ⊢;go_simp;refine hK _ ((Far.set _ gz 0 _).trans (Far.set _ gz 1 _)) ⟨_,jai hbz,NoU.two nB nS,Fact.cast (Fact.z_mk q8) ?_⟩;with_reducible rfl
  exact F2.Steps.nil
 intro vb w2 hBz ⟨hOz,hAz,hNz,hSz⟩;have E6:vb 6=_:=hOz 0 (by decide) rfl;have E7:vb 7=_:=hOz 1 (by decide) rfl;obtain ⟨n8_,A8_,l8_,c8_,E8,q8⟩:IntV 0 _ _ w2 (vb 8):=hOz 2 (by decide) rfl;obtain ⟨g5,cs5,E5,hg5,bx5,hs5,hz5⟩:=hAz 3 _ _ (by decide) rfl;obtain ⟨n5sb_,A5sb_,l5sb_,c5sb_,E5sb,q5sb⟩:IntV 0 _ _ w2 (.agg cs5):=hs5 4 (by decide) rfl;injection E5sb with E5sb
 subst E5sb;simp only [Act.put,actv,fill,fC,fN,tA,cS,cZ];simp only [E6,E7,E8,(show vb 5=_ from E5)];clear E6 E7 E8 E5;have hge5:w.heap.size≤g5:=Nat.le_trans HB.out.size hg5;have hne5_2:=hide (Nat.ne_of_gt (Nat.lt_of_lt_of_le bx2.lt (show w1.heap.size≤g5 from hg5)));have hne5_3:=hide (Nat.ne_of_gt (Nat.lt_of_lt_of_le bx3.lt (show w1.heap.size≤g5 from hg5)));replace h0:=h0.ext hBz.ext;replace bx2:=hBz.blk bx2 zN;replace bx3:=hBz.blk bx3 zN;replace HB:=hide (HB.out.trans (hBz.below (B:=w.heap.size) HB.out.size zE));clear hOz hAz hNz hSz hs5 hz5 hBz
 go_upto_region 2 with (fail)
 refine F2.regionS [.o,.o] [Fact.eq ?cc9_,Fact.eq ?cc4_] [9,4] [9,4] (by kernel_rfl) ?soc ?sopc (by kernel_rfl) ?stc ?finc
 case soc=>exact fun x hx=>by cases hx
 case sopc=>exact List.Pairwise.nil
 case stc=>
  refine F2.Steps.consO rfl ?_ ?_
  ·
   intro vz wz hBz hDz hTz K hK;have HW:=hBz.ext;simp only [zy,F2.Wp] at hK ⊢;go_simp
   try simp only [hmfR]
   refine hK _ wz zB (Fact.eq_mk ?_);with_reducible rfl
  refine F2.Steps.consO rfl ?_ ?_
  ·
   intro vz wz hBz hDz hTz K hK;have E9:vz 9=_:=hDz 0 (by kernel_rfl) rfl;have HW:=hBz.ext;simp only [zy,F2.Wp] at hK ⊢;simp only [E9] at hK ⊢;go_simp;refine hK _ wz zB (Fact.eq_mk ?_);with_reducible rfl
  exact F2.Steps.nil
 intro vc w3 hBz ⟨hOz,hAz,hNz,hSz⟩;have E9:vc 9=_:=hOz 0 (by decide) rfl;have E4:vc 4=_:=hOz 1 (by decide) rfl;simp only [Act.put,actv,fill,fC,fN,tA,cS,cZ];simp only [E9,E4];clear E9 E4;replace h0:=h0.ext hBz.ext;replace q5sb:=q5sb.ext hBz.ext;replace bx2:=hBz.blk bx2 zN;replace bx3:=hBz.blk bx3 zN;replace bx5:=hBz.blk bx5 zN;replace HB:=hide (HB.out.trans (hBz.below (B:=w.heap.size) HB.out.size zE));clear hOz hAz hNz hSz hBz
 go_wp2_with fail
 go_ret
 exact ⟨HB.out,_,rfl,_,_,_,_,_,_,rfl,bx5,q5sb,bx3⟩
set_option maxHeartbeats 4000000 in
set_option maxRecDepth 100000 in
theorem jlz {w:World}  {k0:Nat} {n0:Bool} {A0:Option Addr} {l0 c0:Nat} {x0:Int} {q n:Int} (h0:Q w k0 n0 A0 l0 c0 x0) (hk0:k0≤40) :
    Calls Tryz.prog 157 #[.agg #[.bool n0,.slice A0 l0 c0],.int .i64 q,.int .i64 n] w fun e w'=>Below w.heap.size w w'∧VF (Fact.t3 (Fact.z 340 (if mayR x0 q n 1=true then atanhLo x0 q n.toNat else 0)) (Fact.z 340 (if mayR x0 q n 1=true then atanhHi x0 q n.toNat else 0)) (Fact.eq (.int .i64 (if mayR x0 q n 1=true then 0 else 1)))) e w':=by
 obtain ⟨mm,HM⟩:∃m,Hid (mayR x0 q n 1=m):=⟨_,hide rfl⟩;rw [HM.out]
 go_enter Tryz.func157,Tryz.ntmps157
 have HB:Hid (Below w.heap.size w w):=hide (Below.refl _ _)
 go_upto_region 0 with (fail)
 refine F2.regionS [.al 26 #[.bool n0,.slice A0 l0 c0],.al 26 #[.bool false,.slice none 0 0],.al 26 #[.bool false,.slice none 0 0],.o] [Fact.any,Fact.any,Fact.any,Fact.eq ?ca8_] [3,6,7,8] [3,6,7,8] (by kernel_rfl) ?soa ?sopa (by kernel_rfl) ?sta ?fina
 case soa=>exact fun x hx=>by cases hx
 case sopa=>exact List.Pairwise.nil
 case sta=>
  refine F2.Steps.consA rfl ⟨NoU.two nB nS,?_⟩ ?_
  ·
   intro vz wz hBz K hK;simp only [zy,F2.Wp] at hK ⊢;go_simp;exact hK
  refine F2.Steps.consA rfl ⟨NoU.two nB nS,?_⟩ ?_
  ·
   intro vz wz hBz K hK;simp only [zy,F2.Wp] at hK ⊢;go_simp;exact hK
  refine F2.Steps.consA rfl ⟨NoU.two nB nS,?_⟩ ?_
  ·
   intro vz wz hBz K hK;simp only [zy,F2.Wp] at hK ⊢;go_simp;exact hK
  refine F2.Steps.consO rfl ?_ ?_
  ·
   intro vz wz hBz hDz hTz K hK;have HW:=hBz.ext;simp only [zy,F2.Wp] at hK ⊢;go_simp;refine hK _ wz zB (Fact.eq_mk ?_);with_reducible rfl
  exact F2.Steps.nil
 intro va w1 hBz ⟨hOz,hAz,hNz,hSz⟩;obtain ⟨g3,cs3,E3,hg3,bx3,hs3,hz3⟩:=hAz 0 _ _ (by decide) rfl;have hzz:=hz3 (F2.nost (by kernel_rfl));subst hzz;obtain ⟨g6,cs6,E6,hg6,bx6,hs6,hz6⟩:=hAz 1 _ _ (by decide) rfl;have hzz:=hz6 (F2.nost (by kernel_rfl));subst hzz;obtain ⟨g7,cs7,E7,hg7,bx7,hs7,hz7⟩:=hAz 2 _ _ (by decide) rfl;have hzz:=hz7 (F2.nost (by kernel_rfl));subst hzz;have E8:va 8=_:=hOz 3 (by decide) rfl;have hne3_6:Hid (¬ g3=g6):=hide (fun h=>hNz 0 1 _ _ _ _ (by decide) (by decide) (by decide) rfl rfl (by rw [E3,E6,h]));have hne3_7:Hid (¬ g3=g7):=hide (fun h=>hNz 0 2 _ _ _ _ (by decide) (by decide) (by decide) rfl rfl (by rw [E3,E7,h]));have hne6_7:Hid (¬ g6=g7):=hide (fun h=>hNz 1 2 _ _ _ _ (by decide) (by decide) (by decide) rfl rfl (by rw [E6,E7,h]));simp only [Act.put,actv,fill,fC,fN,tA,cS,cZ];simp only [(show va 3=_ from E3),(show va 6=_ from E6),(show va 7=_ from E7),E8];clear E3 E6 E7 E8;have hge3:w.heap.size≤g3:=Nat.le_trans HB.out.size hg3;have hge6:w.heap.size≤g6:=Nat.le_trans HB.out.size hg6;have hge7:w.heap.size≤g7:=Nat.le_trans HB.out.size hg7;replace h0:=h0.ext hBz.ext;replace HB:=hide (HB.out.trans (hBz.below (B:=w.heap.size) HB.out.size zE));clear hOz hAz hNz hSz hs3 hz3 hs6 hz6 hs7 hz7 hBz
 go_upto_region 1 with (fail)
 refine F2.regionS [.o,.o,.o,.o,.o] [Fact.eq ?cb9_,Fact.eq ?cb10_,Fact.eq ?cb11_,Fact.eq ?cb12_,Fact.eq ?cb13_] [9,10,11,12,13] [9,10,11,12,13] (by kernel_rfl) ?sob ?sopb (by kernel_rfl) ?stb ?finb
 case sob=>exact fun x hx=>by cases hx
 case sopb=>exact List.Pairwise.nil
 case stb=>
  refine F2.Steps.consO rfl ?_ ?_
  ·
   intro vz wz hBz hDz hTz K hK;have HW:=hBz.ext;have bx3z:=hBz.blk bx3 zN;obtain ⟨zl0,zl1,-⟩:=bx3z.two;simp only [zy,F2.Wp] at hK ⊢;go_simp;refine hK _ wz zB (Fact.eq_mk ?_);with_reducible rfl
  refine F2.Steps.consO rfl ?_ ?_
  ·
   intro vz wz hBz hDz hTz K hK;have HW:=hBz.ext;simp only [zy,F2.Wp] at hK ⊢;go_simp;refine hK _ wz zB (Fact.eq_mk ?_);with_reducible rfl
  refine F2.Steps.consO rfl ?_ ?_
  ·
   intro vz wz hBz hDz hTz K hK;have HW:=hBz.ext;simp only [zy,F2.Wp] at hK ⊢;go_simp;refine hK _ wz zB (Fact.eq_mk ?_);with_reducible rfl
  refine F2.Steps.consO rfl ?_ ?_
  ·
   intro vz wz hBz hDz hTz K hK;have E9:vz 9=_:=hDz 0 (by kernel_rfl) rfl;have E10:vz 10=_:=hDz 1 (by kernel_rfl) rfl;have E11:vz 11=_:=hDz 2 (by kernel_rfl) rfl;have HW:=hBz.ext;simp only [zy,F2.Wp] at hK ⊢;simp only [E9,E10,E11] at hK ⊢;go_simp;refine Calls.mono (HM.out ▸ V.may_v (h0.ext HW) (by omega)) ?_;rintro e w2z ⟨hb2,uz,rfl,hf⟩
   go_wp2_with fail
   refine hK _ w2z hb2 (Fact.cast (hf) ?_);with_reducible rfl
  refine F2.Steps.consO rfl ?_ ?_
  ·
   intro vz wz hBz hDz hTz K hK;have E12:vz 12=_:=hDz 3 (by kernel_rfl) rfl;have HW:=hBz.ext;simp only [zy,F2.Wp] at hK ⊢;simp only [E12] at hK ⊢;go_simp;refine hK _ wz zB (Fact.eq_mk ?_);with_reducible rfl
  exact F2.Steps.nil
 intro vb w2 hBz ⟨hOz,hAz,hNz,hSz⟩;have E9:vb 9=_:=hOz 0 (by decide) rfl;have E10:vb 10=_:=hOz 1 (by decide) rfl;have E11:vb 11=_:=hOz 2 (by decide) rfl;have E12:vb 12=_:=hOz 3 (by decide) rfl;have E13:vb 13=_:=hOz 4 (by decide) rfl;simp only [Act.put,actv,fill,fC,fN,tA,cS,cZ];simp only [E9,E10,E11,E12,E13];clear E9 E10 E11 E12 E13;replace h0:=h0.ext hBz.ext;replace bx3:=hBz.blk bx3 zN;replace bx6:=hBz.blk bx6 zN;replace bx7:=hBz.blk bx7 zN;replace HB:=hide (HB.out.trans (hBz.below (B:=w.heap.size) HB.out.size zE));clear hOz hAz hNz hSz hBz
 cases mm with
 | false=>
  go_upto_region 2 with (fail)
  refine F2.regionS [.o,.o,.so (g6) 26 #[.bool false,.slice none 0 0],.so (g7) 26 #[.bool false,.slice none 0 0],.o] [Fact.eq ?cc14_,Fact.eq ?cc15_,Fact.z ?kcs6_ ?zcs6_,Fact.z ?kcs7_ ?zcs7_,Fact.eq ?cc8_] [14,15,8] [14,15,0,0,8] (by kernel_rfl) ?soc ?sopc (by kernel_rfl) ?stc ?finc
  case soc=>exact List.forall_mem_cons.2 ⟨⟨bx6,NoU.two nB nS⟩,List.forall_mem_cons.2 ⟨⟨bx7,NoU.two nB nS⟩,fun x hx=>by cases hx⟩⟩
  case sopc=>exact List.Pairwise.cons (by intro y hy;simp [F2.sos] at hy;have hne6_7:=hne6_7.out;first | (subst hy;simp;done) | (subst hy;simp;omega) | (rcases hy with rfl | rfl <;> simp <;> omega)) (List.Pairwise.cons (fun y hy=>by cases hy) (List.Pairwise.nil))
  case stc=>
   refine F2.Steps.consO rfl ?_ ?_
   ·
    intro vz wz hBz hDz hTz K hK;have HW:=hBz.ext;simp only [zy,F2.Wp] at hK ⊢;go_simp;refine hK _ wz zB (Fact.eq_mk ?_);with_reducible rfl
   refine F2.Steps.consO rfl ?_ ?_
   ·
    intro vz wz hBz hDz hTz K hK;have HW:=hBz.ext;simp only [zy,F2.Wp] at hK ⊢;go_simp;refine hK _ wz zB (Fact.eq_mk ?_);with_reducible rfl
   refine F2.Steps.consT rfl ?_ ?_
   ·
    intro vz wz hBz hDz hbz K hK;obtain ⟨zc0,zc1,zc2,zc3⟩:=hbz.two;have E14:vz 14=_:=hDz 0 (by kernel_rfl) rfl;have HW:=hBz.ext;simp only [zy,F2.Wp] at hK ⊢;simp only [E14] at hK ⊢;go_simp;refine hK _ ((Far.set _ _ 0 _).trans (Far.set _ _ 1 _)) ⟨_,jai hbz,NoU.two nB nS,Fact.cast (Fact.z_mk (QB.zero _ 0 0)) ?_⟩;with_reducible rfl
   refine F2.Steps.consT rfl ?_ ?_
   ·
    intro vz wz hBz hDz hbz K hK;obtain ⟨zc0,zc1,zc2,zc3⟩:=hbz.two;have E15:vz 15=_:=hDz 1 (by kernel_rfl) rfl;have HW:=hBz.ext;simp only [zy,F2.Wp] at hK ⊢;simp only [E15] at hK ⊢;go_simp;refine hK _ ((Far.set _ _ 0 _).trans (Far.set _ _ 1 _)) ⟨_,jai hbz,NoU.two nB nS,Fact.cast (Fact.z_mk (QB.zero _ 0 0)) ?_⟩;with_reducible rfl
   refine F2.Steps.consO rfl ?_ ?_
   ·
    intro vz wz hBz hDz hTz K hK;have HW:=hBz.ext;simp only [zy,F2.Wp] at hK ⊢;go_simp;refine hK _ wz zB (Fact.eq_mk ?_);with_reducible rfl
   exact F2.Steps.nil
  intro vc w3 hBz ⟨hOz,hAz,hNz,hSz⟩;have E14:vc 14=_:=hOz 0 (by decide) rfl;have E15:vc 15=_:=hOz 1 (by decide) rfl;obtain ⟨cs6,bx6n,hs6⟩:=hSz 2 _ _ _ (by decide) rfl;obtain ⟨n6sc_,A6sc_,l6sc_,c6sc_,E6sc,q6sc⟩:IntV 0 _ _ w3 (.agg cs6):=hs6;injection E6sc with E6sc
  subst E6sc;obtain ⟨cs7,bx7n,hs7⟩:=hSz 3 _ _ _ (by decide) rfl;obtain ⟨n7sc_,A7sc_,l7sc_,c7sc_,E7sc,q7sc⟩:IntV 0 _ _ w3 (.agg cs7):=hs7;injection E7sc with E7sc
  subst E7sc;have E8:vc 8=_:=hOz 4 (by decide) rfl;simp only [Act.put,actv,fill,fC,fN,tA,cS,cZ];simp only [E14,E15,E8];clear E14 E15 E8;replace h0:=h0.ext hBz.ext;replace bx3:=hBz.blk bx3 (zM hne3_6.out (zM hne3_7.out zN));replace HB:=hide (HB.out.trans (hBz.below (B:=w.heap.size) HB.out.size (zA hge6 (zA hge7 zE))));clear bx6;clear bx7;have bx6:=bx6n;clear bx6n;have bx7:=bx7n;clear bx7n;clear hOz hAz hNz hSz hBz
  go_wp2_with fail
  refine bodyPost_ret (jat rfl _ _ _ _ _ _ _ _ _ _ rfl bx6 rfl bx7) rfl ⟨HB.out,?_⟩;exact VF.mk (Fact.t3_mk (Fact.z_mk (q6sc.up (by omega))) (Fact.z_mk (q7sc.up (by omega))) (Fact.eq_self _ _))
 | true=>
  obtain ⟨hq,hn,ht0,hT⟩:=jlx HM.out;have HT:=hide hT;clear hT;obtain ⟨N,rfl⟩:∃N:Nat,n=(N:Int):=⟨n.toNat,by omega⟩
  go_upto_region 3 with (fail)
  refine F4.region [true,true,true,true,true,true,true,true] [.of (Fact.eq (.int .i64 (N:Nat))),.of (Fact.eq (.agg #[.bool n0,.slice A0 l0 c0])),.of (Fact.eq (.agg #[.bool n0,.slice A0 l0 c0])),.of (Fact.s_zz k0 x0 k0 x0),.of (Fact.eq (.agg #[.bool n0,.slice A0 l0 c0])),.of (Fact.eq (.int .i64 q)),.cap (.func 224) (k0+k0) (x0*x0) q,.of (Fact.t3 (Fact.z 40 (su (fun y=>oddLo y (sq (jb6 (x0*x0) q) x0 y)) N)) (Fact.z 340 (su (fun y=>oddHi y (sq (ja4 (x0*x0) q) x0 y)) N+oddHi N (sq (ja4 (x0*x0) q) x0 N)*2^(1:Int).toNat)) (Fact.eq (.int .i64 0)))] [16,17,18,19,20,21,22,23] [16,17,18,19,20,21,22,23] 6 (by kernel_rfl) (by kernel_rfl) (by kernel_rfl) (by kernel_rfl) (by decide) (by kernel_rfl) ?st1 ?fin1
  case st1=>
   refine F4.Steps.yes ?_ ?_
   ·
    intro vz wz hBz hDz K hK;have HW:=jbg (jau hBz);replace hK:=hK.out;simp only [actv,fill,Act.put,F4.fw,sZ,sS,fC,fN,tA,cS,cZ] at hK;apply Kept.mk;simp only [F2.Wp,Act.put,actv,fill,fC,fN,tA,cS,cZ];go_simp;exact hK _ wz (Below.refl _ _) rfl
   refine F4.Steps.yes ?_ ?_
   ·
    intro vz wz hBz hDz K hK;have HW:=jbg (jau hBz);have bx3z:=bx3.drew.below hBz bx3.drew.lt;obtain ⟨zl0,zl1,-⟩:=bx3z.two;replace hK:=hK.out;simp only [actv,fill,Act.put,F4.fw,sZ,sS,fC,fN,tA,cS,cZ] at hK;apply Kept.mk;simp only [F2.Wp,Act.put,actv,fill,fC,fN,tA,cS,cZ];go_simp;exact hK _ wz (Below.refl _ _) rfl
   refine F4.Steps.yes ?_ ?_
   ·
    intro vz wz hBz hDz K hK;have HW:=jbg (jau hBz);have bx3z:=bx3.drew.below hBz bx3.drew.lt;obtain ⟨zl0,zl1,-⟩:=bx3z.two;replace hK:=hK.out;simp only [actv,fill,Act.put,F4.fw,sZ,sS,fC,fN,tA,cS,cZ] at hK;apply Kept.mk;simp only [F2.Wp,Act.put,actv,fill,fC,fN,tA,cS,cZ];go_simp;exact hK _ wz (Below.refl _ _) rfl
   refine F4.Steps.yes ?_ ?_
   ·
    intro vz wz hBz hDz K hK;have E17:vz 17=_:=hDz 1 (by kernel_rfl) rfl;have E18:vz 18=_:=hDz 2 (by kernel_rfl) rfl;have HW:=jbg (jau hBz);replace hK:=hK.out;simp only [actv,fill,Act.put,F4.fw,sZ,sS,fC,fN,tA,cS,cZ] at hK;apply Kept.mk;simp only [F2.Wp,Act.put,actv,fill,fC,fN,tA,cS,cZ];simp only [E17,E18] at hK ⊢;go_simp;exact hK _ wz zB (Fact.s_zz_mk (h0.ext HW) (h0.ext HW))
   refine F4.Steps.yes ?_ ?_
   ·
    intro vz wz hBz hDz K hK;have HW:=jbg (jau hBz);have bx3z:=bx3.drew.below hBz bx3.drew.lt;obtain ⟨zl0,zl1,-⟩:=bx3z.two;replace hK:=hK.out;simp only [actv,fill,Act.put,F4.fw,sZ,sS,fC,fN,tA,cS,cZ] at hK;apply Kept.mk;simp only [F2.Wp,Act.put,actv,fill,fC,fN,tA,cS,cZ];go_simp;exact hK _ wz (Below.refl _ _) rfl
   refine F4.Steps.yes ?_ ?_
   ·
    intro vz wz hBz hDz K hK;have HW:=jbg (jau hBz);replace hK:=hK.out;simp only [actv,fill,Act.put,F4.fw,sZ,sS,fC,fN,tA,cS,cZ] at hK;apply Kept.mk;simp only [F2.Wp,Act.put,actv,fill,fC,fN,tA,cS,cZ];go_simp;exact hK _ wz (Below.refl _ _) rfl
   refine F4.Steps.yes ?_ ?_
   ·
    intro vz wz hBz hDz K hK;have E20:vz 20=_:=hDz 4 (by kernel_rfl) rfl;have E21:vz 21=_:=hDz 5 (by kernel_rfl) rfl;have HW:=jbg (jau hBz);replace hK:=hK.out;simp only [actv,fill,Act.put,F4.fw,sZ,sS,fC,fN,tA,cS,cZ] at hK;apply Kept.mk;simp only [F2.Wp,Act.put,actv,fill,fC,fN,tA,cS,cZ];simp only [E20,E21] at hK ⊢;go_simp;refine Calls.mono (jfq (h0.ext HW) (by omega)) ?_;rintro e w2z ⟨hb2,uz,rfl,hf⟩
    go_wp2_with fail
    exact hK _ w2z hb2 hf
   refine F4.Steps.yes ?_ ?_
   ·
    intro vz wz hBz hDz K hK;have E16:vz 16=_:=hDz 0 (by kernel_rfl) rfl;obtain ⟨n19a_,A19a_,l19a_,c19a_,n19b_,A19b_,l19b_,c19b_,E19,q19a,q19b⟩:jt8 _ _ _ _ wz (vz 19):=hDz 3 (by kernel_rfl) rfl;obtain ⟨g22,p22,m22,B22,j22,d22,E22,hbg,hqg,hbp⟩:CapV _ _ _ _ wz (vz 22):=hDz 6 (by kernel_rfl) rfl;have HW:=jbg (jau hBz);replace hK:=hK.out;simp only [actv,fill,Act.put,F4.fw,sZ,sS,fC,fN,tA,cS,cZ] at hK;apply Kept.mk;simp only [F2.Wp,Act.put,actv,fill,fC,fN,tA,cS,cZ];simp only [E16,E19,E22] at hK ⊢;go_simp;refine Calls.mono (V.rise_pow q19a q19b hqg.q hbg hbp (by omega) (by omega) hq hn ht0 HT.out) ?_;rintro e w2z ⟨hb2,uz,rfl,hf⟩
    go_wp2_with fail
    exact hK _ w2z hb2 hf
   refine F4.Steps.no (by kernel_rfl) ?_;refine F4.Steps.no (by kernel_rfl) ?_;refine F4.Steps.no (by kernel_rfl) ?_;refine F4.Steps.no (by kernel_rfl) ?_;refine F4.Steps.no (by kernel_rfl) ?_;refine F4.Steps.no (by kernel_rfl) ?_;exact F4.Steps.nil
  case fin1=>
   intro v1 w4 fu hB1 hO1;have E16:v1 16=_:=hO1 0 (by decide) rfl;have E17:v1 17=_:=hO1 1 (by decide) rfl;have E18:v1 18=_:=hO1 2 (by decide) rfl;obtain ⟨n19a_,A19a_,l19a_,c19a_,n19b_,A19b_,l19b_,c19b_,E19,-,-⟩:jt8 _ _ _ _ w4 (v1 19):=hO1 3 (by decide) rfl;have E20:v1 20=_:=hO1 4 (by decide) rfl;have E21:v1 21=_:=hO1 5 (by decide) rfl;obtain ⟨g22,p22,m22,B22,j22,d22,E22,-,-,-⟩:CapV _ _ _ _ w4 (v1 22):=hO1 6 (by decide) rfl;obtain ⟨x23p_,x23q_,x23r_,E23,h23p,h23q,h23r⟩:TV3 _ _ _ w4 (v1 23):=hO1 7 (by decide) rfl;obtain rfl:=Fact.eq_of h23r;obtain ⟨n230_,A230_,l230_,c230_,rfl,q230⟩:IntV 0 _ _ w4 x23p_:=h23p;obtain ⟨n231_,A231_,l231_,c231_,rfl,q231⟩:IntV 0 _ _ w4 x23q_:=h23q;simp only [Act.put,actv,fill,fC,fN,tA,cS,cZ];simp only [E16,E17,E18,E19,E20,E21,E22,E23];clear E16 E17 E18 E19 E20 E21 E22 E23 hO1;have HW:=jau hB1;replace h0:=h0.ext HW;replace bx3:=bx3.below hB1 bx3.lt;replace bx6:=bx6.below hB1 bx6.lt;replace bx7:=bx7.below hB1 bx7.lt;replace HB:=hide (HB.out.trans (hB1.mono HB.out.size));clear HW hB1;refine F2.rest (Ks:=[.l,.l,.l,.l,.l,.l,.l,.l,.o,.o,.o,.so (g6) 26 #[.bool false,.slice none 0 0],.so (g7) 26 #[.bool false,.slice none 0 0],.o]) (Fs:=[Fact.any,Fact.any,Fact.any,Fact.any,Fact.any,Fact.any,Fact.any,Fact.any,Fact.eq ?ce24_,Fact.eq ?ce25_,Fact.eq ?ce26_,Fact.z ?kes6_ ?zes6_,Fact.z ?kes7_ ?zes7_,Fact.eq ?ce8_]) (ds:=[24,25,26,8]) (ix:=[16,17,18,19,20,21,22,23,24,25,26,0,0,8]) ?soe ?sope (by kernel_rfl) (by intro i hi;match i,hi with | 0,_=>rfl | 1,_=>rfl | 2,_=>rfl | 3,_=>rfl | 4,_=>rfl | 5,_=>rfl | 6,_=>rfl | 7,_=>rfl | 8,h=>cases h | 9,h=>cases h | 10,h=>cases h | 11,h=>cases h | 12,h=>cases h | 13,h=>cases h | n+14,h=>simp [F2.kd,F2.isL] at h) ?ste ?fine _ (Nat.le_trans (Nat.le_of_eq (by kernel_rfl)) (Nat.le_add_left 6 _))
   case soe=>exact List.forall_mem_cons.2 ⟨⟨bx6,NoU.two nB nS⟩,List.forall_mem_cons.2 ⟨⟨bx7,NoU.two nB nS⟩,fun x hx=>by cases hx⟩⟩
   case sope=>exact List.Pairwise.cons (by intro y hy;simp [F2.sos] at hy;have hne6_7:=hne6_7.out;first | (subst hy;simp;done) | (subst hy;simp;omega) | (rcases hy with rfl | rfl <;> simp <;> omega)) (List.Pairwise.cons (fun y hy=>by cases hy) (List.Pairwise.nil))
   case ste=>
    refine F2.StepsL.skip (by kernel_rfl) ?_;refine F2.StepsL.skip (by kernel_rfl) ?_;refine F2.StepsL.skip (by kernel_rfl) ?_;refine F2.StepsL.skip (by kernel_rfl) ?_;refine F2.StepsL.skip (by kernel_rfl) ?_;refine F2.StepsL.skip (by kernel_rfl) ?_;refine F2.StepsL.skip (by kernel_rfl) ?_;refine F2.StepsL.skip (by kernel_rfl) ?_;refine F2.StepsL.consO rfl ?_ ?_
    ·
     intro vz wz hBz hDz hTz K hK;have HW:=hBz.ext;simp only [zy,F2.Wp] at hK ⊢;go_simp;refine hK _ wz zB (Fact.eq_mk ?_);with_reducible rfl
    refine F2.StepsL.consO rfl ?_ ?_
    ·
     intro vz wz hBz hDz hTz K hK;have HW:=hBz.ext;simp only [zy,F2.Wp] at hK ⊢;go_simp;refine hK _ wz zB (Fact.eq_mk ?_);with_reducible rfl
    refine F2.StepsL.consO rfl ?_ ?_
    ·
     intro vz wz hBz hDz hTz K hK;have HW:=hBz.ext;simp only [zy,F2.Wp] at hK ⊢;go_simp;refine hK _ wz zB (Fact.eq_mk ?_);with_reducible rfl
    refine F2.StepsL.consT rfl ?_ ?_
    ·
     intro vz wz hBz hDz hbz K hK;obtain ⟨zc0,zc1,zc2,zc3⟩:=hbz.two;have E24:vz 24=_:=hDz 8 (by kernel_rfl) rfl;have HW:=hBz.ext;simp only [zy,F2.Wp] at hK ⊢;simp only [E24] at hK ⊢;go_simp;refine hK _ ((Far.set _ _ 0 _).trans (Far.set _ _ 1 _)) ⟨_,jai hbz,NoU.two nB nS,Fact.cast (Fact.z_mk (q230.ext HW)) ?_⟩;with_reducible rfl
    refine F2.StepsL.consT rfl ?_ ?_
    ·
     intro vz wz hBz hDz hbz K hK;obtain ⟨zc0,zc1,zc2,zc3⟩:=hbz.two;have E25:vz 25=_:=hDz 9 (by kernel_rfl) rfl;have HW:=hBz.ext;simp only [zy,F2.Wp] at hK ⊢;simp only [E25] at hK ⊢;go_simp;refine hK _ ((Far.set _ _ 0 _).trans (Far.set _ _ 1 _)) ⟨_,jai hbz,NoU.two nB nS,Fact.cast (Fact.z_mk (q231.ext HW)) ?_⟩;with_reducible rfl
    refine F2.StepsL.consO rfl ?_ ?_
    ·
     intro vz wz hBz hDz hTz K hK;have E26:vz 26=_:=hDz 10 (by kernel_rfl) rfl;have HW:=hBz.ext;simp only [zy,F2.Wp] at hK ⊢;simp only [E26] at hK ⊢;go_simp;refine hK _ wz zB (Fact.eq_mk ?_);with_reducible rfl
    exact F2.StepsL.nil
   intro ve w5 hBz ⟨hOz,hAz,hNz,hSz⟩;have E24:ve 24=_:=hOz 8 (by decide) rfl;have E25:ve 25=_:=hOz 9 (by decide) rfl;have E26:ve 26=_:=hOz 10 (by decide) rfl;obtain ⟨cs6,bx6n,hs6⟩:=hSz 11 _ _ _ (by decide) rfl;obtain ⟨n6se_,A6se_,l6se_,c6se_,E6se,q6se⟩:IntV 0 _ _ w5 (.agg cs6):=hs6;injection E6se with E6se
   subst E6se;obtain ⟨cs7,bx7n,hs7⟩:=hSz 12 _ _ _ (by decide) rfl;obtain ⟨n7se_,A7se_,l7se_,c7se_,E7se,q7se⟩:IntV 0 _ _ w5 (.agg cs7):=hs7;injection E7se with E7se
   subst E7se;have E8:ve 8=_:=hOz 13 (by decide) rfl;simp only [Act.put,actv,fill,fC,fN,tA,cS,cZ];simp only [E24,E25,E26,E8];clear E24 E25 E26 E8;replace h0:=h0.ext hBz.ext;replace bx3:=hBz.blk bx3 (zM hne3_6.out (zM hne3_7.out zN));replace HB:=hide (HB.out.trans (hBz.below (B:=w.heap.size) HB.out.size (zA hge6 (zA hge7 zE))));clear bx6;clear bx7;have bx6:=bx6n;clear bx6n;have bx7:=bx7n;clear bx7n;clear hOz hAz hNz hSz hBz
   go_wp2_with fail
   refine bodyPost_ret (jat rfl _ _ _ _ _ _ _ _ _ _ rfl bx6 rfl bx7) rfl ⟨HB.out,?_⟩;exact VF.mk (Fact.t3_mk (Fact.z_mk (q6se.up (by omega))) (Fact.z_mk (q7se.up (by omega))) (Fact.eq_self _ _))
set_option maxHeartbeats 4000000 in
set_option maxRecDepth 100000 in
theorem jnf {w:World}  {k0:Nat} {n0:Bool} {A0:Option Addr} {l0 c0:Nat} {x0:Int} {q n:Int} (h0:Q w k0 n0 A0 l0 c0 x0) (hk0:k0≤40) :
    Calls Tryz.prog 291 #[.agg #[.bool n0,.slice A0 l0 c0],.int .i64 q,.int .i64 n] w fun e w'=>Below w.heap.size w w'∧VF (Fact.t3 (Fact.z 340 (if mayR x0 q n 1=true then atanLo x0 q n.toNat else 0)) (Fact.z 340 (if mayR x0 q n 1=true then atanHi x0 q n.toNat else 0)) (Fact.eq (.int .i64 (if mayR x0 q n 1=true then 0 else 1)))) e w':=by
 obtain ⟨mm,HM⟩:∃m,Hid (mayR x0 q n 1=m):=⟨_,hide rfl⟩;rw [HM.out]
 go_enter Tryz.func291,Tryz.ntmps291
 have HB:Hid (Below w.heap.size w w):=hide (Below.refl _ _)
 go_upto_region 0 with (fail)
 refine F2.regionS [.al 26 #[.bool n0,.slice A0 l0 c0],.al 26 #[.bool false,.slice none 0 0],.al 26 #[.bool false,.slice none 0 0],.o] [Fact.any,Fact.any,Fact.any,Fact.eq ?ca8_] [3,6,7,8] [3,6,7,8] (by kernel_rfl) ?soa ?sopa (by kernel_rfl) ?sta ?fina
 case soa=>exact fun x hx=>by cases hx
 case sopa=>exact List.Pairwise.nil
 case sta=>
  refine F2.Steps.consA rfl ⟨NoU.two nB nS,?_⟩ ?_
  ·
   intro vz wz hBz K hK;simp only [zy,F2.Wp] at hK ⊢;go_simp;exact hK
  refine F2.Steps.consA rfl ⟨NoU.two nB nS,?_⟩ ?_
  ·
   intro vz wz hBz K hK;simp only [zy,F2.Wp] at hK ⊢;go_simp;exact hK
  refine F2.Steps.consA rfl ⟨NoU.two nB nS,?_⟩ ?_
  ·
   intro vz wz hBz K hK;simp only [zy,F2.Wp] at hK ⊢;go_simp;exact hK
  refine F2.Steps.consO rfl ?_ ?_
  ·
   intro vz wz hBz hDz hTz K hK;have HW:=hBz.ext;simp only [zy,F2.Wp] at hK ⊢;go_simp;refine hK _ wz zB (Fact.eq_mk ?_);with_reducible rfl
  exact F2.Steps.nil
 intro va w1 hBz ⟨hOz,hAz,hNz,hSz⟩;obtain ⟨g3,cs3,E3,hg3,bx3,hs3,hz3⟩:=hAz 0 _ _ (by decide) rfl;have hzz:=hz3 (F2.nost (by kernel_rfl));subst hzz;obtain ⟨g6,cs6,E6,hg6,bx6,hs6,hz6⟩:=hAz 1 _ _ (by decide) rfl;have hzz:=hz6 (F2.nost (by kernel_rfl));subst hzz;obtain ⟨g7,cs7,E7,hg7,bx7,hs7,hz7⟩:=hAz 2 _ _ (by decide) rfl;have hzz:=hz7 (F2.nost (by kernel_rfl));subst hzz;have E8:va 8=_:=hOz 3 (by decide) rfl;have hne3_6:Hid (¬ g3=g6):=hide (fun h=>hNz 0 1 _ _ _ _ (by decide) (by decide) (by decide) rfl rfl (by rw [E3,E6,h]));have hne3_7:Hid (¬ g3=g7):=hide (fun h=>hNz 0 2 _ _ _ _ (by decide) (by decide) (by decide) rfl rfl (by rw [E3,E7,h]));have hne6_7:Hid (¬ g6=g7):=hide (fun h=>hNz 1 2 _ _ _ _ (by decide) (by decide) (by decide) rfl rfl (by rw [E6,E7,h]));simp only [Act.put,actv,fill,fC,fN,tA,cS,cZ];simp only [(show va 3=_ from E3),(show va 6=_ from E6),(show va 7=_ from E7),E8];clear E3 E6 E7 E8;have hge3:w.heap.size≤g3:=Nat.le_trans HB.out.size hg3;have hge6:w.heap.size≤g6:=Nat.le_trans HB.out.size hg6;have hge7:w.heap.size≤g7:=Nat.le_trans HB.out.size hg7;replace h0:=h0.ext hBz.ext;replace HB:=hide (HB.out.trans (hBz.below (B:=w.heap.size) HB.out.size zE));clear hOz hAz hNz hSz hs3 hz3 hs6 hz6 hs7 hz7 hBz
 go_upto_region 1 with (fail)
 refine F2.regionS [.o,.o,.o,.o,.o] [Fact.eq ?cb9_,Fact.eq ?cb10_,Fact.eq ?cb11_,Fact.eq ?cb12_,Fact.eq ?cb13_] [9,10,11,12,13] [9,10,11,12,13] (by kernel_rfl) ?sob ?sopb (by kernel_rfl) ?stb ?finb
 case sob=>exact fun x hx=>by cases hx
 case sopb=>exact List.Pairwise.nil
 case stb=>
  refine F2.Steps.consO rfl ?_ ?_
  ·
   intro vz wz hBz hDz hTz K hK;have HW:=hBz.ext;have bx3z:=hBz.blk bx3 zN;obtain ⟨zl0,zl1,-⟩:=bx3z.two;simp only [zy,F2.Wp] at hK ⊢;go_simp;refine hK _ wz zB (Fact.eq_mk ?_);with_reducible rfl
  refine F2.Steps.consO rfl ?_ ?_
  ·
   intro vz wz hBz hDz hTz K hK;have HW:=hBz.ext;simp only [zy,F2.Wp] at hK ⊢;go_simp;refine hK _ wz zB (Fact.eq_mk ?_);with_reducible rfl
  refine F2.Steps.consO rfl ?_ ?_
  ·
   intro vz wz hBz hDz hTz K hK;have HW:=hBz.ext;simp only [zy,F2.Wp] at hK ⊢;go_simp;refine hK _ wz zB (Fact.eq_mk ?_);with_reducible rfl
  refine F2.Steps.consO rfl ?_ ?_
  ·
   intro vz wz hBz hDz hTz K hK;have E9:vz 9=_:=hDz 0 (by kernel_rfl) rfl;have E10:vz 10=_:=hDz 1 (by kernel_rfl) rfl;have E11:vz 11=_:=hDz 2 (by kernel_rfl) rfl;have HW:=hBz.ext;simp only [zy,F2.Wp] at hK ⊢;simp only [E9,E10,E11] at hK ⊢;go_simp;refine Calls.mono (HM.out ▸ V.may_v (h0.ext HW) (by omega)) ?_;rintro e w2z ⟨hb2,uz,rfl,hf⟩
   go_wp2_with fail
   refine hK _ w2z hb2 (Fact.cast (hf) ?_);with_reducible rfl
  refine F2.Steps.consO rfl ?_ ?_
  ·
   intro vz wz hBz hDz hTz K hK;have E12:vz 12=_:=hDz 3 (by kernel_rfl) rfl;have HW:=hBz.ext;simp only [zy,F2.Wp] at hK ⊢;simp only [E12] at hK ⊢;go_simp;refine hK _ wz zB (Fact.eq_mk ?_);with_reducible rfl
  exact F2.Steps.nil
 intro vb w2 hBz ⟨hOz,hAz,hNz,hSz⟩;have E9:vb 9=_:=hOz 0 (by decide) rfl;have E10:vb 10=_:=hOz 1 (by decide) rfl;have E11:vb 11=_:=hOz 2 (by decide) rfl;have E12:vb 12=_:=hOz 3 (by decide) rfl;have E13:vb 13=_:=hOz 4 (by decide) rfl;simp only [Act.put,actv,fill,fC,fN,tA,cS,cZ];simp only [E9,E10,E11,E12,E13];clear E9 E10 E11 E12 E13;replace h0:=h0.ext hBz.ext;replace bx3:=hBz.blk bx3 zN;replace bx6:=hBz.blk bx6 zN;replace bx7:=hBz.blk bx7 zN;replace HB:=hide (HB.out.trans (hBz.below (B:=w.heap.size) HB.out.size zE));clear hOz hAz hNz hSz hBz
 cases mm with
 | false=>
  go_upto_region 2 with (fail)
  refine F2.regionS [.o,.o,.so (g6) 26 #[.bool false,.slice none 0 0],.so (g7) 26 #[.bool false,.slice none 0 0],.o] [Fact.eq ?cc14_,Fact.eq ?cc15_,Fact.z ?kcs6_ ?zcs6_,Fact.z ?kcs7_ ?zcs7_,Fact.eq ?cc8_] [14,15,8] [14,15,0,0,8] (by kernel_rfl) ?soc ?sopc (by kernel_rfl) ?stc ?finc
  case soc=>exact List.forall_mem_cons.2 ⟨⟨bx6,NoU.two nB nS⟩,List.forall_mem_cons.2 ⟨⟨bx7,NoU.two nB nS⟩,fun x hx=>by cases hx⟩⟩
  case sopc=>exact List.Pairwise.cons (by intro y hy;simp [F2.sos] at hy;have hne6_7:=hne6_7.out;first | (subst hy;simp;done) | (subst hy;simp;omega) | (rcases hy with rfl | rfl <;> simp <;> omega)) (List.Pairwise.cons (fun y hy=>by cases hy) (List.Pairwise.nil))
  case stc=>
   refine F2.Steps.consO rfl ?_ ?_
   ·
    intro vz wz hBz hDz hTz K hK;have HW:=hBz.ext;simp only [zy,F2.Wp] at hK ⊢;go_simp;refine hK _ wz zB (Fact.eq_mk ?_);with_reducible rfl
   refine F2.Steps.consO rfl ?_ ?_
   ·
    intro vz wz hBz hDz hTz K hK;have HW:=hBz.ext;simp only [zy,F2.Wp] at hK ⊢;go_simp;refine hK _ wz zB (Fact.eq_mk ?_);with_reducible rfl
   refine F2.Steps.consT rfl ?_ ?_
   ·
    intro vz wz hBz hDz hbz K hK;obtain ⟨zc0,zc1,zc2,zc3⟩:=hbz.two;have E14:vz 14=_:=hDz 0 (by kernel_rfl) rfl;have HW:=hBz.ext;simp only [zy,F2.Wp] at hK ⊢;simp only [E14] at hK ⊢;go_simp;refine hK _ ((Far.set _ _ 0 _).trans (Far.set _ _ 1 _)) ⟨_,jai hbz,NoU.two nB nS,Fact.cast (Fact.z_mk (QB.zero _ 0 0)) ?_⟩;with_reducible rfl
   refine F2.Steps.consT rfl ?_ ?_
   ·
    intro vz wz hBz hDz hbz K hK;obtain ⟨zc0,zc1,zc2,zc3⟩:=hbz.two;have E15:vz 15=_:=hDz 1 (by kernel_rfl) rfl;have HW:=hBz.ext;simp only [zy,F2.Wp] at hK ⊢;simp only [E15] at hK ⊢;go_simp;refine hK _ ((Far.set _ _ 0 _).trans (Far.set _ _ 1 _)) ⟨_,jai hbz,NoU.two nB nS,Fact.cast (Fact.z_mk (QB.zero _ 0 0)) ?_⟩;with_reducible rfl
   refine F2.Steps.consO rfl ?_ ?_
   ·
    intro vz wz hBz hDz hTz K hK;have HW:=hBz.ext;simp only [zy,F2.Wp] at hK ⊢;go_simp;refine hK _ wz zB (Fact.eq_mk ?_);with_reducible rfl
   exact F2.Steps.nil
  intro vc w3 hBz ⟨hOz,hAz,hNz,hSz⟩;have E14:vc 14=_:=hOz 0 (by decide) rfl;have E15:vc 15=_:=hOz 1 (by decide) rfl;obtain ⟨cs6,bx6n,hs6⟩:=hSz 2 _ _ _ (by decide) rfl;obtain ⟨n6sc_,A6sc_,l6sc_,c6sc_,E6sc,q6sc⟩:IntV 0 _ _ w3 (.agg cs6):=hs6;injection E6sc with E6sc
  subst E6sc;obtain ⟨cs7,bx7n,hs7⟩:=hSz 3 _ _ _ (by decide) rfl;obtain ⟨n7sc_,A7sc_,l7sc_,c7sc_,E7sc,q7sc⟩:IntV 0 _ _ w3 (.agg cs7):=hs7;injection E7sc with E7sc
  subst E7sc;have E8:vc 8=_:=hOz 4 (by decide) rfl;simp only [Act.put,actv,fill,fC,fN,tA,cS,cZ];simp only [E14,E15,E8];clear E14 E15 E8;replace h0:=h0.ext hBz.ext;replace bx3:=hBz.blk bx3 (zM hne3_6.out (zM hne3_7.out zN));replace HB:=hide (HB.out.trans (hBz.below (B:=w.heap.size) HB.out.size (zA hge6 (zA hge7 zE))));clear bx6;clear bx7;have bx6:=bx6n;clear bx6n;have bx7:=bx7n;clear bx7n;clear hOz hAz hNz hSz hBz
  go_wp2_with fail
  refine bodyPost_ret (jat rfl _ _ _ _ _ _ _ _ _ _ rfl bx6 rfl bx7) rfl ⟨HB.out,?_⟩;exact VF.mk (Fact.t3_mk (Fact.z_mk (q6sc.up (by omega))) (Fact.z_mk (q7sc.up (by omega))) (Fact.eq_self _ _))
 | true=>
  obtain ⟨hq,hn,ht0,hT⟩:=jlx HM.out;have HT:=hide hT;clear hT;obtain ⟨N,rfl⟩:∃N:Nat,n=(N:Int):=⟨n.toNat,by omega⟩
  go_upto_region 3 with (fail)
  refine F4.region [true,true,true,true,true,true,true,true] [.of (Fact.eq (.int .i64 (N:Nat))),.of (Fact.eq (.agg #[.bool n0,.slice A0 l0 c0])),.of (Fact.eq (.agg #[.bool n0,.slice A0 l0 c0])),.of (Fact.s_zz k0 x0 k0 x0),.of (Fact.eq (.agg #[.bool n0,.slice A0 l0 c0])),.of (Fact.eq (.int .i64 q)),.cap (.func 224) (k0+k0) (x0*x0) q,.of (Fact.t3 (Fact.z 40 (tu (fun y=>oddLo y (sq (jb6 (x0*x0) q) x0 y)) (fun y=>oddHi y (sq (ja4 (x0*x0) q) x0 y)) (2*N))) (Fact.z 340 (tu (fun y=>oddHi y (sq (ja4 (x0*x0) q) x0 y)) (fun y=>oddLo y (sq (jb6 (x0*x0) q) x0 y)) (2*N)+oddHi (2*N) (sq (ja4 (x0*x0) q) x0 (2*N)))) (Fact.eq (.int .i64 0)))] [16,17,18,19,20,21,22,23] [16,17,18,19,20,21,22,23] 6 (by kernel_rfl) (by kernel_rfl) (by kernel_rfl) (by kernel_rfl) (by decide) (by kernel_rfl) ?st1 ?fin1
  case st1=>
   refine F4.Steps.yes ?_ ?_
   ·
    intro vz wz hBz hDz K hK;have HW:=jbg (jau hBz);replace hK:=hK.out;simp only [actv,fill,Act.put,F4.fw,sZ,sS,fC,fN,tA,cS,cZ] at hK;apply Kept.mk;simp only [F2.Wp,Act.put,actv,fill,fC,fN,tA,cS,cZ];go_simp;exact hK _ wz (Below.refl _ _) rfl
   refine F4.Steps.yes ?_ ?_
   ·
    intro vz wz hBz hDz K hK;have HW:=jbg (jau hBz);have bx3z:=bx3.drew.below hBz bx3.drew.lt;obtain ⟨zl0,zl1,-⟩:=bx3z.two;replace hK:=hK.out;simp only [actv,fill,Act.put,F4.fw,sZ,sS,fC,fN,tA,cS,cZ] at hK;apply Kept.mk;simp only [F2.Wp,Act.put,actv,fill,fC,fN,tA,cS,cZ];go_simp;exact hK _ wz (Below.refl _ _) rfl
   refine F4.Steps.yes ?_ ?_
   ·
    intro vz wz hBz hDz K hK;have HW:=jbg (jau hBz);have bx3z:=bx3.drew.below hBz bx3.drew.lt;obtain ⟨zl0,zl1,-⟩:=bx3z.two;replace hK:=hK.out;simp only [actv,fill,Act.put,F4.fw,sZ,sS,fC,fN,tA,cS,cZ] at hK;apply Kept.mk;simp only [F2.Wp,Act.put,actv,fill,fC,fN,tA,cS,cZ];go_simp;exact hK _ wz (Below.refl _ _) rfl
   refine F4.Steps.yes ?_ ?_
   ·
    intro vz wz hBz hDz K hK;have E17:vz 17=_:=hDz 1 (by kernel_rfl) rfl;have E18:vz 18=_:=hDz 2 (by kernel_rfl) rfl;have HW:=jbg (jau hBz);replace hK:=hK.out;simp only [actv,fill,Act.put,F4.fw,sZ,sS,fC,fN,tA,cS,cZ] at hK;apply Kept.mk;simp only [F2.Wp,Act.put,actv,fill,fC,fN,tA,cS,cZ];simp only [E17,E18] at hK ⊢;go_simp;exact hK _ wz zB (Fact.s_zz_mk (h0.ext HW) (h0.ext HW))
   refine F4.Steps.yes ?_ ?_
   ·
    intro vz wz hBz hDz K hK;have HW:=jbg (jau hBz);have bx3z:=bx3.drew.below hBz bx3.drew.lt;obtain ⟨zl0,zl1,-⟩:=bx3z.two;replace hK:=hK.out;simp only [actv,fill,Act.put,F4.fw,sZ,sS,fC,fN,tA,cS,cZ] at hK;apply Kept.mk;simp only [F2.Wp,Act.put,actv,fill,fC,fN,tA,cS,cZ];go_simp;exact hK _ wz (Below.refl _ _) rfl
   refine F4.Steps.yes ?_ ?_
   ·
    intro vz wz hBz hDz K hK;have HW:=jbg (jau hBz);replace hK:=hK.out;simp only [actv,fill,Act.put,F4.fw,sZ,sS,fC,fN,tA,cS,cZ] at hK;apply Kept.mk;simp only [F2.Wp,Act.put,actv,fill,fC,fN,tA,cS,cZ];go_simp;exact hK _ wz (Below.refl _ _) rfl
   refine F4.Steps.yes ?_ ?_
   ·
    intro vz wz hBz hDz K hK;have E20:vz 20=_:=hDz 4 (by kernel_rfl) rfl;have E21:vz 21=_:=hDz 5 (by kernel_rfl) rfl;have HW:=jbg (jau hBz);replace hK:=hK.out;simp only [actv,fill,Act.put,F4.fw,sZ,sS,fC,fN,tA,cS,cZ] at hK;apply Kept.mk;simp only [F2.Wp,Act.put,actv,fill,fC,fN,tA,cS,cZ];simp only [E20,E21] at hK ⊢;go_simp;refine Calls.mono (jfq (h0.ext HW) (by omega)) ?_;rintro e w2z ⟨hb2,uz,rfl,hf⟩
    go_wp2_with fail
    exact hK _ w2z hb2 hf
   refine F4.Steps.yes ?_ ?_
   ·
    intro vz wz hBz hDz K hK;have E16:vz 16=_:=hDz 0 (by kernel_rfl) rfl;obtain ⟨n19a_,A19a_,l19a_,c19a_,n19b_,A19b_,l19b_,c19b_,E19,q19a,q19b⟩:jt8 _ _ _ _ wz (vz 19):=hDz 3 (by kernel_rfl) rfl;obtain ⟨g22,p22,m22,B22,j22,d22,E22,hbg,hqg,hbp⟩:CapV _ _ _ _ wz (vz 22):=hDz 6 (by kernel_rfl) rfl;have HW:=jbg (jau hBz);replace hK:=hK.out;simp only [actv,fill,Act.put,F4.fw,sZ,sS,fC,fN,tA,cS,cZ] at hK;apply Kept.mk;simp only [F2.Wp,Act.put,actv,fill,fC,fN,tA,cS,cZ];simp only [E16,E19,E22] at hK ⊢;go_simp;refine Calls.mono (V.turn_pow q19a q19b hqg.q hbg hbp (by omega) (by omega) hq hn ht0 HT.out) ?_;rintro e w2z ⟨hb2,uz,rfl,hf⟩
    go_wp2_with fail
    exact hK _ w2z hb2 hf
   refine F4.Steps.no (by kernel_rfl) ?_;refine F4.Steps.no (by kernel_rfl) ?_;refine F4.Steps.no (by kernel_rfl) ?_;refine F4.Steps.no (by kernel_rfl) ?_;refine F4.Steps.no (by kernel_rfl) ?_;refine F4.Steps.no (by kernel_rfl) ?_;exact F4.Steps.nil
  case fin1=>
   intro v1 w4 fu hB1 hO1;have E16:v1 16=_:=hO1 0 (by decide) rfl;have E17:v1 17=_:=hO1 1 (by decide) rfl;have E18:v1 18=_:=hO1 2 (by decide) rfl;obtain ⟨n19a_,A19a_,l19a_,c19a_,n19b_,A19b_,l19b_,c19b_,E19,-,-⟩:jt8 _ _ _ _ w4 (v1 19):=hO1 3 (by decide) rfl;have E20:v1 20=_:=hO1 4 (by decide) rfl;have E21:v1 21=_:=hO1 5 (by decide) rfl;obtain ⟨g22,p22,m22,B22,j22,d22,E22,-,-,-⟩:CapV _ _ _ _ w4 (v1 22):=hO1 6 (by decide) rfl;obtain ⟨x23p_,x23q_,x23r_,E23,h23p,h23q,h23r⟩:TV3 _ _ _ w4 (v1 23):=hO1 7 (by decide) rfl;obtain rfl:=Fact.eq_of h23r;obtain ⟨n230_,A230_,l230_,c230_,rfl,q230⟩:IntV 0 _ _ w4 x23p_:=h23p;obtain ⟨n231_,A231_,l231_,c231_,rfl,q231⟩:IntV 0 _ _ w4 x23q_:=h23q;simp only [Act.put,actv,fill,fC,fN,tA,cS,cZ];simp only [E16,E17,E18,E19,E20,E21,E22,E23];clear E16 E17 E18 E19 E20 E21 E22 E23 hO1;have HW:=jau hB1;replace h0:=h0.ext HW;replace bx3:=bx3.below hB1 bx3.lt;replace bx6:=bx6.below hB1 bx6.lt;replace bx7:=bx7.below hB1 bx7.lt;replace HB:=hide (HB.out.trans (hB1.mono HB.out.size));clear HW hB1;refine F2.rest (Ks:=[.l,.l,.l,.l,.l,.l,.l,.l,.o,.o,.o,.so (g6) 26 #[.bool false,.slice none 0 0],.so (g7) 26 #[.bool false,.slice none 0 0],.o]) (Fs:=[Fact.any,Fact.any,Fact.any,Fact.any,Fact.any,Fact.any,Fact.any,Fact.any,Fact.eq ?ce24_,Fact.eq ?ce25_,Fact.eq ?ce26_,Fact.z ?kes6_ ?zes6_,Fact.z ?kes7_ ?zes7_,Fact.eq ?ce8_]) (ds:=[24,25,26,8]) (ix:=[16,17,18,19,20,21,22,23,24,25,26,0,0,8]) ?soe ?sope (by kernel_rfl) (by intro i hi;match i,hi with | 0,_=>rfl | 1,_=>rfl | 2,_=>rfl | 3,_=>rfl | 4,_=>rfl | 5,_=>rfl | 6,_=>rfl | 7,_=>rfl | 8,h=>cases h | 9,h=>cases h | 10,h=>cases h | 11,h=>cases h | 12,h=>cases h | 13,h=>cases h | n+14,h=>simp [F2.kd,F2.isL] at h) ?ste ?fine _ (Nat.le_trans (Nat.le_of_eq (by kernel_rfl)) (Nat.le_add_left 6 _))
   case soe=>exact List.forall_mem_cons.2 ⟨⟨bx6,NoU.two nB nS⟩,List.forall_mem_cons.2 ⟨⟨bx7,NoU.two nB nS⟩,fun x hx=>by cases hx⟩⟩
   case sope=>exact List.Pairwise.cons (by intro y hy;simp [F2.sos] at hy;have hne6_7:=hne6_7.out;first | (subst hy;simp;done) | (subst hy;simp;omega) | (rcases hy with rfl | rfl <;> simp <;> omega)) (List.Pairwise.cons (fun y hy=>by cases hy) (List.Pairwise.nil))
   case ste=>
    refine F2.StepsL.skip (by kernel_rfl) ?_;refine F2.StepsL.skip (by kernel_rfl) ?_;refine F2.StepsL.skip (by kernel_rfl) ?_;refine F2.StepsL.skip (by kernel_rfl) ?_;refine F2.StepsL.skip (by kernel_rfl) ?_;refine F2.StepsL.skip (by kernel_rfl) ?_;refine F2.StepsL.skip (by kernel_rfl) ?_;refine F2.StepsL.skip (by kernel_rfl) ?_;refine F2.StepsL.consO rfl ?_ ?_
    ·
     intro vz wz hBz hDz hTz K hK;have HW:=hBz.ext;simp only [zy,F2.Wp] at hK ⊢;go_simp;refine hK _ wz zB (Fact.eq_mk ?_);with_reducible rfl
    refine F2.StepsL.consO rfl ?_ ?_
    ·
     intro vz wz hBz hDz hTz K hK;have HW:=hBz.ext;simp only [zy,F2.Wp] at hK ⊢;go_simp;refine hK _ wz zB (Fact.eq_mk ?_);with_reducible rfl
    refine F2.StepsL.consO rfl ?_ ?_
    ·
     intro vz wz hBz hDz hTz K hK;have HW:=hBz.ext;simp only [zy,F2.Wp] at hK ⊢;go_simp;refine hK _ wz zB (Fact.eq_mk ?_);with_reducible rfl
    refine F2.StepsL.consT rfl ?_ ?_
    ·
     intro vz wz hBz hDz hbz K hK;obtain ⟨zc0,zc1,zc2,zc3⟩:=hbz.two;have E24:vz 24=_:=hDz 8 (by kernel_rfl) rfl;have HW:=hBz.ext;simp only [zy,F2.Wp] at hK ⊢;simp only [E24] at hK ⊢;go_simp;refine hK _ ((Far.set _ _ 0 _).trans (Far.set _ _ 1 _)) ⟨_,jai hbz,NoU.two nB nS,Fact.cast (Fact.z_mk (q230.ext HW)) ?_⟩;with_reducible rfl
    refine F2.StepsL.consT rfl ?_ ?_
    ·
     intro vz wz hBz hDz hbz K hK;obtain ⟨zc0,zc1,zc2,zc3⟩:=hbz.two;have E25:vz 25=_:=hDz 9 (by kernel_rfl) rfl;have HW:=hBz.ext;simp only [zy,F2.Wp] at hK ⊢;simp only [E25] at hK ⊢;go_simp;refine hK _ ((Far.set _ _ 0 _).trans (Far.set _ _ 1 _)) ⟨_,jai hbz,NoU.two nB nS,Fact.cast (Fact.z_mk (q231.ext HW)) ?_⟩;with_reducible rfl
    refine F2.StepsL.consO rfl ?_ ?_
    ·
     intro vz wz hBz hDz hTz K hK;have E26:vz 26=_:=hDz 10 (by kernel_rfl) rfl;have HW:=hBz.ext;simp only [zy,F2.Wp] at hK ⊢;simp only [E26] at hK ⊢;go_simp;refine hK _ wz zB (Fact.eq_mk ?_);with_reducible rfl
    exact F2.StepsL.nil
   intro ve w5 hBz ⟨hOz,hAz,hNz,hSz⟩;have E24:ve 24=_:=hOz 8 (by decide) rfl;have E25:ve 25=_:=hOz 9 (by decide) rfl;have E26:ve 26=_:=hOz 10 (by decide) rfl;obtain ⟨cs6,bx6n,hs6⟩:=hSz 11 _ _ _ (by decide) rfl;obtain ⟨n6se_,A6se_,l6se_,c6se_,E6se,q6se⟩:IntV 0 _ _ w5 (.agg cs6):=hs6;injection E6se with E6se
   subst E6se;obtain ⟨cs7,bx7n,hs7⟩:=hSz 12 _ _ _ (by decide) rfl;obtain ⟨n7se_,A7se_,l7se_,c7se_,E7se,q7se⟩:IntV 0 _ _ w5 (.agg cs7):=hs7;injection E7se with E7se
   subst E7se;have E8:ve 8=_:=hOz 13 (by decide) rfl;simp only [Act.put,actv,fill,fC,fN,tA,cS,cZ];simp only [E24,E25,E26,E8];clear E24 E25 E26 E8;replace h0:=h0.ext hBz.ext;replace bx3:=hBz.blk bx3 (zM hne3_6.out (zM hne3_7.out zN));replace HB:=hide (HB.out.trans (hBz.below (B:=w.heap.size) HB.out.size (zA hge6 (zA hge7 zE))));clear bx6;clear bx7;have bx6:=bx6n;clear bx6n;have bx7:=bx7n;clear bx7n;clear hOz hAz hNz hSz hBz
   go_wp2_with fail
   refine bodyPost_ret (jat rfl _ _ _ _ _ _ _ _ _ _ rfl bx6 rfl bx7) rfl ⟨HB.out,?_⟩;exact VF.mk (Fact.t3_mk (Fact.z_mk (q6se.up (by omega))) (Fact.z_mk (q7se.up (by omega))) (Fact.eq_self _ _))
namespace V
def mayQ (m:Int) (t q n:T):T:=.and (.le (.n 0) q) (.and (.le q (.n 1200)) (.and (.le (.n 1) n) (.and (.le n (.n 400)) (.and (.le (.n 0) (ap1 4 t)) (.le (ap2 5 (.mul t (ap1 0 (.n 1))) (.mul (.n m) (p2 q))) (.n 0))))))
theorem j0u {g:Nat→List Int→Int} {ρ:Nat→Int} (m:Int) (t q n:T):(mayQ m t q n).bd (stdF g) ρ=mayR (t.den (stdF g) ρ) (q.den (stdF g) ρ) (n.den (stdF g) ρ) m:=by
  simp only [mayQ,jck,bd_le,mayR];have e5:decide ((T.n 0).den (stdF g) ρ≤(ap1 4 t).den (stdF g) ρ)=decide (0≤t.den (stdF g) ρ):=decide_eq_decide.2 Int.sign_nonneg_iff;have e6:decide ((ap2 5 (.mul t (ap1 0 (.n 1))) (.mul (.n m) (p2 q))).den (stdF g) ρ≤(T.n 0).den (stdF g) ρ)=decide (t.den (stdF g) ρ*2≤m*2^(q.den (stdF g) ρ).toNat):=decide_eq_decide.2 (jce _ _);rw [e5,e6]
  rfl
def rowRes (f:Nat) (m:Int) (t q n:T):Option Bool→A
  | some true=>.tup [zV 340 (ap3 f q t n),zV 340 (ap3 (f+1) q t n),.sc (.i .i64 (.n 0))]
  | some false=>.tup [zV 340 (.n 0),zV 340 (.n 0),.sc (.i .i64 (.n 1))]
  | none=>.tup [zV 340 (.ite (mayQ m t q n) (ap3 f q t n) (.n 0)),zV 340 (.ite (mayQ m t q n) (ap3 (f+1) q t n) (.n 0)),.sc (.i .i64 (.ite (mayQ m t q n) (.n 0) (.n 1)))]
theorem jt5 {F:Nat→List Int→Int} {ρ:Nat→Int} {β:Nat→Nat} {k k':Nat} {a b c:T} {x y z:Int} {u:Value} {w:World} (h:(Fact.t3 (Fact.z k x) (Fact.z k' y) (Fact.eq (.int .i64 z))).holds w u) (hx:a.den F ρ=x) (hy:b.den F ρ=y) (hz:c.den F ρ=z) :
    (A.tup [zV k a,zV k' b,.sc (.i .i64 c)]).has F ρ β w u:=by
  subst hx hy hz;obtain ⟨u1,u2,u3,rfl,h1,h2,h3⟩:=h;have h4:u3=.int .i64 (c.den F ρ):=h3;subst h4;exact ⟨_,rfl,u1,_,rfl,jj9 h1,u2,_,rfl,jj9 h2,_,_,rfl,rfl,rfl⟩
theorem jt6 {g:Nat→List Int→Int} {ρ:Nat→Int} {β:Nat→Nat} {w:World} {u:Value} {f:Nat} {m:Int} {t q n:T} {lo hi:Int→Int→Nat→Int} {fs:List T} (hf:allT (stdF g) ρ fs)
    (hlo:(ap3 f q t n).den (stdF g) ρ=lo (t.den (stdF g) ρ) (q.den (stdF g) ρ) (n.den (stdF g) ρ).toNat) (hhi:(ap3 (f+1) q t n).den (stdF g) ρ=hi (t.den (stdF g) ρ) (q.den (stdF g) ρ) (n.den (stdF g) ρ).toNat)
    (h:(Fact.t3 (Fact.z 340 (if mayR (t.den (stdF g) ρ) (q.den (stdF g) ρ) (n.den (stdF g) ρ) m=true then lo (t.den (stdF g) ρ) (q.den (stdF g) ρ) (n.den (stdF g) ρ).toNat else 0)) (Fact.z 340 (if mayR (t.den (stdF g) ρ) (q.den (stdF g) ρ) (n.den (stdF g) ρ) m=true then hi (t.den (stdF g) ρ) (q.den (stdF g) ρ) (n.den (stdF g) ρ).toNat else 0)) (Fact.eq (.int .i64 (if mayR (t.den (stdF g) ρ) (q.den (stdF g) ρ) (n.den (stdF g) ρ) m=true then 0 else 1)))).holds w u) :
    (rowRes f m t q n (known2 fs (mayQ m t q n))).has (stdF g) ρ β w u:=by
  rw [←j0u m t q n] at h
  cases hk:known2 fs (mayQ m t q n) with
  | none=>exact jt5 h (by rw [jb8,hlo];rfl) (by rw [jb8,hhi];rfl) (by rw [jb8];rfl)
  | some b=>
    have e:=jas hf _ _ hk;rw [e] at h
    cases b with
    | true=>exact jt5 h hlo hhi rfl
    | false=>exact jt5 h rfl rfl rfl
theorem args3 {F:Nat→List Int→Int} {ρ:Nat→Int} {β:Nat→Nat} {w:World} {a b c:A} {vs:List Value} (h:hasA F ρ β w [a,b,c] vs):∃v u x,vs=[v,u,x]∧a.has F ρ β w v∧b.has F ρ β w u∧c.has F ρ β w x:=by
  obtain ⟨v,r,rfl,h1,u,r',rfl,h2,x,r'',rfl,h3,h4⟩:=h;exact ⟨v,u,x,by rw [show r''=[] from h4],h1,h2,h3⟩
def ctrRow {g:Nat→List Int→Int} (fn:FuncId) (he:entersB Tryz.prog fn=true) (f:Nat) (m:Int) (lo hi:Int→Int→Nat→Int)
    (hlo:∀ρ t q n,(ap3 f q t n).den (stdF g) ρ=lo (t.den (stdF g) ρ) (q.den (stdF g) ρ) (n.den (stdF g) ρ).toNat) (hhi:∀ρ t q n,(ap3 (f+1) q t n).den (stdF g) ρ=hi (t.den (stdF g) ρ) (q.den (stdF g) ρ) (n.den (stdF g) ρ).toNat)
    (hc:∀{w:World} {k0:Nat} {n0:Bool} {A0:Option Addr} {l0 c0:Nat} {x0 q n:Int},Q w k0 n0 A0 l0 c0 x0→k0≤40→Calls Tryz.prog fn #[.agg #[.bool n0,.slice A0 l0 c0],.int .i64 q,.int .i64 n] w fun e w'=>Below w.heap.size w w'∧VF (Fact.t3 (Fact.z 340 (if mayR x0 q n m=true then lo x0 q n.toNat else 0)) (Fact.z 340 (if mayR x0 q n m=true then hi x0 q n.toNat else 0)) (Fact.eq (.int .i64 (if mayR x0 q n m=true then 0 else 1)))) e w'):Ctr Tryz.prog (stdF g) where
  f:=fn
  ent:=jan he
  inst:=fun fs _ ar=>match ar with
    | [a,b,c]=>match isZ a,isI b,isI c with
      | some (k,_,t),some q,some n=>if Nat.ble k 40 then some ([],rowRes f m t q n (known2 fs (mayQ m t q n)),[]) else none
      | _,_,_=>none
    | _=>none
  ok:=by
    intro ρ β w fs bx ar vs pre res post hf _ ha hi _
    split at hi
    · split at hi
      · rename_i a b c _ _ _ k c' t q n ea eb ec
        split at hi
        · rename_i hk
          cases hi
          obtain ⟨v,u,x,rfl,hv,hu,hx⟩:=args3 ha;obtain ⟨n0,A0,l0,c0,rfl,hq,-⟩:=jcx ea hv;have hu2:=jpc eb hu;have hx2:=jpc ec hx;subst hu2 hx2;exact ⟨trivial,(hc hq (Nat.le_of_ble_eq_true hk)).mono fun e w' ⟨h1,u,h2,h3⟩=>⟨h1,u,h2,jt6 hf (hlo _ _ _ _) (hhi _ _ _ _) h3⟩⟩
        · cases hi
      · cases hi
    · cases hi
section
variable (h:Nat→List Int→Int)
def cAtanh:Ctr Tryz.prog (stdF (gR h)):=ctrRow 157 (by kernel_rfl) 34 1 atanhLo atanhHi (fun _ _ _ _=>rfl) (fun _ _ _ _=>rfl) fun hq hk=>jlz hq hk
def cAtan:Ctr Tryz.prog (stdF (gR h)):=ctrRow 291 (by kernel_rfl) 36 1 atanLo atanHi (fun _ _ _ _=>rfl) (fun _ _ _ _=>rfl) fun hq hk=>jnf hq hk
noncomputable def rows5:List (Ctr Tryz.prog (stdF (gR h))):=
  cAtanh h :: -- opt
  cAtan h :: -- opt
  inl (rows4 h) 258 (by kernel_rfl) :: -- opt
  inl (rows4 h) 289 (by kernel_rfl) :: -- opt
  inl (rows4 h) 290 (by kernel_rfl) :: -- opt
  rows4 h
end
end V
end Go.Proofs.YtllgjggkchgpbaaGreat
