/- V: what is checked. -/
import Derived.Test.YtllgjggkchgpbaaGreatVf
set_option linter.unusedVariables false
set_option linter.unusedSimpArgs false
namespace Go.Proofs.YtllgjggkchgpbaaGreat
open Go.RowKit Go.Shelf
namespace V
def entersB (P:Program) (f:FuncId):Bool:=match P.funcs[f]? with
  | some fn=>!(fn.name == "runtime.NumGoroutine") && fn.body.isSome
  | none=>false
theorem jan {P:Program} {f:FuncId} (h:entersB P f=true):Enters P f:=by
  unfold entersB at h
  split at h
  · rename_i fn hfn
    rw [Bool.and_eq_true,Bool.not_eq_true'] at h;obtain ⟨c,hc⟩:=Option.isSome_iff_exists.1 h.2;exact enters_of hfn h.1 hc
  · cases h
def stdF (g:Nat→List Int→Int):Nat→List Int→Int
  | 0,[x]=>2^x.toNat
  | 1,[a,b]=>a / b
  | 2,[a,b]=>a%b
  | 3,[a,b]=>vUp a b
  | 4,[a]=>a.sign
  | 5,[a,b]=>cmpZ a b
  | 6,[a]=>(nbits a.natAbs:Nat)
  | 7,[a,b]=>a.tmod b
  | n,l=>if n<16 then 0 else g (n - 16) l
def ap1 (f:Nat) (a:T):T:=.ap f (.c a .e)
def ap2 (f:Nat) (a b:T):T:=.ap f (.c a (.c b .e))
def isZ:A→Option (Nat×Bool×T)
  | .one (.ag [.z k c t])=>some (k,c,t)
  | _=>none
def isI:A→Option T
  | .one (.sc (.i .i64 t))=>some t
  | _=>none
section
variable {g:Nat→List Int→Int} {F:Nat→List Int→Int} {ρ:Nat→Int} {β:Nat→Nat} {P:Program} {w:World}
theorem jcx {a:A} {k:Nat} {c:Bool} {t:T} {v:Value} (h:isZ a=some (k,c,t)) (hv:a.has F ρ β w v):∃n A l c',v=.agg #[.bool n,.slice A l c']∧Q w k n A l c' (t.den F ρ)∧(c=true→QB w 0 k n A l c' (t.den F ρ)):=by
  unfold isZ at h
  split at h
  · cases h
    obtain ⟨cs,rfl,c1,d1,rfl,⟨n,A,l,c',rfl,h1,h2⟩,h3⟩:=hv;rw [show d1=[] from h3];exact ⟨n,A,l,c',rfl,h1,h2⟩
  · cases h
theorem jpc {a:A} {t:T} {v:Value} (h:isI a=some t) (hv:a.has F ρ β w v):v=.int .i64 (t.den F ρ):=by
  unfold isI at h
  split at h
  · cases h
    have h2:[v]=[Value.int .i64 (t.den F ρ)]:=hv;exact List.head_eq_of_cons_eq h2
  · cases h
theorem jgr:bxOK F ρ β w []:=⟨fun i b h=>(by cases h),fun i j b c h=>(by cases h)⟩
theorem jaa {a b:T} (h:(T.le a b).bd F ρ=true):a.den F ρ≤b.den F ρ:=by
  unfold T.bd at h;rw [show (T.le a b).den F ρ=b2i (decide (a.den F ρ≤b.den F ρ)) from rfl] at h
  by_cases hc:a.den F ρ≤b.den F ρ
  · exact hc
  · rw [decide_eq_false hc] at h
    cases h
def zV (k:Nat) (t:T):V1:=.ag [.z k true t]
theorem jj9 {k:Nat} {t:T} {u:Value} (h:(Fact.z k (t.den F ρ)).holds w u):(zV k t).has F ρ β w u:=by
  obtain ⟨n,A,l,c,rfl,hq⟩:=h;exact ⟨[.bool n,.slice A l c],rfl,_,[],rfl,⟨n,A,l,c,rfl,hq.q,fun _=>hq⟩,rfl⟩
theorem args1 {a:A} {vs:List Value} (h:hasA F ρ β w [a] vs):∃v,vs=[v]∧a.has F ρ β w v:=by
  obtain ⟨v,r,rfl,h1,h2⟩:=h;exact ⟨v,by rw [show r=[] from h2],h1⟩
theorem args2 {a b:A} {vs:List Value} (h:hasA F ρ β w [a,b] vs):∃v u,vs=[v,u]∧a.has F ρ β w v∧b.has F ρ β w u:=by
  obtain ⟨v,r,rfl,h1,u,r',rfl,h2,h3⟩:=h;exact ⟨v,u,by rw [show r'=[] from h3],h1,h2⟩
def ctrZ (f:FuncId) (he:entersB P f=true) (lim:Nat) (gt:T→T) (gi:Int→Int) (hg:∀ρ t,(gt t).den (stdF g) ρ=gi (t.den (stdF g) ρ))
    (hc:∀{w:World} {k:Nat} {n:Bool} {A:Option Addr} {l c:Nat} {z:Int},Q w k n A l c z→k≤lim→Calls P f #[.agg #[.bool n,.slice A l c]] w fun e w'=>Below w.heap.size w w'∧VF (Fact.z k (gi z)) e w'):Ctr P (stdF g) where
  f:=f
  ent:=jan he
  inst:=fun _ _ ar=>match ar with
    | [a]=>match isZ a with
      | some (k,_,t)=>if Nat.ble k lim then some ([],.one (zV k (gt t)),[]) else none
      | none=>none
    | _=>none
  ok:=by
    intro ρ β w fs bx ar vs pre res post _ _ ha hi _
    split at hi
    · split at hi
      · rename_i a _ k c t ea
        split at hi
        · rename_i hk
          cases hi
          obtain ⟨v,rfl,hv⟩:=args1 ha;obtain ⟨n,A,l,c',rfl,hq,-⟩:=jcx ea hv;refine ⟨trivial,(hc hq (Nat.le_of_ble_eq_true hk)).mono fun e w' ⟨h1,u,h2,h3⟩=>⟨h1,u,h2,?_⟩⟩;exact jj9 (by rw [hg];exact h3)
        · cases hi
      · cases hi
    · cases hi
def ctrZZ (f:FuncId) (he:entersB P f=true) (lim:Nat) (fr:Nat→Nat→Nat) (gt:T→T→T) (gi:Int→Int→Int) (hg:∀ρ t s,(gt t s).den (stdF g) ρ=gi (t.den (stdF g) ρ) (s.den (stdF g) ρ))
    (hc:∀{w:World} {k k':Nat} {n m:Bool} {A A':Option Addr} {l c l' c':Nat} {z y:Int},Q w k n A l c z→Q w k' m A' l' c' y→k≤lim→k'≤lim→Calls P f #[.agg #[.bool n,.slice A l c],.agg #[.bool m,.slice A' l' c']] w fun e w'=>Below w.heap.size w w'∧VF (Fact.z (fr k k') (gi z y)) e w'):Ctr P (stdF g) where
  f:=f
  ent:=jan he
  inst:=fun _ _ ar=>match ar with
    | [a,b]=>match isZ a,isZ b with
      | some (k,_,t),some (k',_,s)=>if Nat.ble k lim && Nat.ble k' lim then some ([],.one (zV (fr k k') (gt t s)),[]) else none
      | _,_=>none
    | _=>none
  ok:=by
    intro ρ β w fs bx ar vs pre res post _ _ ha hi _
    split at hi
    · split at hi
      · rename_i a b _ _ k c t k' c2 s ea eb
        split at hi
        · rename_i hk
          rw [Bool.and_eq_true] at hk
          cases hi
          obtain ⟨v,u,rfl,hv,hu⟩:=args2 ha;obtain ⟨n,A,l,c',rfl,hq,-⟩:=jcx ea hv;obtain ⟨m,A',l',c2',rfl,hq',-⟩:=jcx eb hu;refine ⟨trivial,(hc hq hq' (Nat.le_of_ble_eq_true hk.1) (Nat.le_of_ble_eq_true hk.2)).mono fun e w' ⟨h1,u,h2,h3⟩=>⟨h1,u,h2,?_⟩⟩;exact jj9 (by rw [hg];exact h3)
        · cases hi
      · cases hi
    · cases hi
theorem jad {a b:T} (h:a.den F ρ≤b.den F ρ):(T.le a b).bd F ρ=true:=by rw [bd_le];exact decide_eq_true h
def ctrZZI (f:FuncId) (he:entersB P f=true) (lim:Nat) (gt:T→T→T) (gi:Int→Int→Int) (hg:∀ρ t s,(gt t s).den (stdF g) ρ=gi (t.den (stdF g) ρ) (s.den (stdF g) ρ))
    (hb:∀z y:Int,-1≤gi z y∧gi z y≤1)
    (hc:∀{w:World} {k k':Nat} {n m:Bool} {A A':Option Addr} {l c l' c':Nat} {z y:Int},Q w k n A l c z→Q w k' m A' l' c' y→k≤lim→k'≤lim→Calls P f #[.agg #[.bool n,.slice A l c],.agg #[.bool m,.slice A' l' c']] w fun e w'=>Below w.heap.size w w'∧VF (Fact.eq (.int .i64 (gi z y))) e w'):Ctr P (stdF g) where
  f:=f
  ent:=jan he
  inst:=fun _ _ ar=>match ar with
    | [a,b]=>match isZ a,isZ b with
      | some (k,_,t),some (k',_,s)=>if Nat.ble k lim && Nat.ble k' lim then some ([],.one (.sc (.i .i64 (gt t s))),[.le (.n (-1)) (gt t s),.le (gt t s) (.n 1)]) else none
      | _,_=>none
    | _=>none
  ok:=by
    intro ρ β w fs bx ar vs pre res post _ _ ha hi _
    split at hi
    · split at hi
      · rename_i a b _ _ k c t k' c2 s ea eb
        split at hi
        · rename_i hk
          rw [Bool.and_eq_true] at hk
          cases hi
          obtain ⟨v,u,rfl,hv,hu⟩:=args2 ha;obtain ⟨n,A,l,c',rfl,hq,-⟩:=jcx ea hv;obtain ⟨m,A',l',c2',rfl,hq',-⟩:=jcx eb hu;refine ⟨⟨jad (by rw [hg];exact (hb _ _).1),jad (by rw [hg];exact (hb _ _).2),trivial⟩,(hc hq hq' (Nat.le_of_ble_eq_true hk.1) (Nat.le_of_ble_eq_true hk.2)).mono fun e w' ⟨h1,u,h2,h3⟩=>⟨h1,u,h2,?_⟩⟩;have h4:u=.int .i64 (gi (t.den (stdF g) ρ) (s.den (stdF g) ρ)):=h3
          show [u]=[Value.int .i64 ((gt t s).den (stdF g) ρ)]
          rw [hg,h4]
        · cases hi
      · cases hi
    · cases hi
def ctrZI (f:FuncId) (he:entersB P f=true) (lim:Nat) (gt:T→T) (gi:Int→Int) (hg:∀ρ t,(gt t).den (stdF g) ρ=gi (t.den (stdF g) ρ))
    (hb:∀z:Int,-1≤gi z∧gi z≤1)
    (hc:∀{w:World} {k:Nat} {n:Bool} {A:Option Addr} {l c:Nat} {z:Int},Q w k n A l c z→k≤lim→Calls P f #[.agg #[.bool n,.slice A l c]] w fun e w'=>Below w.heap.size w w'∧VF (Fact.eq (.int .i64 (gi z))) e w'):Ctr P (stdF g) where
  f:=f
  ent:=jan he
  inst:=fun _ _ ar=>match ar with
    | [a]=>match isZ a with
      | some (k,_,t)=>if Nat.ble k lim then some ([],.one (.sc (.i .i64 (gt t))),[.le (.n (-1)) (gt t),.le (gt t) (.n 1)]) else none
      | none=>none
    | _=>none
  ok:=by
    intro ρ β w fs bx ar vs pre res post _ _ ha hi _
    split at hi
    · split at hi
      · rename_i a _ k c t ea
        split at hi
        · rename_i hk
          cases hi
          obtain ⟨v,rfl,hv⟩:=args1 ha;obtain ⟨n,A,l,c',rfl,hq,-⟩:=jcx ea hv;refine ⟨⟨jad (by rw [hg];exact (hb _).1),jad (by rw [hg];exact (hb _).2),trivial⟩,(hc hq (Nat.le_of_ble_eq_true hk)).mono fun e w' ⟨h1,u,h2,h3⟩=>⟨h1,u,h2,?_⟩⟩;have h4:u=.int .i64 (gi (t.den (stdF g) ρ)):=h3
          show [u]=[Value.int .i64 ((gt t).den (stdF g) ρ)]
          rw [hg,h4]
        · cases hi
      · cases hi
    · cases hi
def ctrI (f:FuncId) (he:entersB P f=true) (lo hi:Int) (hc:∀{w:World} {x:Int},lo≤x→x≤hi→Calls P f #[.int .i64 x] w fun e w'=>Below w.heap.size w w'∧VF (Fact.z 1 x) e w'):Ctr P (stdF g) where
  f:=f
  ent:=jan he
  inst:=fun _ _ ar=>match ar with
    | [a]=>match isI a with
      | some t=>some ([.le (.n lo) t,.le t (.n hi)],.one (zV 1 t),[])
      | none=>none
    | _=>none
  ok:=by
    intro ρ β w fs bx ar vs pre res post _ _ ha hi hp
    split at hi
    · split at hi
      · rename_i a _ t ea
        cases hi
        obtain ⟨v,rfl,hv⟩:=args1 ha;have hv2:=jpc ea hv;subst hv2;obtain ⟨p1,p2,-⟩:=hp;have q1:lo≤t.den (stdF g) ρ:=jaa p1;have q2:t.den (stdF g) ρ≤_:=jaa p2;exact ⟨trivial,(hc q1 q2).mono fun e w' ⟨h1,u,h2,h3⟩=>⟨h1,u,h2,jj9 h3⟩⟩
      · cases hi
    · cases hi
def litT:T→Option Int
  | .n z=>some z
  | _=>none
def ctrSh (f:FuncId) (he:entersB P f=true) (lim:Nat) (fr:Nat→Int→Nat) (frU:Nat→Nat) (gt:T→T→T) (gi:Int→Int→Int) (hg:∀ρ t s,(gt t s).den (stdF g) ρ=gi (t.den (stdF g) ρ) (s.den (stdF g) ρ))
    (hfr:∀k x,0≤x→x≤8000→fr k x≤frU k) (hmo:∀k x y,x≤y→fr k x≤fr k y)
    (hc:∀{w:World} {k:Nat} {n:Bool} {A:Option Addr} {l c:Nat} {z x:Int},Q w k n A l c z→k≤lim→0≤x→x≤8000→Calls P f #[.agg #[.bool n,.slice A l c],.int .i64 x] w fun e w'=>Below w.heap.size w w'∧VF (Fact.z (fr k x) (gi z x)) e w'):Ctr P (stdF g) where
  f:=f
  ent:=jan he
  inst:=fun fs _ ar=>match ar with
    | [a,b]=>match isZ a,isI b with
      | some (k,_,t),some s=>if Nat.ble k lim then some ([.le (.n 0) s,.le s (.n 8000)],.one (zV (match litT s with | some x=>fr k x | none=>(match (iv fs s).2 with | some u=>min (fr k u) (frU k) | none=>frU k)) (gt t s)),[]) else none
      | _,_=>none
    | _=>none
  ok:=by
    intro ρ β w fs bx ar vs pre res post hf _ ha hi hp
    split at hi
    · split at hi
      · rename_i a b _ _ k c t s ea eb
        split at hi
        · rename_i hk
          cases hi
          obtain ⟨v,u,rfl,hv,hu⟩:=args2 ha;obtain ⟨n,A,l,c',rfl,hq,-⟩:=jcx ea hv;have hu2:=jpc eb hu;subst hu2;obtain ⟨p1,p2,-⟩:=hp;have q1:0≤s.den (stdF g) ρ:=jaa p1;have q2:s.den (stdF g) ρ≤8000:=jaa p2;refine ⟨trivial,(hc hq (Nat.le_of_ble_eq_true hk) q1 q2).mono fun e w' ⟨h1,u,h2,h3⟩=>⟨h1,u,h2,?_⟩⟩;refine jj9 ?_;rw [hg];obtain ⟨n',A',l2,c2,e1,hq2⟩:=h3;refine ⟨n',A',l2,c2,e1,?_⟩
          split
          · rename_i x ex
            have:s=.n x:=by
              cases s <;> simp [litT] at ex
              rw [ex]
            subst this;exact hq2
          · split
            · rename_i u hu
              exact hq2.up (Nat.le_min.2 ⟨hmo _ _ _ ((jd0 hf s).2 u hu),hfr _ _ q1 q2⟩)
            · exact hq2.up (hfr _ _ q1 q2)
        · cases hi
      · cases hi
    · cases hi
end
end V
namespace V
def nzPre:T→List T
  | .mul a (.ap 0 (.c _ .e))=>[.lt (.n 0) a]
  | .ap 0 (.c _ .e)=>[]
  | s=>[.not (.eq s (.n 0))]
section
variable {g:Nat→List Int→Int} {F:Nat→List Int→Int} {ρ:Nat→Int} {β:Nat→Nat} {P:Program} {w:World}
theorem jco {a b:T} (h:(T.lt a b).bd F ρ=true):a.den F ρ<b.den F ρ:=by
  unfold T.bd at h;rw [show (T.lt a b).den F ρ=b2i (decide (a.den F ρ<b.den F ρ)) from rfl] at h
  by_cases hc:a.den F ρ<b.den F ρ
  · exact hc
  · rw [decide_eq_false hc] at h
    cases h
theorem jwd {a b:T} (h:(T.not (.eq a b)).bd F ρ=true):a.den F ρ≠b.den F ρ:=by
  intro e;unfold T.bd at h;rw [show (T.not (.eq a b)).den F ρ=b2i (!((T.eq a b).den F ρ != 0)) from rfl,show (T.eq a b).den F ρ=b2i (a.den F ρ == b.den F ρ) from rfl,e] at h;simp [b2i] at h
theorem jpd {s:T} (h:allT (stdF g) ρ (nzPre s)):s.den (stdF g) ρ≠0:=by
  have p2:∀b:T,(2:Int)^(b.den (stdF g) ρ).toNat≠0:=fun b=>by
    exact Int.ne_of_gt (Int.pow_pos (by decide))
  unfold nzPre at h
  split at h
  · rename_i a b
    have h1:=jco h.1;rw [jc7] at h1;exact Int.mul_ne_zero (Int.ne_of_gt h1) (p2 b)
  · rename_i b;exact p2 b
  · exact jwd h.1
def ctrDM (f:FuncId) (he:entersB P f=true) (lim:Nat)
    (hc:∀{w:World} {k k':Nat} {n m:Bool} {A A':Option Addr} {l c l' c':Nat} {z y:Int},Q w k n A l c z→Q w k' m A' l' c' y→k≤lim→k'≤lim→y≠0→Calls P f #[.agg #[.bool n,.slice A l c],.agg #[.bool m,.slice A' l' c']] w fun e w'=>Below w.heap.size w w'∧VF (Fact.t3 (Fact.z k (z / y)) (Fact.z k' (z%y)) (Fact.eq (.bool true))) e w'):Ctr P (stdF g) where
  f:=f
  ent:=jan he
  inst:=fun _ _ ar=>match ar with
    | [a,b]=>match isZ a,isZ b with
      | some (k,_,t),some (k',_,s)=>if Nat.ble k lim && Nat.ble k' lim then some (nzPre s,.tup [zV k (ap2 1 t s),zV k' (ap2 2 t s),.sc (.b (.n 1))],[]) else none
      | _,_=>none
    | _=>none
  ok:=by
    intro ρ β w fs bx ar vs pre res post _ _ ha hi hp
    split at hi
    · split at hi
      · rename_i a b _ _ k c t k' c2 s ea eb
        split at hi
        · rename_i hk
          rw [Bool.and_eq_true] at hk
          cases hi
          obtain ⟨v,u,rfl,hv,hu⟩:=args2 ha;obtain ⟨n,A,l,c',rfl,hq,-⟩:=jcx ea hv;obtain ⟨m,A',l',c2',rfl,hq',-⟩:=jcx eb hu;refine ⟨trivial,(hc hq hq' (Nat.le_of_ble_eq_true hk.1) (Nat.le_of_ble_eq_true hk.2) (jpd hp)).mono fun e w' ⟨h1,u,h2,x,y,z,h3,h4,h5,h6⟩=>⟨h1,u,h2,[x,y,z],h3,?_⟩⟩;have h7:z=.bool true:=h6;exact ⟨x,_,rfl,jj9 h4,y,_,rfl,jj9 h5,z,[],rfl,by rw [h7];rfl,rfl⟩
        · cases hi
      · cases hi
    · cases hi
def ctrUp (f:FuncId) (he:entersB P f=true) (lim:Nat)
    (hc:∀{w:World} {k k':Nat} {n m:Bool} {A A':Option Addr} {l c l' c':Nat} {z y:Int},Q w k n A l c z→Q w k' m A' l' c' y→k≤lim→k'≤lim→y≠0→Calls P f #[.agg #[.bool n,.slice A l c],.agg #[.bool m,.slice A' l' c']] w fun e w'=>Below w.heap.size w w'∧VF (Fact.t2 (Fact.z k (vUp z y)) (Fact.eq (.bool true))) e w'):Ctr P (stdF g) where
  f:=f
  ent:=jan he
  inst:=fun _ _ ar=>match ar with
    | [a,b]=>match isZ a,isZ b with
      | some (k,_,t),some (k',_,s)=>if Nat.ble k lim && Nat.ble k' lim then some (nzPre s,.tup [zV k (ap2 3 t s),.sc (.b (.n 1))],[]) else none
      | _,_=>none
    | _=>none
  ok:=by
    intro ρ β w fs bx ar vs pre res post _ _ ha hi hp
    split at hi
    · split at hi
      · rename_i a b _ _ k c t k' c2 s ea eb
        split at hi
        · rename_i hk
          rw [Bool.and_eq_true] at hk
          cases hi
          obtain ⟨v,u,rfl,hv,hu⟩:=args2 ha;obtain ⟨n,A,l,c',rfl,hq,-⟩:=jcx ea hv;obtain ⟨m,A',l',c2',rfl,hq',-⟩:=jcx eb hu;refine ⟨trivial,(hc hq hq' (Nat.le_of_ble_eq_true hk.1) (Nat.le_of_ble_eq_true hk.2) (jpd hp)).mono fun e w' ⟨h1,u,h2,x,z,h3,h4,h6⟩=>⟨h1,u,h2,[x,z],h3,?_⟩⟩;have h7:z=.bool true:=h6;exact ⟨x,_,rfl,jj9 h4,z,[],rfl,by rw [h7];rfl,rfl⟩
        · cases hi
      · cases hi
    · cases hi
end
end V
namespace V
theorem j0j {P:Program} {w:World} (t:TypeId) (o1 o2:Operand) (k:IntKind) (x c:Int) (hc:c≠0):((do eqGuard .quo t o1 o2 (.int k x) (.int k c);binOp .quo t (.int k x) (.int k c)):Sem Value).run P w=.ok (.int k (k.wrap (x.tdiv c))) w:=by
  simp only [eqGuard_quo,Sem.run_bind,Sem.run_pure,Result.andThen_ok,binOp_quo,Op.intDiv,if_neg hc]
theorem jne {P:Program} {w:World} (t:TypeId) (o1 o2:Operand) (k:IntKind) (x c:Int) (hc:c≠0):((do eqGuard .rem t o1 o2 (.int k x) (.int k c);binOp .rem t (.int k x) (.int k c)):Sem Value).run P w=.ok (.int k (x.tmod c)) w:=by
  simp only [eqGuard_rem,Sem.run_bind,Sem.run_pure,Result.andThen_ok,binOp_rem,Op.intDiv,if_neg hc]
def isMask (c:Int):Bool:=(List.range 53).any fun m=>decide (c+1=((2^m:Nat):Int))
theorem jtz (k:IntKind):loK k≤0:=by cases k <;> decide
theorem jyb (k:IntKind):hiK k<((2^k.bits:Nat):Int):=by cases k <;> decide
theorem jpe {P:Program} {w:World} (t:TypeId) (o1 o2:Operand) (k:IntKind) (x c:Int):((do eqGuard .and t o1 o2 (.int k x) (.int k c);binOp .and t (.int k x) (.int k c)):Sem Value).run P w=.ok (.int k (bits .and k x c)) w:=by
  simp only [eqGuard_and,Sem.run_bind,Sem.run_pure,Result.andThen_ok,binOp_and,Op.intBits]
  rfl
theorem j3q {P:Program} {w:World} (t:TypeId) (o1 o2:Operand) (k:IntKind) (x c:Int):((do eqGuard .or t o1 o2 (.int k x) (.int k c);binOp .or t (.int k x) (.int k c)):Sem Value).run P w=.ok (.int k (bits .or k x c)) w:=by
  simp only [eqGuard_or,Sem.run_bind,Sem.run_pure,Result.andThen_ok,binOp_or,Op.intBits]
  rfl
theorem jwe {P:Program} {w:World} (t:TypeId) (o1 o2:Operand) {k:IntKind} (x:Int) {c:Int} (hc:isMask c=true) (hck:c≤hiK k):((do eqGuard .and t o1 o2 (.int k x) (.int k c);binOp .and t (.int k x) (.int k c)):Sem Value).run P w=.ok (.int k (x%(c+1))) w:=by
  obtain ⟨m,hm,e⟩:=List.any_eq_true.1 hc;have e':c+1=((2^m:Nat):Int):=of_decide_eq_true e;have hp0:0<2^m:=Nat.pow_pos (by omega);have hcn:c=((2^m - 1:Nat):Int):=by omega
  have hk:=jyb k;have hlt:2^m - 1<2^k.bits:=by omega
  have hmk:m≤k.bits:=by
    by_cases h:m≤k.bits
    · exact h
    · exfalso
      have h1:2^(k.bits+1)≤2^m:=Nat.pow_le_pow_right (by omega) (by omega);rw [Nat.pow_succ] at h1;have h2:0<2^k.bits:=Nat.pow_pos (by omega)
      omega
  have h3:((BitVec.ofInt k.bits x) &&& (BitVec.ofInt k.bits c)).toNat=(x%(c+1)).toNat:=by
    rw [BitVec.toNat_and,hcn,BitVec.ofInt_natCast,BitVec.toNat_ofNat,Nat.mod_eq_of_lt hlt,Nat.and_two_pow_sub_one_eq_mod,BitVec.toNat_ofInt];rw [show ((2^m - 1:Nat):Int)+1=((2^m:Nat):Int) by omega];have h64:(2:Nat)^k.bits=2^m*2^(k.bits - m):=by rw [←Nat.pow_add];congr 1;omega
    have hx0:0≤x%((2^k.bits:Nat):Int):=Int.emod_nonneg _ (by have:0<2^k.bits:=Nat.pow_pos (by omega);omega)
    have h5:(((x%((2^k.bits:Nat):Int)).toNat%2^m:Nat):Int)=x%((2^m:Nat):Int):=by
      rw [Int.natCast_emod,Int.toNat_of_nonneg hx0,Int.emod_emod_of_dvd];exact ⟨((2^(k.bits - m):Nat):Int),by rw [←Int.natCast_mul,h64]⟩
    omega
  have h6:=Int.emod_nonneg x (show c+1≠0 by omega);have h7:=Int.emod_lt_of_pos x (show 0<c+1 by omega)
  have hw:bits .and k x c=x%(c+1):=by
    show k.wrap (((BitVec.ofInt k.bits x) &&& (BitVec.ofInt k.bits c)).toNat:Int)=_
    rw [h3,Int.toNat_of_nonneg h6];have h10:=jtz k;exact jc4 k (by omega)
  rw [jpe,hw]
def isOr (x c:Int):Bool:=(List.range 64).any fun m=>decide (x<((2^m:Nat):Int)) && decide (c%((2^m:Nat):Int)=0)
theorem j0k {P:Program} {w:World} (t:TypeId) (o1 o2:Operand) {k:IntKind} {x u c:Int} (h0:0≤x) (hu:x≤u) (hc0:0≤c) (hc:isOr u c=true) (hck:u+c≤hiK k):((do eqGuard .or t o1 o2 (.int k x) (.int k c);binOp .or t (.int k x) (.int k c)):Sem Value).run P w=.ok (.int k (x+c)) w:=by
  obtain ⟨m,hm,e⟩:=List.any_eq_true.1 hc;rw [Bool.and_eq_true] at e;have e1:u<((2^m:Nat):Int):=of_decide_eq_true e.1;have e2:c%((2^m:Nat):Int)=0:=of_decide_eq_true e.2;obtain ⟨X,rfl⟩:=Int.eq_ofNat_of_zero_le h0;obtain ⟨C,rfl⟩:=Int.eq_ofNat_of_zero_le hc0;have hk:=jyb k;have hX:X<2^m:=by omega
  have hC:C%2^m=0:=by exact_mod_cast e2
  have hor:X ||| C=X+C:=by
    have h1:=Nat.div_add_mod C (2^m);rw [hC,Nat.add_zero] at h1;rw [←h1,Nat.or_comm,←Nat.two_pow_add_eq_or_of_lt hX,Nat.add_comm]
  have hw:bits .or k (X:Int) (C:Int)=((X+C:Nat):Int):=by
    show k.wrap (((BitVec.ofInt k.bits (X:Int)) ||| (BitVec.ofInt k.bits (C:Int))).toNat:Int)=_
    rw [BitVec.toNat_or,BitVec.ofInt_natCast,BitVec.ofInt_natCast,BitVec.toNat_ofNat,BitVec.toNat_ofNat,Nat.mod_eq_of_lt (by omega),Nat.mod_eq_of_lt (by omega),hor];have h10:=jtz k;exact jc4 k (by omega)
  rw [j3q,hw];simp
theorem j0l {P:Program} {w:World} (t:TypeId) (o1 o2:Operand) {k:IntKind} (x:Int) {c:Int} (h0:0≤c) (h1:c≤(k.bits:Nat)):((do eqGuard .shr t o1 o2 (.int k x) (.int k c);binOp .shr t (.int k x) (.int k c)):Sem Value).run P w=.ok (.int k (x / ((2^c.toNat:Nat):Int))) w:=by
  simp only [eqGuard_shr,Sem.run_bind,Sem.run_pure,Result.andThen_ok,binOp_shr,Op.shift];rw [if_neg (by omega),Nat.min_eq_left (by omega)];simp only [Sem.run_pure];have h2:(0:Int)≤2^c.toNat:=Int.le_of_lt (Int.pow_pos (by omega));rw [Int.fdiv_eq_ediv_of_nonneg _ h2]
  push_cast
  rfl
theorem j0m {P:Program} {w:World} (t:TypeId) (o1 o2:Operand) {k:IntKind} (x:Int) {c:Int} (h0:0≤c) (h1:c≤(k.bits:Nat)) (h2:loK k≤x*((2^c.toNat:Nat):Int)) (h3:x*((2^c.toNat:Nat):Int)≤hiK k):((do eqGuard .shl t o1 o2 (.int k x) (.int k c);binOp .shl t (.int k x) (.int k c)):Sem Value).run P w=.ok (.int k (x*((2^c.toNat:Nat):Int))) w:=by
  simp only [eqGuard_shl,Sem.run_bind,Sem.run_pure,Result.andThen_ok,binOp_shl,Op.shift];rw [if_neg (by omega),Nat.min_eq_left (by omega)];simp only [Sem.run_pure];have e:((2^c.toNat:Nat):Int)=2^c.toNat:=by push_cast;rfl
  rw [e] at h2 h3 ⊢;rw [jc4 k ⟨h2,h3⟩]
def upB (fs:List T) (a r:T) (c:Int):List T:=match (iv fs a).2 with
  | some u=>[.le r (.n (u / c))]
  | none=>[]
def shB (fs:List T) (a r:T) (c:Int):List T:=(match (iv fs a).2 with
  | some u=>[.le r (.n (u / c))]
  | none=>[]) ++ (match (iv fs a).1 with
  | some l=>[.le (.n (l / c)) r]
  | none=>[])
def opsI (fs:List T) (op:BinOp) (k:IntKind) (a b:T):Option (List T×X×List T):=match op,b with
  | .and,.n c=>if isMask c && decide (c≤hiK k) then some ([],.i k (ap2 2 a (.n (c+1))),[.le (.n 0) (ap2 2 a (.n (c+1))),.le (ap2 2 a (.n (c+1))) (.n c)]) else none
  | .quo,.n c=>if 0<c then some ([.le (.n 0) a,.le a (.n (hiK k))],.i k (ap2 1 a (.n c)),[.le (.n 0) (ap2 1 a (.n c)),.le (.mul (.n c) (ap2 1 a (.n c))) a,.lt a (.add (.mul (.n c) (ap2 1 a (.n c))) (.n c))] ++ upB fs a (ap2 1 a (.n c)) c) else none
  | .rem,.n c=>if 0<c then (match known2 fs (.le (.n 0) a) with
    | some true=>some ([.le (.n 0) a],.i k (ap2 2 a (.n c)),[.le (.n 0) (ap2 2 a (.n c)),.le (ap2 2 a (.n c)) (.n (c - 1))])
    | _=>some ([],.i k (ap2 7 a (.n c)),[.le (.n (-(c - 1))) (ap2 7 a (.n c)),.le (ap2 7 a (.n c)) (.n (c - 1))])) else none
  | .or,.n c=>match (iv fs a).2 with
    | some u=>if isOr u c && decide (0≤c) && decide (u+c≤hiK k) then some ([.le (.n 0) a],.i k (.add a (.n c)),[]) else none
    | none=>none
  | .shr,.n c=>if decide (0≤c) && decide (c≤(k.bits:Nat)) then some ([],.i k (ap2 1 a (.n ((2^c.toNat:Nat):Int))),shB fs a (ap2 1 a (.n ((2^c.toNat:Nat):Int))) ((2^c.toNat:Nat):Int)) else none
  | .shl,.n c=>if decide (0≤c) && decide (c≤(k.bits:Nat)) then some ([.le (.n (loK k)) (.mul a (.n ((2^c.toNat:Nat):Int))),.le (.mul a (.n ((2^c.toNat:Nat):Int))) (.n (hiK k))],.i k (.mul a (.n ((2^c.toNat:Nat):Int))),[]) else none
  | _,_=>none
theorem jbj {F:Nat→List Int→Int} {ρ:Nat→Int} {a b:T} (h:a.den F ρ<b.den F ρ):(T.lt a b).bd F ρ=true:=by rw [bd_lt];exact decide_eq_true h
theorem j0n {g:Nat→List Int→Int} {ρ:Nat→Int} {β:Nat→Nat} {P:Program} {w:World} {op:BinOp} {k:IntKind} {fs:List T} {a b:T} {pre:List T} {x:X} {post:List T} (hf:allT (stdF g) ρ fs) (h:opsI fs op k a b=some (pre,x,post)) (hp:allT (stdF g) ρ pre) :
    allT (stdF g) ρ post∧∀(t:TypeId) (o1 o2:Operand),∃v,((do eqGuard op t o1 o2 (.int k (a.den (stdF g) ρ)) (.int k (b.den (stdF g) ρ));binOp op t (.int k (a.den (stdF g) ρ)) (.int k (b.den (stdF g) ρ))):Sem Value).run P w=.ok v w∧x.has (stdF g) ρ β w [v]:=by
  unfold opsI at h
  split at h
  · rename_i c
    split at h
    · rename_i hk
      rw [Bool.and_eq_true] at hk
      cases h
      have hc0:0<c+1:=by
        obtain ⟨m,-,e⟩:=List.any_eq_true.1 hk.1;have e':c+1=((2^m:Nat):Int):=of_decide_eq_true e;have hp0:0<2^m:=Nat.pow_pos (by omega)
        omega
      have h6:=Int.emod_nonneg (a.den (stdF g) ρ) (show c+1≠0 by omega);have h7:=Int.emod_lt_of_pos (a.den (stdF g) ρ) hc0;exact ⟨⟨jad h6,jad (show a.den (stdF g) ρ%(c+1)≤c by omega),trivial⟩,fun t o1 o2=>⟨_,jwe t o1 o2 _ hk.1 (of_decide_eq_true hk.2),rfl⟩⟩
    · cases h
  · rename_i c
    split at h
    · rename_i hc
      cases h
      have h0:0≤a.den (stdF g) ρ:=jaa hp.1;have h1:a.den (stdF g) ρ≤hiK k:=jaa hp.2.1;have hq0:0≤a.den (stdF g) ρ / c:=Int.ediv_nonneg h0 (by omega);have hq1:a.den (stdF g) ρ / c≤a.den (stdF g) ρ:=Int.ediv_le_self _ h0;have e:=Int.mul_ediv_add_emod (a.den (stdF g) ρ) c;have e1:=Int.emod_nonneg (a.den (stdF g) ρ) (show c≠0 by omega);have e2:=Int.emod_lt_of_pos (a.den (stdF g) ρ) hc;refine ⟨⟨jad hq0,jad (show c*(a.den (stdF g) ρ / c)≤a.den (stdF g) ρ by omega),jbj (show a.den (stdF g) ρ<c*(a.den (stdF g) ρ / c)+c by omega),?_⟩,fun t o1 o2=>⟨_,j0j t o1 o2 k _ c (by omega),?_⟩⟩
      · unfold upB
        split
        · rename_i u hu
          refine ⟨jad ?_,trivial⟩;have h2:=(jd0 hf a).2 u hu
          show a.den (stdF g) ρ / c≤u / c
          exact Int.ediv_le_ediv hc h2
        · trivial
      · show [Value.int k (k.wrap ((a.den (stdF g) ρ).tdiv c))]=[Value.int k (a.den (stdF g) ρ / c)]
        have hlo:=jtz k;rw [Int.tdiv_eq_ediv_of_nonneg h0,jc4 k ⟨by omega,by omega⟩]
    · cases h
  · rename_i c
    split at h
    · rename_i hc
      split at h
      · cases h
        have h0:0≤a.den (stdF g) ρ:=jaa hp.1;have e1:=Int.emod_nonneg (a.den (stdF g) ρ) (show c≠0 by omega);have e2:=Int.emod_lt_of_pos (a.den (stdF g) ρ) hc;refine ⟨⟨jad e1,jad (show a.den (stdF g) ρ%c≤c - 1 by omega),trivial⟩,fun t o1 o2=>⟨_,jne t o1 o2 k _ c (by omega),?_⟩⟩
        show [Value.int k ((a.den (stdF g) ρ).tmod c)]=[Value.int k (a.den (stdF g) ρ%c)]
        rw [Int.tmod_eq_emod_of_nonneg h0]
      · cases h
        have e1:=jzg (a.den (stdF g) ρ) c.toNat (by omega);rw [Int.toNat_of_nonneg (Int.le_of_lt hc)] at e1;exact ⟨⟨jad (show -(c - 1)≤(a.den (stdF g) ρ).tmod c from e1.1),jad (show (a.den (stdF g) ρ).tmod c≤c - 1 from e1.2),trivial⟩,fun t o1 o2=>⟨_,jne t o1 o2 k _ c (by omega),rfl⟩⟩
    · cases h
  · rename_i c
    split at h
    · rename_i u hu
      split at h
      · rename_i hk
        simp only [Bool.and_eq_true,decide_eq_true_eq] at hk
        cases h
        have h0:0≤a.den (stdF g) ρ:=jaa hp.1;have h1:=(jd0 hf a).2 u hu;exact ⟨trivial,fun t o1 o2=>⟨_,j0k t o1 o2 h0 h1 hk.1.2 hk.1.1 hk.2,rfl⟩⟩
      · cases h
    · cases h
  · rename_i c
    split at h
    · rename_i hk
      simp only [Bool.and_eq_true,decide_eq_true_eq] at hk
      cases h
      have hc:(0:Int)<((2^c.toNat:Nat):Int):=Int.ofNat_lt.2 (Nat.pow_pos (by omega));refine ⟨jac ?_ ?_,fun t o1 o2=>⟨_,j0l t o1 o2 _ hk.1 hk.2,rfl⟩⟩
      · split
        · rename_i u hu
          exact ⟨jad (Int.ediv_le_ediv hc ((jd0 hf a).2 u hu)),trivial⟩
        · trivial
      · split
        · rename_i u hu
          exact ⟨jad (Int.ediv_le_ediv hc ((jd0 hf a).1 u hu)),trivial⟩
        · trivial
    · cases h
  · rename_i c
    split at h
    · rename_i hk
      simp only [Bool.and_eq_true,decide_eq_true_eq] at hk
      cases h
      exact ⟨trivial,fun t o1 o2=>⟨_,j0m t o1 o2 _ hk.1 hk.2 (jaa hp.1) (jaa hp.2.1),rfl⟩⟩
    · cases h
  · cases h
def withOps {P:Program} {g:Nat→List Int→Int} (c:Ctr P (stdF g)):Ctr P (stdF g):={ c with
  opI:=opsI
  opOk:=fun hf h hp=>j0n hf h hp }
end V
namespace V
theorem j0o (z:Int) : -1≤z.sign∧z.sign≤1:=by rcases jbu z with h | h | h <;> omega
theorem j3r (x y:Int) : -1≤cmpZ x y∧cmpZ x y≤1:=by
  unfold cmpZ
  split
  · omega
  · split <;> omega
section
variable {g:Nat→List Int→Int} {P:Program}
def ctrBit (f:FuncId) (he:entersB P f=true) (lim:Nat)
    (hc:∀{w:World} {k:Nat} {n:Bool} {A:Option Addr} {l c:Nat} {z:Int},Q w k n A l c z→k≤lim→Calls P f #[.agg #[.bool n,.slice A l c]] w fun e w'=>Below w.heap.size w w'∧VF (Fact.eq (.int .i64 (nbits z.natAbs:Nat))) e w'):Ctr P (stdF g) where
  f:=f
  ent:=jan he
  inst:=fun _ _ ar=>match ar with
    | [a]=>match isZ a with
      | some (k,_,t)=>if Nat.ble k lim then some ([],.one (.sc (.i .i64 (ap1 6 t))),[.le (.n 0) (ap1 6 t),.le (ap1 6 t) (.n (64*k:Nat))]) else none
      | none=>none
    | _=>none
  ok:=by
    intro ρ β w fs bx ar vs pre res post _ _ ha hi _
    split at hi
    · split at hi
      · rename_i a _ k c t ea
        split at hi
        · rename_i hk
          cases hi
          obtain ⟨v,rfl,hv⟩:=args1 ha;obtain ⟨n,A,l,c',rfl,hq,-⟩:=jcx ea hv
          have hb:nbits (t.den (stdF g) ρ).natAbs≤64*k:=by
            have h1:=hq.lt;rw [jba,Nat.pow_mul];exact h1
          refine ⟨⟨jad (Int.natCast_nonneg _),jad (Int.ofNat_le.2 hb),trivial⟩,(hc hq (Nat.le_of_ble_eq_true hk)).mono fun e w' ⟨h1,u,h2,h3⟩=>⟨h1,u,h2,?_⟩⟩;have h4:u=.int .i64 (nbits (t.den (stdF g) ρ).natAbs:Nat):=h3;rw [h4]
          rfl
        · cases hi
      · cases hi
    · cases hi
end
section
variable {w:World} {k:Nat} {n:Bool} {A:Option Addr} {len cap:Nat} {z:Int}
theorem jwf (h:Q w k n A len cap z) (hk:k≤29000):Calls Tryz.prog 51 #[.agg #[.bool n,.slice A len cap]] w fun e w'=>Below w.heap.size w w'∧VF (Fact.eq (.int .i64 (nbits z.natAbs:Nat))) e w':=by
  obtain ⟨d,h1,h2,rfl⟩:=h;refine (jfr w n 0 _ d h1 (by omega)).mono fun e w' ⟨hb,he⟩=>⟨hb,VF.eq (he.trans ?_)⟩
  rw [jbe]
end
section
variable (g:Nat→List Int→Int)
def cNeg:Ctr Tryz.prog (stdF g):=ctrZ 31 (by kernel_rfl) 29000 (fun t=>.sub (.n 0) t) (fun z => -z) (fun ρ t=>by rw [jfz,jc7];omega) fun h hk=>j4p h hk
def cShr:Ctr Tryz.prog (stdF g):=ctrSh 99 (by kernel_rfl) 29000 (fun k _=>k) (fun k=>k) (fun t s=>ap2 1 t (ap1 0 s)) (fun z x=>z / 2^x.toNat) (fun _ _ _=>rfl) (fun k x h1 h2=>Nat.le_refl _) (fun k x y hxy=>Nat.le_refl _) fun h hk h0 h1=>j4t h hk h0 h1
def cBit:Ctr Tryz.prog (stdF g):=ctrBit 51 (by kernel_rfl) 29000 fun h hk=>jwf h hk
def cOf:Ctr Tryz.prog (stdF g):=ctrI 35 (by kernel_rfl) (-9223372036854775808) 9223372036854775807 fun h1 h2=>v_of h1 h2
def cNorm:Ctr Tryz.prog (stdF g):=ctrZ 74 (by kernel_rfl) 29000 (fun t=>t) (fun z=>z) (fun _ _=>rfl) fun h hk=>j3t h hk
def cAdd:Ctr Tryz.prog (stdF g):=ctrZZ 33 (by kernel_rfl) 29000 (fun k k'=>max k k'+1) .add (fun z y=>z+y) (fun _ _ _=>rfl) fun h h' hk hk'=>j4q h h' hk hk'
def cSub:Ctr Tryz.prog (stdF g):=ctrZZ 37 (by kernel_rfl) 29000 (fun k k'=>max k k'+1) .sub (fun z y=>z - y) (fun _ _ _=>rfl) fun h h' hk hk'=>j4r h h' hk hk'
def cMul:Ctr Tryz.prog (stdF g):=ctrZZ 34 (by kernel_rfl) 29000 (fun k k'=>k+k') .mul (fun z y=>z*y) (fun _ _ _=>rfl) fun h h' hk hk'=>j3u h h' hk hk'
def cShl:Ctr Tryz.prog (stdF g):=ctrSh 69 (by kernel_rfl) 29000 (fun k x=>k+(x.toNat / 64+1)) (fun k=>k+126) (fun t s=>.mul t (ap1 0 s)) (fun z x=>z*2^x.toNat) (fun _ _ _=>rfl) (fun k x h1 h2=>by omega) (fun k x y hxy=>by omega) fun h hk h0 h1=>j4s h hk h0 h1
def cSign:Ctr Tryz.prog (stdF g):=ctrZI 30 (by kernel_rfl) 29000 (ap1 4) (fun z=>z.sign) (fun _ _=>rfl) j0o fun h hk=>j3v h hk
def cCmp:Ctr Tryz.prog (stdF g):=ctrZZI 36 (by kernel_rfl) 29000 (ap2 5) (fun z y=>cmpZ z y) (fun _ _ _=>rfl) j3r fun h h' hk hk'=>j4u h h' hk hk'
def cDM:Ctr Tryz.prog (stdF g):=ctrDM 72 (by kernel_rfl) 29000 fun h h' hk hk' hy=>jwj h h' hk hk' hy
def cUp:Ctr Tryz.prog (stdF g):=ctrUp 233 (by kernel_rfl) 29000 fun h h' hk hk' hy=>v_up h h' hk hk' hy
def stdT:List (Ctr Tryz.prog (stdF g)):=
  withOps (cDM g) :: -- opt
  cUp g :: -- opt
  cOf g :: -- opt
  cNorm g :: -- opt
  cAdd g :: -- opt
  cSub g :: -- opt
  cMul g :: -- opt
  cShl g :: -- opt
  cSign g :: -- opt
  cCmp g :: -- opt
  cNeg g :: -- opt
  cShr g :: -- opt
  cBit g :: -- opt
  []
end
theorem follows_any:Tryz.prog.follows .mixedOrders=true:=by kernel_rfl
def i64 (t:T):A:=.one (.sc (.i .i64 t))
def vz (k:Nat) (c:Bool) (t:T):A:=.one (.ag [.z k c t])
end V
end Go.Proofs.YtllgjggkchgpbaaGreat
