/- V: contracts made by running a function's body at a call. -/
import Derived.Test.YtllgjggkchgpbaaGreatVd
import Derived.LoopN
set_option linter.unusedVariables false
set_option linter.unusedSimpArgs false
namespace Go.Proofs.YtllgjggkchgpbaaGreat
open Go.RowKit Go.Shelf
namespace V
def iteT (t a b:T):T:=bif a.same b then a else .ite t a b
def iteB (t a b:T):T:=match a,b with
  | a,.n 0=>.and t a
  | .n 0,b=>.and (.not t) b
  | .n 1,b=>.or t b
  | a,.n 1=>.or (.not t) a
  | a,b=>iteT t a b
def mergeX (t:T):X→X→Option X
  | .i k a,.i k' b=>if k=k' then some (.i k (iteT t a b)) else none
  | .b a,.b b=>some (.b (iteB t a b))
  | .z k c a,.z k' c' b=>some (.z (max k k') (c && c') (iteT t a b))
  | .p q o,.p q' o'=>if Nat.beq q q' && Nat.beq o o' then some (.p q o) else none
  | .s0,.s0=>some .s0
  | .cst c,.cst d=>if c.same d then some (.cst c) else none
  | _,_=>none
def mergeL (t:T):List X→List X→Option (List X)
  | [],[]=>some []
  | x::xs,y::ys=>match mergeX t x y,mergeL t xs ys with
    | some z,some zs=>some (z::zs)
    | _,_=>none
  | _,_=>none
def mergeV (t:T):V1→V1→Option V1
  | .sc x,.sc y=>(mergeX t x y).map V1.sc
  | .ag xs,.ag ys=>(mergeL t xs ys).map V1.ag
  | .fn f xs,.fn g ys=>if Nat.beq f g then (mergeL t xs ys).map (V1.fn f) else none
  | _,_=>none
def mergeVs (t:T):List V1→List V1→Option (List V1)
  | [],[]=>some []
  | x::xs,y::ys=>match mergeV t x y,mergeVs t xs ys with
    | some z,some zs=>some (z::zs)
    | _,_=>none
  | _,_=>none
def mergeA (t:T):A→A→Option A
  | .one x,.one y=>(mergeV t x y).map A.one
  | .tup xs,.tup ys=>(mergeVs t xs ys).map A.tup
  | .und,.und=>some .und
  | _,_=>none
section
variable {F:Nat→List Int→Int} {ρ:Nat→Int} {β:Nat→Nat} {w:World} {t:T}
theorem jpf (h:t.bd F ρ=true) (a b:T):(iteT t a b).den F ρ=a.den F ρ:=by
  unfold iteT
  cases e:a.same b
  · show (T.ite t a b).den F ρ=_
    rw [jb8,h];rfl
  · rfl
theorem jpg (h:t.bd F ρ=false) (a b:T):(iteT t a b).den F ρ=b.den F ρ:=by
  unfold iteT
  cases e:a.same b
  · show (T.ite t a b).den F ρ=_
    rw [jb8,h];rfl
  · show a.den F ρ=_
    rw [T.same_eq e]
theorem jt0 (a b:T):(t.bd F ρ=true→(iteB t a b).bd F ρ=a.bd F ρ)∧(t.bd F ρ=false→(iteB t a b).bd F ρ=b.bd F ρ):=by
  have n0:(T.n 0).bd F ρ=false:=rfl;have n1:(T.n 1).bd F ρ=true:=rfl;unfold iteB
  split
  · exact ⟨fun h=>by rw [jck,h,Bool.true_and],fun h=>by rw [jck,h,Bool.false_and,n0]⟩
  · exact ⟨fun h=>by rw [jck,jax,h,n0];rfl,fun h=>by rw [jck,jax,h];simp⟩
  · exact ⟨fun h=>by rw [jew,h,n1];rfl,fun h=>by rw [jew,h];rfl⟩
  · exact ⟨fun h=>by rw [jew,jax,h];simp,fun h=>by rw [jew,jax,h,n1];rfl⟩
  · exact ⟨fun h=>by unfold T.bd;rw [jpf h],fun h=>by unfold T.bd;rw [jpg h]⟩
theorem jhv {x y z:X} {cs:List Value} (e:mergeX t x y=some z):(t.bd F ρ=true→x.has F ρ β w cs→z.has F ρ β w cs)∧(t.bd F ρ=false→y.has F ρ β w cs→z.has F ρ β w cs):=by
  cases x <;> cases y <;> simp only [mergeX] at e <;> try (cases e;done)
  · rename_i k a k' b
    split at e
    · rename_i hk
      cases e;subst hk
      exact ⟨fun h hx=>by show cs=_;rw [jpf h];exact hx,fun h hx=>by show cs=_;rw [jpg h];exact hx⟩
    · cases e
  · rename_i a b
    cases e
    exact ⟨fun h hx=>by show cs=_;rw [(jt0 a b).1 h];exact hx,fun h hx=>by show cs=_;rw [(jt0 a b).2 h];exact hx⟩
  · rename_i k c a k' c' b
    cases e
    refine ⟨fun h=>?_,fun h=>?_⟩
    · rintro ⟨n,A,l,cc,h1,h2,h3⟩
      refine ⟨n,A,l,cc,h1,?_,fun hc=>?_⟩
      · rw [jpf h];exact h2.up (Nat.le_max_left _ _)
      · rw [Bool.and_eq_true] at hc
        rw [jpf h];exact (h3 hc.1).up (Nat.le_max_left _ _)
    · rintro ⟨n,A,l,cc,h1,h2,h3⟩
      refine ⟨n,A,l,cc,h1,?_,fun hc=>?_⟩
      · rw [jpg h];exact h2.up (Nat.le_max_right _ _)
      · rw [Bool.and_eq_true] at hc
        rw [jpg h];exact (h3 hc.2).up (Nat.le_max_right _ _)
  · split at e
    · rename_i hk
      cases e
      rw [Bool.and_eq_true] at hk;exact ⟨fun _ hx=>hx,fun _ hx=>by rw [Nat.eq_of_beq_eq_true hk.1,Nat.eq_of_beq_eq_true hk.2];exact hx⟩
    · cases e
  · cases e;exact ⟨fun _ hx=>hx,fun _ hx=>hx⟩
  · rename_i c d
    split at e
    · rename_i hk
      cases e
      exact ⟨fun _ hx=>hx,fun _ hx=>by rw [Kc.same_eq hk];exact hx⟩
    · cases e
theorem jdb:∀{x y z:List X} {cs:List Value},mergeL t x y=some z→(t.bd F ρ=true→hasL F ρ β w x cs→hasL F ρ β w z cs)∧(t.bd F ρ=false→hasL F ρ β w y cs→hasL F ρ β w z cs)
  | [],[],_,_,e=>by cases e;exact ⟨fun _ h=>h,fun _ h=>h⟩
  | [],_::_,_,_,e=>by cases e
  | _::_,[],_,_,e=>by cases e
  | x::xs,y::ys,z,cs,e=>by
    simp only [mergeL] at e
    split at e
    · rename_i q qs e1 e2
      cases e
      exact ⟨fun h ⟨c,d,h1,h2,h3⟩=>⟨c,d,h1,(jhv e1).1 h h2,(jdb e2).1 h h3⟩,fun h ⟨c,d,h1,h2,h3⟩=>⟨c,d,h1,(jhv e1).2 h h2,(jdb e2).2 h h3⟩⟩
    · cases e
theorem jhw {x y z:V1} {v:Value} (e:mergeV t x y=some z):(t.bd F ρ=true→x.has F ρ β w v→z.has F ρ β w v)∧(t.bd F ρ=false→y.has F ρ β w v→z.has F ρ β w v):=by
  cases x <;> cases y <;> simp only [mergeV] at e <;> try (cases e;done)
  · rename_i x y
    obtain ⟨q,e1,rfl⟩:=Option.map_eq_some_iff.1 e;exact jhv e1
  · rename_i x y
    obtain ⟨q,e1,rfl⟩:=Option.map_eq_some_iff.1 e;exact ⟨fun h ⟨cs,h1,h2⟩=>⟨cs,h1,(jdb e1).1 h h2⟩,fun h ⟨cs,h1,h2⟩=>⟨cs,h1,(jdb e1).2 h h2⟩⟩
  · rename_i f x g y
    split at e
    · rename_i hf
      obtain ⟨q,e1,rfl⟩:=Option.map_eq_some_iff.1 e;have hf':=Nat.eq_of_beq_eq_true hf;subst hf';exact ⟨fun h ⟨cs,h1,h2⟩=>⟨cs,h1,(jdb e1).1 h h2⟩,fun h ⟨cs,h1,h2⟩=>⟨cs,h1,(jdb e1).2 h h2⟩⟩
    · cases e
theorem jer:∀{x y z:List V1} {cs:List Value},mergeVs t x y=some z→(t.bd F ρ=true→hasV F ρ β w x cs→hasV F ρ β w z cs)∧(t.bd F ρ=false→hasV F ρ β w y cs→hasV F ρ β w z cs)
  | [],[],_,_,e=>by cases e;exact ⟨fun _ h=>h,fun _ h=>h⟩
  | [],_::_,_,_,e=>by cases e
  | _::_,[],_,_,e=>by cases e
  | x::xs,y::ys,z,cs,e=>by
    simp only [mergeVs] at e
    split at e
    · rename_i q qs e1 e2
      cases e
      exact ⟨fun h ⟨c,d,h1,h2,h3⟩=>⟨c,d,h1,(jhw e1).1 h h2,(jer e2).1 h h3⟩,fun h ⟨c,d,h1,h2,h3⟩=>⟨c,d,h1,(jhw e1).2 h h2,(jer e2).2 h h3⟩⟩
    · cases e
theorem jls {x y z:A} {v:Value} (e:mergeA t x y=some z):(t.bd F ρ=true→x.has F ρ β w v→z.has F ρ β w v)∧(t.bd F ρ=false→y.has F ρ β w v→z.has F ρ β w v):=by
  cases x <;> cases y <;> simp only [mergeA] at e <;> try (cases e;done)
  · rename_i x y
    obtain ⟨q,e1,rfl⟩:=Option.map_eq_some_iff.1 e;exact jhw e1
  · rename_i x y
    obtain ⟨q,e1,rfl⟩:=Option.map_eq_some_iff.1 e;exact ⟨fun h ⟨cs,h1,h2⟩=>⟨cs,h1,(jer e1).1 h h2⟩,fun h ⟨cs,h1,h2⟩=>⟨cs,h1,(jer e1).2 h h2⟩⟩
  · cases e;exact ⟨fun _ h=>h,fun _ h=>h⟩
end
abbrev Out:=A×List T
def mergeO (t:T):Option Out→Option Out→Option Out
  | some (x,p),some (y,q)=>match mergeA t x y with
    | some z=>some (z,p.filter (fun f=>hasT f q))
    | none=>none
  | _,_=>none
def Imp (F:Nat→List Int→Int) (ρ:Nat→Int) (x y:Out):Prop:=(∀β w v,y.1.has F ρ β w v→x.1.has F ρ β w v)∧(allT F ρ y.2→allT F ρ x.2)
theorem Imp.refl {F:Nat→List Int→Int} {ρ:Nat→Int} (x:Out):Imp F ρ x x:=⟨fun _ _ _ h=>h,fun h=>h⟩
theorem Imp.trans {F:Nat→List Int→Int} {ρ:Nat→Int} {x y z:Out} (h:Imp F ρ x y) (k:Imp F ρ y z):Imp F ρ x z:=⟨fun _ _ _ m=>h.1 _ _ _ (k.1 _ _ _ m),fun m=>h.2 (k.2 m)⟩
theorem jka {F:Nat→List Int→Int} {ρ:Nat→Int}:∀{l:List T},(∀t∈l,t.bd F ρ=true)→allT F ρ l
  | [],_=>trivial
  | t::l,h=>⟨h t List.mem_cons_self,jka fun s hs=>h s (List.mem_cons_of_mem _ hs)⟩
theorem jfo {F:Nat→List Int→Int} {ρ:Nat→Int} {t:T} {a b:Option Out} {x:Out} (e:mergeO t a b=some x) :
    (t.bd F ρ=true→∃y,a=some y∧Imp F ρ x y)∧(t.bd F ρ=false→∃y,b=some y∧Imp F ρ x y):=by
  unfold mergeO at e
  split at e
  · rename_i x' p y' q
    split at e
    · rename_i z e1
      cases e
      refine ⟨fun h=>⟨_,rfl,fun β w v hv=>(jls e1).1 h hv,fun hp=>?_⟩,fun h=>⟨_,rfl,fun β w v hv=>(jls e1).2 h hv,fun hq=>?_⟩⟩
      · exact jka fun s hs=>jdu hp s (List.mem_filter.1 hs).1
      · exact jka fun s hs=>jb9 hq (List.mem_filter.1 hs).2
    · cases e
  · cases e
def splitsA (f:St→Res):Nat→St→(St→Option Out)→Option Out
  | 0,_,_=>none
  | m+1,st,k=>match f st with
    | .ok st'=>k st'
    | .split t=>mergeO t (splitsA f m (withF st t) k) (splitsA f m (withF st (.not t)) k)
    | .bad=>none
def loopN (body:St→(Ex→St→Option Out)→Option Out):Nat→St→(Ex→St→Option Out)→Option Out
  | 0,_,_=>none
  | m+1,st,k=>body st (fun e st'=>match e with
    | .normal=>loopN body m st' k
    | e=>k e st')
def runA {P:Program} {F:Nat→List Int→Int} (tab:List (Ctr P F)) (n:Nat) (rd:Array Oper→St→Res):Code→St→(Ex→St→Option Out)→Option Out
  | .skip,st,k=>k .normal st
  | .label _,st,k=>k .normal st
  | .region _ ops draw,st,k=>match draw with
    | false=>splitsA (runSeq tab n ops ops.toList) 24 st (k .normal)
    | true=>splitsA (rd ops) 24 st (k .normal)
  | .seq a b,st,k=>runA tab n rd a st (fun e st'=>match e with
    | .normal=>runA tab n rd b st' k
    | e=>k e st')
  | .cond c a b,st,k=>match evO st c with
    | some (.one (.sc (.b t)))=>match known2 st.fs t with
      | some true=>runA tab n rd a st k
      | some false=>runA tab n rd b st k
      | none=>mergeO t (runA tab n rd a (withF st t) k) (runA tab n rd b (withF st (.not t)) k)
    | _=>none
  | .block id b,st,k=>runA tab n rd b st (fun e st'=>match e with
    | .exit j=>if j=id then k .normal st' else k (.exit j) st'
    | e=>k e st')
  | .exit id,st,k=>k (.exit id) st
  | .ret,st,k=>k .ret st
  | .loop b,st,k=>loopN (fun st k=>runA tab n rd b st k) 200 st k
  | _,_,_=>none
section
variable {P:Program} {F:Nat→List Int→Int} {ρ:Nat→Int} {w0:World} {n:Nat}
theorem jes {f:St→Res} {G:Prop} {β:Nat→Nat} {a:Act} {w:World}:∀{m:Nat} {st:St} {k:St→Option Out} {x:Out},splitsA f m st k=some x→SH F ρ β w0 n st a w→
    (∀st0 st' y,f st0=.ok st'→k st'=some y→Imp F ρ x y→SH F ρ β w0 n st0 a w→G)→G
  | 0,_,_,_,h,_,_=>by cases h
  | m+1,st,k,x,h,hs,hg=>by
    simp only [splitsA] at h
    split at h
    · rename_i st' e;exact hg st st' x e h (Imp.refl x) hs
    · rename_i t e
      cases ht:t.bd F ρ with
      | true=>
        obtain ⟨y,e1,e2⟩:=(jfo h).1 ht;exact jes e1 (hs.facts (jc9 ht)) fun st0 st' z g1 g2 g3 g4=>hg st0 st' z g1 g2 (e2.trans g3) g4
      | false=>
        obtain ⟨y,e1,e2⟩:=(jfo h).2 ht;exact jes e1 (hs.facts (jc9 (by rw [jax,ht];rfl))) fun st0 st' z g1 g2 g3 g4=>hg st0 st' z g1 g2 (e2.trans g3) g4
    · cases h
theorem jdx {tab:List (Ctr P F)} {rd:Array Oper→St→Res} (hrd:DrawOK P F w0 n rd):∀(c:Code) {st:St} {k:Ex→St→Option Out} {x:Out} {β:Nat→Nat} {a:Act} {w:World} {Q:Exit→Act→World→Prop},
    runA tab n rd c st k=some x→SH F ρ β w0 n st a w→
    (∀e st' y β' a' w',k e st'=some y→Imp F ρ x y→SH F ρ β' w0 n st' a' w'→Q e.to a' w')→c.wp P Q a w
  | .skip,st,k,x,β,a,w,Q,h,hs,hq=>wp_skip (hq .normal st x β a w h (Imp.refl x) hs)
  | .label l,st,k,x,β,a,w,Q,h,hs,hq=>wp_label (hq .normal st x β a w h (Imp.refl x) hs)
  | .region id ops false,st,k,x,β,a,w,Q,h,hs,hq=>
    jes h hs fun st0 st' y e hk hi hs0=>wp_region (jee _ ops.toList (fun i=>by
      by_cases hi:i<ops.size
      · rw [List.getElem?_range hi]
        simp
      · rw [List.getElem?_eq_none (by simpa using hi)]
        simp [Nat.le_of_not_lt hi]) (by simp) hs0 e fun β' a' w' hs'=>hq .normal st' y β' a' w' hk hi hs')
  | .region id ops true,st,k,x,β,a,w,Q,h,hs,hq=>
    jes h hs fun st0 st' y e hk hi hs0=>hrd hs0 e fun β' a' w' hs'=>hq .normal st' y β' a' w' hk hi hs'
  | .seq c d,st,k,x,β,a,w,Q,h,hs,hq=>wp_seq (jdx hrd c h hs fun e st' y β' a' w' hk hi hs'=>by
      cases e with
      | normal=>exact jdx hrd d hk hs' fun e st'' z β'' a'' w'' hk' hi' hs''=>hq e st'' z β'' a'' w'' hk' (hi.trans hi') hs''
      | exit j=>exact hq (.exit j) st' y β' a' w' hk hi hs'
      | ret=>exact hq .ret st' y β' a' w' hk hi hs')
  | .cond c d e',st,k,x,β,a,w,Q,h,hs,hq=>by
    simp only [runA] at h
    split at h
    · rename_i t e
      have hv:a.eval c=.bool (t.bd F ρ):=List.head_eq_of_cons_eq (jay hs.sl e)
      split at h
      · rename_i e2
        exact wp_cond_true (by rw [hv,jas hs.fs t _ e2]) (jdx hrd d h hs hq)
      · rename_i e2
        exact wp_cond_false (by rw [hv,jas hs.fs t _ e2]) (jdx hrd e' h hs hq)
      · cases ht:t.bd F ρ with
        | true=>
          obtain ⟨y,g1,g2⟩:=(jfo h).1 ht;exact wp_cond_true (by rw [hv,ht]) (jdx hrd d g1 (hs.facts (jc9 ht)) fun e st' z β' a' w' hk hi hs'=>hq e st' z β' a' w' hk (g2.trans hi) hs')
        | false=>
          obtain ⟨y,g1,g2⟩:=(jfo h).2 ht;exact wp_cond_false (by rw [hv,ht]) (jdx hrd e' g1 (hs.facts (jc9 (by rw [jax,ht];rfl))) fun e st' z β' a' w' hk hi hs'=>hq e st' z β' a' w' hk (g2.trans hi) hs')
    · cases h
  | .block id b,st,k,x,β,a,w,Q,h,hs,hq=>wp_block (jdx hrd b h hs fun e st' y β' a' w' hk hi hs'=>by
      cases e with
      | normal=>exact hq .normal st' y β' a' w' hk hi hs'
      | exit j=>
        dsimp only at hk
        show if j=id then Q .normal a' w' else Q (.exit j) a' w'
        split at hk
        · rename_i e;rw [if_pos e];exact hq .normal st' y β' a' w' hk hi hs'
        · rename_i e;rw [if_neg e];exact hq (.exit j) st' y β' a' w' hk hi hs'
      | ret=>exact hq .ret st' y β' a' w' hk hi hs')
  | .exit id,st,k,x,β,a,w,Q,h,hs,hq=>wp_exit (hq (.exit id) st x β a w h (Imp.refl x) hs)
  | .ret,st,k,x,β,a,w,Q,h,hs,hq=>wp_ret (hq .ret st x β a w h (Imp.refl x) hs)
  | .loop b,st,k,x,β,a,w,Q,h,hs,hq=>by
    have key:∀(m:Nat) {st:St} {k:Ex→St→Option Out} {x:Out} {β:Nat→Nat} {a:Act} {w:World} {Q:Exit→Act→World→Prop},loopN (fun st k=>runA tab n rd b st k) m st k=some x→SH F ρ β w0 n st a w→
        (∀e st' y β' a' w',k e st'=some y→Imp F ρ x y→SH F ρ β' w0 n st' a' w'→Q e.to a' w')→Code.rounds P b Q m a w:=by
      intro m
      induction m with
      | zero=>intro _ _ _ _ _ _ _ h _ _;cases h
      | succ m ih=>
        intro st k x β a w Q h hs hq;rw [rounds_succ];refine jdx hrd b h hs fun e st' y β' a' w' hk hi hs'=>?_
        cases e with
        | normal=>exact ih hk hs' fun e st'' z β'' a'' w'' hk' hi' hs''=>hq e st'' z β'' a'' w'' hk' (hi.trans hi') hs''
        | exit j=>exact hq (.exit j) st' y β' a' w' hk hi hs'
        | ret=>exact hq .ret st' y β' a' w' hk hi hs'
    exact wp_loop_rounds _ (key _ h hs hq)
  | .rangeFunc _ _ _ _,_,_,_,_,_,_,_,h,_,_=>by cases h
  | .scope _,_,_,_,_,_,_,_,h,_,_=>by cases h
  | .goto _,_,_,_,_,_,_,_,h,_,_=>by cases h
  | .refuse _,_,_,_,_,_,_,_,h,_,_=>by cases h
end
def offB:Nat:=1000
def X.ren:X→X
  | .p q o=>.p (q+offB) o
  | .i k t=>.i k t
  | .b t=>.b t
  | .z k c t=>.z k c t
  | .s0=>.s0
  | .cst c=>.cst c
def V1.ren:V1→V1
  | .sc x=>.sc x.ren
  | .ag xs=>.ag (xs.map X.ren)
  | .fn f xs=>.fn f (xs.map X.ren)
def A.ren:A→A
  | .one a=>.one a.ren
  | .tup l=>.tup (l.map V1.ren)
  | .und=>.und
def Bx.ren (b:Bx):Bx:=⟨b.id+offB,b.ty,b.xs.map X.ren,true⟩
section
variable {F:Nat→List Int→Int} {ρ:Nat→Int} {β:Nat→Nat} {P:Program} {w:World}
def βren (β:Nat→Nat):Nat→Nat:=fun i=>β (i - offB)
theorem X.ren_ok {x:X} {cs:List Value} (h:x.has F ρ β w cs):x.ren.has F ρ (βren β) w cs:=by
  cases x <;> simp only [X.ren,X.has,βren,Nat.add_sub_cancel] at h ⊢ <;> exact h
theorem jgs:∀{xs:List X} {cs:List Value},hasL F ρ β w xs cs→hasL F ρ (βren β) w (xs.map X.ren) cs
  | [],_,h=>by simp only [List.map_nil,hasL] at h ⊢;exact h
  | _::_,_,⟨c,d,h1,h2,h3⟩=>by
    simp only [List.map_cons,hasL];exact ⟨c,d,h1,X.ren_ok h2,jgs h3⟩
theorem V1.ren_ok {x:V1} {v:Value} (h:x.has F ρ β w v):x.ren.has F ρ (βren β) w v:=by
  cases x with
  | sc x=>simp only [V1.ren,V1.has] at h ⊢;exact X.ren_ok h
  | ag xs=>simp only [V1.ren,V1.has] at h ⊢;obtain ⟨cs,h1,h2⟩:=h;exact ⟨cs,h1,jgs h2⟩
  | fn f xs=>simp only [V1.ren,V1.has] at h ⊢;obtain ⟨cs,h1,h2⟩:=h;exact ⟨cs,h1,jgs h2⟩
theorem jph:∀{xs:List V1} {vs:List Value},hasV F ρ β w xs vs→hasV F ρ (βren β) w (xs.map V1.ren) vs
  | [],_,h=>by simp only [List.map_nil,hasV] at h ⊢;exact h
  | _::_,_,⟨c,d,h1,h2,h3⟩=>by
    simp only [List.map_cons,hasV];exact ⟨c,d,h1,V1.ren_ok h2,jph h3⟩
theorem A.ren_ok {x:A} {v:Value} (h:x.has F ρ β w v):x.ren.has F ρ (βren β) w v:=by
  cases x with
  | one x=>simp only [A.ren,A.has] at h ⊢;exact V1.ren_ok h
  | tup xs=>simp only [A.ren,A.has] at h ⊢;obtain ⟨cs,h1,h2⟩:=h;exact ⟨cs,h1,jph h2⟩
  | und=>simp only [A.ren,A.has] at h ⊢;exact h
theorem jpi:∀{xs:List A} {vs:List Value},hasA F ρ β w xs vs→hasA F ρ (βren β) w (xs.map A.ren) vs
  | [],_,h=>by simp only [List.map_nil,hasA] at h ⊢;exact h
  | _::_,_,⟨c,d,h1,h2,h3⟩=>by
    simp only [List.map_cons,hasA];exact ⟨c,d,h1,A.ren_ok h2,jpi h3⟩
theorem jfp:∀{bx:List Bx} {i:Nat} {b:Bx},getB (bx.map Bx.ren) i=some b→∃c,getB bx (i - offB)=some c∧b=c.ren∧i=(i - offB)+offB
  | [],_,_,h=>by cases h
  | c::l,i,b,h=>by
    simp only [List.map_cons,getB] at h
    split at h
    · rename_i e
      cases h
      have e':c.id+offB=i:=Nat.eq_of_beq_eq_true e;refine ⟨c,?_,rfl,by omega⟩;simp only [getB];rw [if_pos];rw [←e',Nat.add_sub_cancel];exact Nat.beq_refl _
    · rename_i e
      obtain ⟨d,h1,h2,h3⟩:=jfp h;refine ⟨d,?_,h2,h3⟩;simp only [getB];rw [if_neg]
      · exact h1
      · intro e2
        apply e;have e3:=Nat.eq_of_beq_eq_true e2
        show Nat.beq (c.id+offB) i=true
        rw [e3,←h3];exact Nat.beq_refl _
theorem jwg {bx:List Bx} (h:bxOK F ρ β w bx):bxOK F ρ (βren β) w (bx.map Bx.ren):=by
  refine ⟨fun i b hi=>?_,fun i j b c hi hj hne=>?_⟩
  · obtain ⟨d,h1,rfl,h3⟩:=jfp hi
    obtain ⟨cs,k1,k2,k3⟩:=h.at_ _ _ h1;exact ⟨cs,k1,k2,jgs k3⟩
  · obtain ⟨d,h1,-,h3⟩:=jfp hi
    obtain ⟨d',h1',-,h3'⟩:=jfp hj;exact h.ne _ _ _ _ h1 h1' (by omega)
end
def finA (P:Program) (m:Nat) (rs:List ResultVar) (e:Ex) (st:St):Option Out:=match e with
  | .exit _=>none
  | _=>match resX P st rs with
    | some vs=>some (mkR vs,st.fs.take (st.fs.length - m))
    | none=>none
def inlX {P:Program} {F:Nat→List Int→Int} (tab:List (Ctr P F)) (f:FuncId) (fs:List T) (bx:List Bx) (ar:List A):Option (List T×A×List T):=
  match P.funcs[f]? with
  | some fn=>match fn.body with
    | some c=>if Nat.ble ar.length fn.ntmps && Nat.ble fn.results.toList.length 4 then
        match runA tab fn.ntmps (drawX tab fn.ntmps) c ⟨numb 0 (ar.map A.ren),bx.map Bx.ren,fs⟩ (finA P fs.length fn.results.toList) with
        | some (x,p)=>if x.noP then some ([],x,p) else none
        | none=>none
      else none
    | none=>none
  | none=>none
section
variable {F:Nat→List Int→Int} {P:Program}
theorem jlt {ρ:Nat→Int}:∀{l:List T} {k:Nat},allT F ρ l→allT F ρ (l.take k)
  | [],k,_=>by rw [List.take_nil];trivial
  | _::_,0,_=>trivial
  | t::l,k+1,h=>⟨h.1,jlt h.2⟩
def Ctr.inl (hm:P.follows .mixedOrders=true) (tab:List (Ctr P F)) (f:FuncId) (he:Enters P f):Ctr P F where
  f:=f
  inst:=inlX tab f
  ent:=he
  ok:=by
    intro ρ β w fs bx ar vs pre res post hf hb ha hi hp;unfold inlX at hi
    split at hi
    · rename_i fn hfn
      split at hi
      · rename_i c hbody
        split at hi
        · rename_i hcc
          rw [Bool.and_eq_true] at hcc
          split at hi
          · rename_i x p hrun
            split at hi
            · rename_i hno
              cases hi
              have ha':=jpi ha;have hb':=jwg hb;have hlen:=jj4 ha';have hps:ar.length≤fn.ntmps:=Nat.le_of_ble_eq_true hcc.1;have hl2:(ar.map A.ren).length=ar.length:=List.length_map _
              have hs:SH F ρ (βren β) w fn.ntmps ⟨numb 0 (ar.map A.ren),bx.map Bx.ren,fs⟩ { tmps:=vs.toArray ++ Array.replicate (fn.ntmps - vs.toArray.size) undef,defers:=[] } w:=by
                refine ⟨fun t x hx=>?_,hb',fun i b hi hr=>?_,hf,Below.refl _ _,rfl,by simp;omega,fun d x hx=>?_⟩
                · obtain ⟨-,h7,u,h8,h9⟩:=jhs (i:=0) ha' hx
                  have:(vs.toArray ++ Array.replicate (fn.ntmps - vs.toArray.size) undef).getD t undef=u:=by
                    simp only [Nat.sub_zero] at h8;rw [Array.getD_eq_getD_getElem?,Array.getElem?_append_left (by simp;omega)];simp [h8]
                  show x.has F ρ _ w ((vs.toArray ++ Array.replicate (fn.ntmps - vs.toArray.size) undef).getD t undef)
                  rw [this];exact h9
                · obtain ⟨d,-,e,-⟩:=jfp hi
                  rw [e] at hr
                  cases hr
                · have:=(jhs (i:=0) ha' hx).2.1
                  omega
              have hcalls:Calls P f vs.toArray w (fun e w'=>allT F ρ post∧Below w.heap.size w w'∧∃u,e=.returned u∧res.has F ρ β w' u):=by
                refine calls_of_wp hfn hbody (jdx (jfn hm tab fn.ntmps w) c hrun hs fun e st' y β' a' w' hk hi hs'=>?_)
                have main:(match resX P st' fn.results.toList with | some vs=>some (mkR vs,st'.fs.take (st'.fs.length - fs.length)) | none=>none)=some y→(a'.defers=[]∧∃v,(results fn a'.tmps).run P w'=.ok v w'∧(allT F ρ post∧Below w.heap.size w w'∧∃u,Ending.returned v=.returned u∧res.has F ρ β w' u)):=by
                  intro hk
                  split at hk
                  · rename_i vs' e'
                    cases hk
                    obtain ⟨u,m1,m2⟩:=jiq (P:=P) hs' (Nat.le_of_ble_eq_true hcc.2) e';exact ⟨hs'.df,u,m1,hi.2 (jlt hs'.fs),hs'.low,u,rfl,j3n hno (hi.1 _ _ _ m2)⟩
                  · cases hk
                cases e with
                | normal=>exact main hk
                | exit id=>cases hk
                | ret=>exact main hk
              refine ⟨?_,hcalls.mono fun e w' h=>h.2⟩;obtain ⟨e,w',fr,hr,-⟩:=hcalls [];exact hr.1
            · cases hi
          · cases hi
        · cases hi
      · cases hi
    · cases hi
end
def X.mapT (f:T→T):X→X
  | .i k t=>.i k (f t)
  | .b t=>.b (f t)
  | .z k c t=>.z k c (f t)
  | .p q o=>.p q o
  | .s0=>.s0
  | .cst c=>.cst c
def V1.mapT (f:T→T):V1→V1
  | .sc x=>.sc (x.mapT f)
  | .ag xs=>.ag (xs.map (X.mapT f))
  | .fn g xs=>.fn g (xs.map (X.mapT f))
def A.mapT (f:T→T):A→A
  | .one a=>.one (a.mapT f)
  | .tup l=>.tup (l.map (V1.mapT f))
  | .und=>.und
section
variable {F:Nat→List Int→Int} {ρ:Nat→Int} {β:Nat→Nat} {P:Program} {w:World} {f:T→T}
theorem X.mapT_ok (hf:∀t,(f t).den F ρ=t.den F ρ) {x:X} {cs:List Value} (h:x.has F ρ β w cs):(x.mapT f).has F ρ β w cs:=by
  cases x with
  | i k t=>show cs=_;rw [hf];exact h
  | b t=>show cs=_;unfold T.bd;rw [hf];exact h
  | z k c t=>obtain ⟨n,A,l,cc,h1,h2,h3⟩:=h;exact ⟨n,A,l,cc,h1,by rw [hf];exact h2,fun hc=>by rw [hf];exact h3 hc⟩
  | p q o=>exact h
  | s0=>exact h
  | cst c=>exact h
theorem jhx (hf:∀t,(f t).den F ρ=t.den F ρ):∀{xs:List X} {cs:List Value},hasL F ρ β w xs cs→hasL F ρ β w (xs.map (X.mapT f)) cs
  | [],_,h=>h
  | _::_,_,⟨c,d,h1,h2,h3⟩=>⟨c,d,h1,X.mapT_ok hf h2,jhx hf h3⟩
theorem V1.mapT_ok (hf:∀t,(f t).den F ρ=t.den F ρ) {x:V1} {v:Value} (h:x.has F ρ β w v):(x.mapT f).has F ρ β w v:=by
  cases x with
  | sc x=>exact X.mapT_ok hf h
  | ag xs=>obtain ⟨cs,h1,h2⟩:=h;exact ⟨cs,h1,jhx hf h2⟩
  | fn g xs=>obtain ⟨cs,h1,h2⟩:=h;exact ⟨cs,h1,jhx hf h2⟩
theorem jlu (hf:∀t,(f t).den F ρ=t.den F ρ):∀{xs:List V1} {vs:List Value},hasV F ρ β w xs vs→hasV F ρ β w (xs.map (V1.mapT f)) vs
  | [],_,h=>h
  | _::_,_,⟨c,d,h1,h2,h3⟩=>⟨c,d,h1,V1.mapT_ok hf h2,jlu hf h3⟩
theorem A.mapT_ok (hf:∀t,(f t).den F ρ=t.den F ρ) {x:A} {v:Value} (h:x.has F ρ β w v):(x.mapT f).has F ρ β w v:=by
  cases x with
  | one x=>exact V1.mapT_ok hf h
  | tup xs=>obtain ⟨cs,h1,h2⟩:=h;exact ⟨cs,h1,jlu hf h2⟩
  | und=>exact h
def Ctr.nf {R:Rs} (hR:RsOK F R) (c:Ctr P F):Ctr P F where
  f:=c.f
  inst:=fun fs bx ar=>match c.inst fs bx ar with
    | some (pre,res,post)=>some (pre,res.mapT (V.nf R fs),post)
    | none=>none
  ent:=c.ent
  ok:=by
    intro ρ β w fs bx ar vs pre res post hf hb ha hi hp
    split at hi
    · rename_i pre' res' post' e
      cases hi
      obtain ⟨h1,h2⟩:=c.ok hf hb ha e hp;exact ⟨h1,h2.mono fun e w' ⟨k1,u,k2,k3⟩=>⟨k1,u,k2,A.mapT_ok (fun t=>(jbf hR hf t).1) k3⟩⟩
    · cases hi
end
def litL:T→Option (List Int)
  | .e=>some []
  | .c (.n z) l=>(litL l).map (z :: ·)
  | _=>none
def foldT (ev:Nat→List Int→Option Int):T→T×T
  | .v i=>(.v i,.e)
  | .n z=>(.n z,.e)
  | .add a b=>(match (foldT ev a).1,(foldT ev b).1 with
    | .n x,.n y=>forceZ (x+y) T.n
    | x,y=>.add x y,.e)
  | .sub a b=>(match (foldT ev a).1,(foldT ev b).1 with
    | .n x,.n y=>forceZ (x - y) T.n
    | x,y=>.sub x y,.e)
  | .mul a b=>(match (foldT ev a).1,(foldT ev b).1 with
    | .n x,.n y=>forceZ (x*y) T.n
    | x,y=>.mul x y,.e)
  | .lt a b=>(match (foldT ev a).1,(foldT ev b).1 with
    | .n x,.n y=>bif decide (x<y) then .n 1 else .n 0
    | x,y=>.lt x y,.e)
  | .le a b=>(match (foldT ev a).1,(foldT ev b).1 with
    | .n x,.n y=>bif decide (x≤y) then .n 1 else .n 0
    | x,y=>.le x y,.e)
  | .eq a b=>(match (foldT ev a).1,(foldT ev b).1 with
    | .n x,.n y=>bif x == y then .n 1 else .n 0
    | x,y=>.eq x y,.e)
  | .not a=>(match (foldT ev a).1 with
    | .n x=>bif x != 0 then .n 0 else .n 1
    | x=>.not x,.e)
  | .and a b=>(match (foldT ev a).1,(foldT ev b).1 with
    | .n x,.n y=>bif x != 0 && y != 0 then .n 1 else .n 0
    | x,y=>.and x y,.e)
  | .or a b=>(match (foldT ev a).1,(foldT ev b).1 with
    | .n x,.n y=>bif x != 0 || y != 0 then .n 1 else .n 0
    | x,y=>.or x y,.e)
  | .ite a b d=>(match (foldT ev a).1 with
    | .n x=>bif x != 0 then (foldT ev b).1 else (foldT ev d).1
    | x=>.ite x (foldT ev b).1 (foldT ev d).1,.e)
  | .ap f l=>(match litL (foldT ev l).2 with
    | some zs=>match ev f zs with
      | some z=>forceZ z T.n
      | none=>.ap f (foldT ev l).2
    | none=>.ap f (foldT ev l).2,.e)
  | .e=>(.e,.e)
  | .c a l=>(.e,.c (foldT ev a).1 (foldT ev l).2)
def EvOK (F:Nat→List Int→Int) (ev:Nat→List Int→Option Int):Prop:=∀f l z,ev f l=some z→F f l=z
section
variable {F:Nat→List Int→Int} {ρ:Nat→Int} {β:Nat→Nat} {P:Program} {w:World} {ev:Nat→List Int→Option Int}
theorem jt1:∀{l:T} {zs:List Int},litL l=some zs→l.denL F ρ=zs
  | .e,zs,h=>by cases h;rfl
  | .c (.n z) l,zs,h=>by
    simp only [litL] at h;obtain ⟨r,h1,rfl⟩:=Option.map_eq_some_iff.1 h;rw [js6,jt1 h1]
    rfl
  | .c (.v _) _,_,h=>by cases h
  | .c (.add _ _) _,_,h=>by cases h
  | .c (.sub _ _) _,_,h=>by cases h
  | .c (.mul _ _) _,_,h=>by cases h
  | .c (.lt _ _) _,_,h=>by cases h
  | .c (.le _ _) _,_,h=>by cases h
  | .c (.eq _ _) _,_,h=>by cases h
  | .c (.not _) _,_,h=>by cases h
  | .c (.and _ _) _,_,h=>by cases h
  | .c (.or _ _) _,_,h=>by cases h
  | .c (.ite _ _ _) _,_,h=>by cases h
  | .c (.ap _ _) _,_,h=>by cases h
  | .c .e _,_,h=>by cases h
  | .c (.c _ _) _,_,h=>by cases h
  | .v _,_,h=>by cases h
  | .n _,_,h=>by cases h
  | .add _ _,_,h=>by cases h
  | .sub _ _,_,h=>by cases h
  | .mul _ _,_,h=>by cases h
  | .lt _ _,_,h=>by cases h
  | .le _ _,_,h=>by cases h
  | .eq _ _,_,h=>by cases h
  | .not _,_,h=>by cases h
  | .and _ _,_,h=>by cases h
  | .or _ _,_,h=>by cases h
  | .ite _ _ _,_,h=>by cases h
  | .ap _ _,_,h=>by cases h
theorem jhy (b:Bool):(bif b then T.n 1 else T.n 0).den F ρ=b2i b:=by cases b <;> rfl
theorem ja0 (he:EvOK F ev):∀(t:T),(foldT ev t).1.den F ρ=t.den F ρ∧(foldT ev t).2.denL F ρ=t.denL F ρ
  | .v i=>⟨rfl,rfl⟩
  | .n z=>⟨rfl,rfl⟩
  | .add a b=>⟨by
      have h1:=(ja0 he a).1;have h2:=(ja0 he b).1;rw [jd7,←h1,←h2];simp only [foldT]
      split
      · rename_i e1 e2;rw [e1,e2,jcv];rfl
      · rw [jd7],rfl⟩
  | .sub a b=>⟨by
      have h1:=(ja0 he a).1;have h2:=(ja0 he b).1;rw [jfz,←h1,←h2];simp only [foldT]
      split
      · rename_i e1 e2;rw [e1,e2,jcv];rfl
      · rw [jfz],rfl⟩
  | .mul a b=>⟨by
      have h1:=(ja0 he a).1;have h2:=(ja0 he b).1;rw [jc3,←h1,←h2];simp only [foldT]
      split
      · rename_i e1 e2;rw [e1,e2,jcv];rfl
      · rw [jc3],rfl⟩
  | .lt a b=>⟨by
      have h1:=(ja0 he a).1;have h2:=(ja0 he b).1
      show _=b2i (decide (a.den F ρ<b.den F ρ))
      rw [←h1,←h2];simp only [foldT]
      split
      · rename_i e1 e2;rw [e1,e2,jhy];rfl
      · rfl,rfl⟩
  | .le a b=>⟨by
      have h1:=(ja0 he a).1;have h2:=(ja0 he b).1
      show _=b2i (decide (a.den F ρ≤b.den F ρ))
      rw [←h1,←h2];simp only [foldT]
      split
      · rename_i e1 e2;rw [e1,e2,jhy];rfl
      · rfl,rfl⟩
  | .eq a b=>⟨by
      have h1:=(ja0 he a).1;have h2:=(ja0 he b).1
      show _=b2i (a.den F ρ == b.den F ρ)
      rw [←h1,←h2];simp only [foldT]
      split
      · rename_i e1 e2;rw [e1,e2,jhy];rfl
      · rfl,rfl⟩
  | .not a=>⟨by
      have h1:=(ja0 he a).1
      show _=b2i (!(a.den F ρ != 0))
      rw [←h1];simp only [foldT]
      split
      · rename_i x e1
        rw [e1,jc7]
        cases h:(x != 0) <;> rfl
      · rfl,rfl⟩
  | .and a b=>⟨by
      have h1:=(ja0 he a).1;have h2:=(ja0 he b).1
      show _=b2i ((a.den F ρ != 0) && (b.den F ρ != 0))
      rw [←h1,←h2];simp only [foldT]
      split
      · rename_i e1 e2;rw [e1,e2,jhy];rfl
      · rfl,rfl⟩
  | .or a b=>⟨by
      have h1:=(ja0 he a).1;have h2:=(ja0 he b).1
      show _=b2i ((a.den F ρ != 0) || (b.den F ρ != 0))
      rw [←h1,←h2];simp only [foldT]
      split
      · rename_i e1 e2;rw [e1,e2,jhy];rfl
      · rfl,rfl⟩
  | .ite a b d=>⟨by
      have h1:=(ja0 he a).1;have h2:=(ja0 he b).1;have h3:=(ja0 he d).1
      show _=if (a.den F ρ != 0)=true then b.den F ρ else d.den F ρ
      rw [←h1,←h2,←h3];simp only [foldT]
      split
      · rename_i x e1
        rw [e1,jc7]
        cases h:(x != 0) <;> rfl
      · rfl,rfl⟩
  | .ap f l=>⟨by
      have h1:=(ja0 he l).2;rw [js5,←h1];simp only [foldT]
      split
      · rename_i zs e1
        split
        · rename_i z e2
          rw [jcv,jc7,jt1 e1,he _ _ _ e2]
        · rw [js5]
      · rw [js5],rfl⟩
  | .e=>⟨rfl,rfl⟩
  | .c a l=>⟨rfl,by
      show (T.c (foldT ev a).1 (foldT ev l).2).denL F ρ=_
      rw [js6,js6,(ja0 he a).1,(ja0 he l).2]⟩
def foldF (ev:Nat→List Int→Option Int) (t:T):T:=(foldT ev t).1
theorem jkb (he:EvOK F ev) (t:T):(foldF ev t).den F ρ=t.den F ρ:=(ja0 he t).1
def notLit:T→Bool
  | .n _=>false
  | _=>true
theorem jei (he:EvOK F ev):∀{l:List T},allT F ρ l↔allT F ρ (l.map (foldF ev))
  | []=>Iff.rfl
  | t::l=>by
    show _∧_↔_∧_
    rw [jei he (l:=l),show (foldF ev t).bd F ρ=t.bd F ρ by unfold T.bd;rw [jkb he]]
theorem jhz {p:T→Bool}:∀{l:List T},allT F ρ l→allT F ρ (l.filter p):=fun h=>jka fun t ht=>jdu h t (List.mem_filter.1 ht).1
def Ctr.fold (he:EvOK F ev) (c:Ctr P F):Ctr P F where
  f:=c.f
  inst:=fun fs bx ar=>match c.inst fs bx ar with
    | some (pre,res,post)=>some (pre.map (foldF ev),res.mapT (foldF ev),(post.map (foldF ev)).filter notLit)
    | none=>none
  ent:=c.ent
  ok:=by
    intro ρ β w fs bx ar vs pre res post hf hb ha hi hp
    split at hi
    · rename_i pre' res' post' e
      cases hi
      obtain ⟨h1,h2⟩:=c.ok hf hb ha e ((jei he).2 hp);exact ⟨jhz ((jei he).1 h1),h2.mono fun e w' ⟨k1,u,k2,k3⟩=>⟨k1,u,k2,A.mapT_ok (fun t=>jkb he t) k3⟩⟩
    · cases hi
  opI:=fun fs op k a b=>match c.opI fs op k a b with
    | some (pre,x,post)=>some (pre.map (foldF ev),x.mapT (foldF ev),(post.map (foldF ev)).filter notLit)
    | none=>none
  opOk:=by
    intro ρ β w op k fs a b pre x post hf h hp
    split at h
    · rename_i pre' x' post' e
      cases h
      obtain ⟨h1,h2⟩:=c.opOk (β:=β) (w:=w) hf e ((jei he).2 hp);refine ⟨jhz ((jei he).1 h1),fun t o1 o2=>?_⟩;obtain ⟨v,k1,k2⟩:=h2 t o1 o2;exact ⟨v,k1,X.mapT_ok (fun t=>jkb he t) k2⟩
    · cases h
end
end V
end Go.Proofs.YtllgjggkchgpbaaGreat
