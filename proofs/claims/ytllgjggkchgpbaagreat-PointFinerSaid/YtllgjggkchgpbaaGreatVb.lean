/- V: regions, code, functions. -/
import Derived.Test.YtllgjggkchgpbaaGreatVa
import Derived.LoopN
set_option linter.unusedVariables false
set_option linter.unusedSimpArgs false
namespace Go.Proofs.YtllgjggkchgpbaaGreat
open Go.RowKit Go.Shelf
namespace V
def cellsX:V1→Option (List X)
  | .sc x=>if Nat.beq x.w 1 then some [x] else none
  | .ag xs=>some xs
  | .fn _ _=>none
def zeroX (P:Program) (t:TypeId):Option V1:=match P.info? t with
  | some i=>match i.zero with
    | some z=>constA z
    | none=>none
  | none=>none
def isB:Value→Bool
  | .bool _=>true
  | _=>false
inductive Yl where
  | yes
  | no
  | split (t:T)
  | bad
def wantG (ops:Array Oper) (st:St) (o:Oper):Yl:=match o.guard with
  | none=>.yes
  | some (g,want)=>match (ops[g]?).bind (·.dst) with
    | none=>.no
    | some d=>match get st.sl d with
      | some (.one (.sc (.b c)))=>match known2 st.fs c with
        | some r=>if r == want then .yes else .no
        | none=>.split (splT st.fs c)
      | some .und=>.no
      | _=>.bad
def wantX (ops:Array Oper) (st:St) (o:Oper):Yl:=match wantG ops st o with
  | .yes=>match needX st o.op with
    | some t=>.split t
    | none=>.yes
  | y=>y
theorem j0d {ops:Array Oper} {st:St} {o:Oper} (h:wantX ops st o=.yes):wantG ops st o=.yes:=by
  unfold wantX at h
  split at h
  · rename_i e;exact e
  · rename_i y _;exact h
theorem j0e {ops:Array Oper} {st:St} {o:Oper} (h:wantX ops st o=.no):wantG ops st o=.no:=by
  unfold wantX at h
  split at h
  · split at h <;> cases h
  · exact h
def setV (st:St) (d:Nat) (x:A) (post:List T):St:={ st with sl:=(d,x)::del d st.sl,fs:=post ++ st.fs }
def mkBox (st:St) (d:Nat) (T:TypeId) (xs:List X) (n:Nat):Option St:=
  if decide (d<n) && fresh d st && !(xs.any (X.mp d)) then some { st with sl:=(d,.one (.sc (.p d 0)))::del d st.sl,bx:=⟨d,T,xs,false⟩::delB d st.bx } else none
def placesX (P:Program):List Field→Option (List (Nat×Nat))
  | []=>some []
  | f::r=>match sizeN P f.type,placesX P r with
    | some k,some l=>some ((f.offset,k)::l)
    | _,_=>none
def fillX (st:St) (pl:List (Nat×Nat)):List (Nat×Operand)→List X→Option (List X)
  | [],xs=>some xs
  | (i,o)::r,xs=>match pl[i]?,evO st o with
    | some (off,k),some (.one v)=>match cellsX v with
      | some ys=>if Nat.beq (widths ys) k then (match putX xs ys off with
        | some zs=>fillX st pl r zs
        | none=>none) else none
      | none=>none
    | _,_=>none
def buildX (P:Program) (st:St) (t:TypeId) (parts:List (Nat×Operand)):Option A:=match P.underlying t with
  | some (.struct fs)=>match zeroX P t,placesX P fs.toList with
    | some v,some pl=>match cellsX v with
      | some xs=>(fillX st pl parts xs).map (fun zs=>A.one (.ag zs))
      | none=>none
    | _,_=>none
  | _=>none
def pureX2 (P:Program) (st:St) (op:Op):Option A:=match pureX P st op with
  | some x=>some x
  | none=>match op with
    | .build t parts=>buildX P st t parts.toList
    | _=>none
def step1 {P:Program} {F:Nat→List Int→Int} (tab:List (Ctr P F)) (n:Nat) (st:St) (o:Oper):Option St:=
  match pureX2 P st o.op,o.dst with
  | some x,some d=>if d<n then some (setV st d x []) else none
  | some _,none=>none
  | none,dst=>match o.op,dst with
    | .alloc T,some d=>match zeroX P T with
      | some v=>match cellsX v with
        | some xs=>mkBox st d T xs n
        | none=>none
      | none=>none
    | .box T x,some d=>match evO st x with
      | some (.one v)=>match cellsX v with
        | some xs=>mkBox st d T xs n
        | none=>none
      | _=>none
    | .store T x y,none=>match evO st x,evO st y with
      | some (.one (.sc (.p i off))),some (.one v)=>match getB st.bx i,cellsX v with
        | some b,some ys=>match putX b.xs ys off,sizeN P T with
          | some zs,some m=>if !b.ro && Nat.beq (widths ys) m && ((ys ++ b.xs).all X.noU || (st.noZ && zs.all X.noZ)) then some { st with bx:=updB st.bx i zs } else none
          | _,_=>none
        | _,_=>none
      | _,_=>none
    | op,some d=>match callX tab st op with
      | some (x,post)=>if d<n then some (setV st d x post) else none
      | none=>none
    | _,_=>none
section
variable {F:Nat→List Int→Int} {ρ:Nat→Int} {β:Nat→Nat} {P:Program} {w w' w0:World} {n:Nat} {st:St} {a:Act}
theorem jch {v:V1} {u:Value} {xs:List X} (h:v.has F ρ β w u) (k:cellsX v=some xs):∃cs,u.cells=cs.toArray∧hasL F ρ β w xs cs:=by
  cases v with
  | sc x=>
    simp only [cellsX] at k
    split at k
    · cases k
      refine ⟨[u],?_,[u],[],rfl,h,rfl⟩
      cases x with
      | i kk t=>rw [List.head_eq_of_cons_eq h];rfl
      | b t=>rw [List.head_eq_of_cons_eq h];rfl
      | p b o=>rw [List.head_eq_of_cons_eq h];rfl
      | s0=>rw [List.head_eq_of_cons_eq h];rfl
      | cst c=>rw [List.head_eq_of_cons_eq h];cases c <;> rfl
      | z kk cn t=>rename_i e;cases e
    · cases k
  | ag ys=>
    cases k
    obtain ⟨cs,h1,h2⟩:=h;exact ⟨cs,by rw [h1];rfl,h2⟩
  | fn f c=>cases k
theorem jj2 {t:TypeId} {v:V1} (h:zeroX P t=some v):∃z,(zeroValue t).run P w=.ok z w∧v.has F ρ β w z:=by
  unfold zeroX at h
  split at h
  · rename_i i e1
    split at h
    · rename_i z e2
      exact ⟨z,by simp [zeroValue,typeInfo,e1,e2],jlh h⟩
    · cases h
  · cases h
theorem jll {ops:Array Oper} {o:Oper} (hs:slOK F ρ β w a st.sl) (hf:allT F ρ st.fs) (hn:∀d,(get st.sl d).isSome=true→d<a.tmps.size) (h:wantX ops st o=.yes):Region.wanted o (yielded ops a.tmps)=true:=by
  replace h:=j0d h;unfold wantG at h;unfold Region.wanted
  split at h
  · rename_i e;rw [e]
  · rename_i g want e
    rw [e]
    split at h
    · cases h
    · rename_i d e2
      split at h
      · rename_i c e3
        split at h
        · rename_i r e4
          split at h
          · rename_i e5
            have hv:a.tmps.getD d undef=.bool (c.bd F ρ):=List.head_eq_of_cons_eq (hs d _ e3);have hd:=hn d (by rw [e3];rfl)
            have hv2:a.tmps[d]? = some (.bool (c.bd F ρ)):=by
              rw [Array.getD_eq_getD_getElem?,Array.getElem?_eq_getElem hd] at hv;rw [Array.getElem?_eq_getElem hd];exact congrArg some hv
            simp only [yielded,e2,Option.bind_some,hv2,jas hf c r e4]
            simpa using e5
          · cases h
        · cases h
      · cases h
      · cases h
theorem jot {ops:Array Oper} {o:Oper} (hs:slOK F ρ β w a st.sl) (hf:allT F ρ st.fs) (hn:∀d,(get st.sl d).isSome=true→d<a.tmps.size) (h:wantX ops st o=.no):Region.wanted o (yielded ops a.tmps)=false:=by
  replace h:=j0e h;unfold wantG at h;unfold Region.wanted
  split at h
  · cases h
  · rename_i g want e
    rw [e]
    split at h
    · rename_i e2
      simp [yielded,e2]
    · rename_i d e2
      split at h
      · rename_i c e3
        split at h
        · rename_i r e4
          split at h
          · cases h
          · rename_i e5
            have hv:a.tmps.getD d undef=.bool (c.bd F ρ):=List.head_eq_of_cons_eq (hs d _ e3);have hd:=hn d (by rw [e3];rfl)
            have hv2:a.tmps[d]? = some (.bool (c.bd F ρ)):=by
              rw [Array.getD_eq_getD_getElem?,Array.getElem?_eq_getElem hd] at hv;rw [Array.getElem?_eq_getElem hd];exact congrArg some hv
            simp only [yielded,e2,Option.bind_some,hv2,jas hf c r e4]
            simpa using e5
        · cases h
      · rename_i e3
        have hv:a.tmps.getD d undef=undef:=hs d _ e3;have hd:=hn d (by rw [e3];rfl)
        have hv2:a.tmps[d]? = some undef:=by
          rw [Array.getD_eq_getD_getElem?,Array.getElem?_eq_getElem hd] at hv;rw [Array.getElem?_eq_getElem hd];exact congrArg some hv
        simp only [yielded,e2,Option.bind_some,hv2]
        rfl
      · cases h
theorem jip:∀{fs:List Field} {pl:List (Nat×Nat)},placesX P fs=some pl→(fs.mapM (fun f=>do pure (f.offset,←sizeOf f.type)):Sem (List (Nat×Nat))).run P w=.ok pl w
  | [],_,h=>by
    cases h
    rfl
  | f::r,pl,h=>by
    simp only [placesX] at h
    split at h
    · rename_i k l e1 e2
      cases h
      rw [List.mapM_cons];simp only [Sem.run_bind,jcp e1,Result.andThen_ok,Sem.run_pure,jip e2]
    · cases h
theorem jtm:∀(ds:List Value) (n off:Nat) (cs:List Value),off+n+ds.length≤cs.length→((ds.zipIdx n).foldl (fun (c:Array Value) (p:Value×Nat)=>c.setIfInBounds (off+p.2) p.1) cs.toArray)=(cs.take (off+n) ++ ds ++ cs.drop (off+n+ds.length)).toArray
  | [],n,off,cs,h=>by simp
  | d::ds,n,off,cs,h=>by
    simp only [List.length_cons] at h;rw [List.zipIdx_cons,List.foldl_cons,List.setIfInBounds_toArray,jtm ds (n+1) off (cs.set (off+n) d) (by simp;omega)]
    congr 1
    have hlt:off+n<cs.length:=by omega
    have e1:(cs.set (off+n) d).take (off+(n+1))=cs.take (off+n) ++ [d]:=by
      rw [show off+(n+1)=(off+n)+1 by omega,List.take_add_one,List.take_set_of_le (Nat.le_refl _)];simp [hlt]
    have e2:(cs.set (off+n) d).drop (off+(n+1)+ds.length)=cs.drop (off+n+(d::ds).length):=by
      rw [List.drop_set_of_lt (by omega)];simp only [List.length_cons]
      congr 1
      omega
    rw [e1,e2];simp
theorem jou {st:St} {a:Act} (hs:slOK F ρ β w a st.sl) {pl:List (Nat×Nat)} {pla:Nat→Option (Nat×Nat)} (hpl:∀i:Nat,pla i=pl[i]?):∀{parts:List (Nat×Operand)} {xs zs:List X} {cs:List Value},fillX st pl parts xs=some zs→hasL F ρ β w xs cs→
    ∃ds,Instr.fill pla cs.toArray (parts.map fun p=>(p.1,a.eval p.2))=some ds.toArray∧hasL F ρ β w zs ds
  | [],xs,zs,cs,h,hx=>by
    cases h
    exact ⟨cs,rfl,hx⟩
  | (i,o)::r,xs,zs,cs,h,hx=>by
    simp only [fillX] at h
    split at h
    · rename_i off k v e1 e2
      split at h
      · rename_i ys e3
        split at h
        · rename_i hw
          split at h
          · rename_i ms e4
            obtain ⟨us,g1,g2⟩:=jch (jay hs e2) e3;obtain ⟨g3,g4⟩:=jm5 hx g2 e4;obtain ⟨ds,g5,g6⟩:=jou hs hpl h g3;have hl:=hasL.len g2;have hk:us.length=k:=hl.trans (Nat.eq_of_beq_eq_true hw);refine ⟨ds,?_,g6⟩;simp only [List.map_cons,Instr.fill,hpl,e1];rw [if_neg (by simp [g1,hk];omega),g1];have hz:=jtm us 0 off cs (by omega);simp only [Nat.add_zero] at hz
            have hf:(us.toArray.zipIdx.foldl (fun (cs:Array Value) (x:Value×Nat)=>match x with | (c,j)=>cs.setIfInBounds (off+j) c) cs.toArray)=(cs.take off ++ us ++ cs.drop (off+us.length)).toArray:=by
              rw [←hz,←Array.foldl_toList];simp
            rw [hf];exact g5
          · cases h
        · cases h
      · cases h
    · cases h
theorem jtn {st:St} {a:Act} (hs:slOK F ρ β w a st.sl) {t:TypeId} {parts:Array (Nat×Operand)} {x:A} (h:buildX P st t parts.toList=some x):∃v,(Instr.build t (parts.map fun (i,x)=>(i,a.eval x))).run P w=.ok v w∧x.has F ρ β w v:=by
  unfold buildX at h
  split at h
  · rename_i fs e1
    split at h
    · rename_i v pl e2 e3
      split at h
      · rename_i xs e4
        obtain ⟨z,g1,g2⟩:=jj2 (F:=F) (ρ:=ρ) (β:=β) (w:=w) e2;obtain ⟨cs,g3,g4⟩:=jch g2 e4
        cases hf:fillX st pl parts.toList xs with
        | none=>rw [hf] at h;cases h
        | some zs=>
          rw [hf] at h
          cases h
          obtain ⟨ds,g5,g6⟩:=jou hs (pla:=fun i=>pl.toArray[i]?) (fun i=>by simp) hf g4;refine ⟨.agg ds.toArray,?_,ds,rfl,g6⟩
          have hm:(fs.mapM (fun f=>do pure (f.offset,←sizeOf f.type)):Sem (Array (Nat×Nat))).run P w=.ok pl.toArray w:=by
            rw [Array.mapM_eq_mapM_toList];simp only [map_eq_pure_bind,Sem.run_bind,jip e3,Result.andThen_ok,Sem.run_pure]
          have hp:(parts.map fun (x:Nat×Operand)=>match x with | (i,x)=>(i,a.eval x)).toList=parts.toList.map fun p=>(p.1,a.eval p.2):=by simp
          unfold Instr.build;simp only [Sem.run_bind,g1,Result.andThen_ok,run_underlying e1 w,hm,g3,hp,g5,Sem.run_pure]
      · cases h
    · cases h
  · cases h
theorem jov {st:St} {a:Act} (hs:slOK F ρ β w a st.sl) (hb:bxOK F ρ β w st.bx) (hf:allT F ρ st.fs) {o:Oper} {x:A} (h:pureX2 P st o.op=some x) :
    ∃v,(execOp a.eval o).run P w=.ok (.value v) w∧x.has F ρ β w v:=by
  unfold pureX2 at h
  split at h
  · rename_i y e
    cases h
    exact j0b hs hb hf e
  · split at h
    · rename_i t parts e
      obtain ⟨v,h1,h2⟩:=jtn (P:=P) hs h;refine ⟨v,?_,h2⟩;unfold execOp;simp only [e,Sem.run_bind,h1,Result.andThen_ok,Sem.run_pure]
    · cases h
theorem jv6 {tab:List (Ctr P F)} {o:Oper} {st':St} (h:SH F ρ β w0 n st a w) (e:step1 tab n st o=some st') {K:Act→World→Prop} {Q:Exit→Act→World→Prop}
    (hk:∀β' a' w',SH F ρ β' w0 n st' a' w'→K a' w'):o.wp P a w K Q:=by
  unfold step1 at e
  split at e
  · rename_i x d e1 e2
    split at e
    · rename_i hd
      cases e
      obtain ⟨v,h1,h2⟩:=jov h.sl h.bx h.fs e1;unfold Oper.wp;rw [h1,Oper.upon_value,e2];exact hk _ _ _ (h.val (Below.refl _ _) h2 hd trivial)
    · cases e
  · cases e
  · rename_i dst e1 e2
    split at e
    · -- alloc
      rename_i T d ho hdst
      split at e
      · rename_i v e3
        split at e
        · rename_i xs e4
          unfold mkBox at e
          split at e
          · rename_i hc
            simp only [Bool.and_eq_true,decide_eq_true_eq,Bool.not_eq_true'] at hc
            cases e
            obtain ⟨z,g1,g2⟩:=jj2 (F:=F) (ρ:=ρ) (β:=β) (w:=w) e3;obtain ⟨cs,g3,g4⟩:=jch g2 e4;unfold Oper.wp execOp;simp only [ho,Instr.alloc,Sem.run_bind,g1,Result.andThen_ok,newVar,newRow,run_newObj_alloc,Sem.run_pure,Oper.upon_value,hdst,g3];exact hk _ _ _ (h.newBox g4 hc.1.1 hc.1.2 hc.2)
          · cases e
        · cases e
      · cases e
    · -- box
      rename_i T x d ho hdst
      split at e
      · rename_i v e3
        split at e
        · rename_i xs e4
          unfold mkBox at e
          split at e
          · rename_i hc
            simp only [Bool.and_eq_true,decide_eq_true_eq,Bool.not_eq_true'] at hc
            cases e
            obtain ⟨cs,g3,g4⟩:=jch (jay h.sl e3) e4;unfold Oper.wp execOp;simp only [ho,Instr.box,Sem.run_bind,Result.andThen_ok,newVar,newRow,run_newObj_alloc,Sem.run_pure,Oper.upon_value,hdst,g3];exact hk _ _ _ (h.newBox g4 hc.1.1 hc.1.2 hc.2)
          · cases e
        · cases e
      · cases e
    · -- store
      rename_i T x y ho hdst
      split at e
      · rename_i i off v e3 e4
        split at e
        · rename_i b ys e5 e6
          split at e
          · rename_i zs m e7 e8
            split at e
            · rename_i hc
              simp only [Bool.and_eq_true,Bool.not_eq_true'] at hc
              cases e
              obtain ⟨cs,g3,g4⟩:=jch (jay h.sl e4) e6;obtain ⟨k1,k2⟩:=h.stored e5 hc.1.1 g4 e7 hc.2;have hp:a.eval x=.pointer (some ⟨β i,off,none⟩):=List.head_eq_of_cons_eq (jay h.sl e3);have hl:=hasL.len g4;have hm:widths ys=m:=Nat.eq_of_beq_eq_true hc.1.2
              have hrun:(Instr.storeAt T (.pointer (some ⟨β i,off,none⟩)) (a.eval y)).run P w=.ok () (w.setCells (β i) off cs):=by
                have h3:=run_storeCells_cells (P:=P) (β i) off cs 0 w (fun j hj=>by simpa using (k2 j hj).1) (fun j hj=>by simpa using (k2 j hj).2) (jtk g4);simp only [Nat.add_zero] at h3;simp only [Instr.storeAt,Instr.sureAddr,Sem.run_bind,Sem.run_pure,Result.andThen_ok,storeVar,jcp e8,g3];rw [if_neg (by simp;omega)];exact h3
              unfold Oper.wp execOp;simp only [ho,Sem.run_bind,hp,hrun,Result.andThen_ok,Sem.run_pure,Oper.upon_skip,hdst];exact hk _ _ _ k1
            · cases e
          · cases e
        · cases e
      · cases e
    · rename_i d hdst _ _
      split at e
      · rename_i x post e3
        split at e
        · rename_i hd
          cases e
          refine jtg h.sl h.bx h.fs e3 (fun hp u w' hb hu=>?_);rw [hdst];exact hk _ _ _ (h.val hb hu hd hp)
        · cases e
      · cases e
    · cases e
end
end V
namespace V
inductive Res where
  | ok (st:St)
  | split (t:T)
  | bad
def runSeq {P:Program} {F:Nat→List Int→Int} (tab:List (Ctr P F)) (n:Nat) (ops:Array Oper):List Oper→St→Res
  | [],st=>.ok st
  | o::r,st=>match wantX ops st o with
    | .yes=>match step1 tab n st o with
      | some st'=>runSeq tab n ops r st'
      | none=>.bad
    | .no=>match o.dst with
      | some d=>if d<n then runSeq tab n ops r { st with sl:=(d,.und)::del d st.sl } else .bad
      | none=>runSeq tab n ops r st
    | .split t=>.split t
    | .bad=>.bad
def ex1:T→List T
  | .and a b=>.and a b::(ex1 a ++ ex1 b)
  | .not (.or a b)=>[.not (.or a b),.not a,.not b]
  | .not (.not a)=>ex1 a
  | t=>[t]
theorem jc9 {F:Nat→List Int→Int} {ρ:Nat→Int}:∀{t:T},t.bd F ρ=true→allT F ρ (ex1 t)
  | .and a b,h=>by
    have h':=h;rw [jck,Bool.and_eq_true] at h';exact ⟨h,jac (jc9 h'.1) (jc9 h'.2)⟩
  | .not (.or a b),h=>by
    have h':=h;rw [jax,jew,Bool.not_eq_true',Bool.or_eq_false_iff] at h';exact ⟨h,by rw [jax,h'.1];rfl,by rw [jax,h'.2];rfl,trivial⟩
  | .not (.not a),h=>by
    have h':=h;rw [jax,jax,Bool.not_not] at h';unfold ex1;exact jc9 h'
  | .v _,h=>⟨h,trivial⟩
  | .n _,h=>⟨h,trivial⟩
  | .add _ _,h=>⟨h,trivial⟩
  | .sub _ _,h=>⟨h,trivial⟩
  | .mul _ _,h=>⟨h,trivial⟩
  | .lt _ _,h=>⟨h,trivial⟩
  | .le _ _,h=>⟨h,trivial⟩
  | .eq _ _,h=>⟨h,trivial⟩
  | .or _ _,h=>⟨h,trivial⟩
  | .ite _ _ _,h=>⟨h,trivial⟩
  | .ap _ _,h=>⟨h,trivial⟩
  | .e,h=>⟨h,trivial⟩
  | .c _ _,h=>⟨h,trivial⟩
  | .not (.v _),h=>⟨h,trivial⟩
  | .not (.n _),h=>⟨h,trivial⟩
  | .not (.add _ _),h=>⟨h,trivial⟩
  | .not (.sub _ _),h=>⟨h,trivial⟩
  | .not (.mul _ _),h=>⟨h,trivial⟩
  | .not (.lt _ _),h=>⟨h,trivial⟩
  | .not (.le _ _),h=>⟨h,trivial⟩
  | .not (.eq _ _),h=>⟨h,trivial⟩
  | .not (.and _ _),h=>⟨h,trivial⟩
  | .not (.ite _ _ _),h=>⟨h,trivial⟩
  | .not (.ap _ _),h=>⟨h,trivial⟩
  | .not .e,h=>⟨h,trivial⟩
  | .not (.c _ _),h=>⟨h,trivial⟩
def withF (st:St) (t:T):St:={ st with fs:=ex1 t ++ st.fs }
def splits (f:St→Res):Nat→St→(St→Bool)→Bool
  | 0,_,_=>false
  | m+1,st,k=>match f st with
    | .ok st'=>k st'
    | .split t=>splits f m (withF st t) k && splits f m (withF st (.not t)) k
    | .bad=>false
section
variable {F:Nat→List Int→Int} {ρ:Nat→Int} {β:Nat→Nat} {P:Program} {w w' w0:World} {n:Nat} {st:St} {a:Act}
theorem SH.facts (h:SH F ρ β w0 n st a w) {l:List T} (hl:allT F ρ l):SH F ρ β w0 n { st with fs:=l ++ st.fs } a w:=
  ⟨h.sl,h.bx,h.base,jac hl h.fs,h.low,h.df,h.sz,h.lt⟩
theorem SH.bnd (h:SH F ρ β w0 n st a w):∀d,(get st.sl d).isSome=true→d<a.tmps.size:=fun d hd=>by
  cases hg:get st.sl d with
  | none=>rw [hg] at hd;cases hd
  | some x=>rw [h.sz];exact h.lt d x hg
theorem jfm {f:St→Res} {G:Prop}:∀{m:Nat} {st:St} {k:St→Bool},splits f m st k=true→SH F ρ β w0 n st a w→
    (∀st0 st',f st0=.ok st'→k st'=true→SH F ρ β w0 n st0 a w→G)→G
  | 0,_,_,h,_,_=>by cases h
  | m+1,st,k,h,hs,hg=>by
    simp only [splits] at h
    split at h
    · rename_i st' e;exact hg st st' e h hs
    · rename_i t e
      rw [Bool.and_eq_true] at h
      cases ht:t.bd F ρ with
      | true=>exact jfm h.1 (hs.facts (jc9 ht)) hg
      | false=>exact jfm h.2 (hs.facts (jc9 (by rw [jax,ht];rfl))) hg
    · cases h
theorem jee {tab:List (Ctr P F)} {ops:Array Oper} {Q:Exit→Act→World→Prop}:∀(l:List Nat) (os:List Oper) {st st':St} {β:Nat→Nat} {a:Act} {w:World},
    (∀i:Nat,(l[i]?).bind (fun j=>ops[j]?)=os[i]?)→l.length=os.length→SH F ρ β w0 n st a w→runSeq tab n ops os st=.ok st'→
    (∀β' a' w',SH F ρ β' w0 n st' a' w'→Q .normal a' w')→wpOps P ops Q l a w
  | [],[],st,st',β,a,w,_,_,hs,h,hq=>by
    simp only [runSeq] at h
    cases h
    exact hq _ _ _ hs
  | [],_::_,_,_,_,_,_,_,hl,_,_,_=>by simp at hl
  | _::_,[],_,_,_,_,_,_,hl,_,_,_=>by simp at hl
  | i::l,o::os,st,st',β,a,w,hi,hl,hs,h,hq=>by
    have h0:ops[i]? = some o:=by simpa using hi 0
    have hrest:∀j:Nat,(l[j]?).bind (fun j=>ops[j]?)=os[j]?:=fun j=>by simpa using hi (j+1)
    have hlen:l.length=os.length:=by simpa using hl
    simp only [wpOps,h0];simp only [runSeq] at h
    split at h
    · rename_i e
      rw [if_pos (jll hs.sl hs.fs hs.bnd e)]
      split at h
      · rename_i st1 e1
        exact .inl (jv6 hs e1 fun β' a' w' hs'=>jee l os hrest hlen hs' h hq)
      · cases h
    · rename_i e
      have hw:=jot hs.sl hs.fs hs.bnd e;rw [hw];simp only [Bool.false_eq_true,if_false]
      split at h
      · rename_i d hd
        split at h
        · rename_i hdn
          rw [hd];refine jee l os hrest hlen (st:={ st with sl:=(d,.und)::del d st.sl }) (β:=β) ?_ h hq;exact ⟨(hs.sl.sub d).put rfl (by rw [hs.sz];exact hdn),hs.bx,hs.base,hs.fs,hs.low,by rw [jc8];exact hs.df,by rw [jfj];exact hs.sz,jth hs.lt hdn⟩
        · cases h
      · rename_i hd
        rw [hd];exact jee l os hrest hlen hs h hq
    · cases h
    · cases h
theorem jqe {tab:List (Ctr P F)} {id m:Nat} {ops:Array Oper} {k:St→Bool} {Q:Exit→Act→World→Prop} (hs:SH F ρ β w0 n st a w) (h:splits (runSeq tab n ops ops.toList) m st k=true)
    (hq:∀st' β' a' w',k st'=true→SH F ρ β' w0 n st' a' w'→Q .normal a' w'):(Code.region id ops false).wp P Q a w:=by
  refine jfm h hs fun st0 st' e hk hs0=>?_
  refine wp_region (jee _ ops.toList (fun i=>?_) (by simp) hs0 e fun β' a' w' hs'=>hq st' β' a' w' hk hs')
  by_cases hi:i<ops.size
  · rw [List.getElem?_range hi]
    simp
  · rw [List.getElem?_eq_none (by simpa using hi)]
    simp [Nat.le_of_not_lt hi]
end
end V
namespace V
def updR (ρ:Nat→Int) (i:Nat) (z:Int):Nat→Int:=fun j=>if j=i then z else ρ j
def T.occ (i:Nat):T→Bool
  | .v j=>Nat.beq j i
  | .n _=>false
  | .add a b=>a.occ i || b.occ i
  | .sub a b=>a.occ i || b.occ i
  | .mul a b=>a.occ i || b.occ i
  | .lt a b=>a.occ i || b.occ i
  | .le a b=>a.occ i || b.occ i
  | .eq a b=>a.occ i || b.occ i
  | .and a b=>a.occ i || b.occ i
  | .or a b=>a.occ i || b.occ i
  | .not a=>a.occ i
  | .ite a b d=>a.occ i || b.occ i || d.occ i
  | .ap _ l=>l.occ i
  | .e=>false
  | .c a b=>a.occ i || b.occ i
def T.in2 (σ:Nat→T):T→T×T
  | .v j=>(σ j,.e)
  | .n z=>(.n z,.e)
  | .add a b=>(.add (a.in2 σ).1 (b.in2 σ).1,.e)
  | .sub a b=>(.sub (a.in2 σ).1 (b.in2 σ).1,.e)
  | .mul a b=>(.mul (a.in2 σ).1 (b.in2 σ).1,.e)
  | .lt a b=>(.lt (a.in2 σ).1 (b.in2 σ).1,.e)
  | .le a b=>(.le (a.in2 σ).1 (b.in2 σ).1,.e)
  | .eq a b=>(.eq (a.in2 σ).1 (b.in2 σ).1,.e)
  | .and a b=>(.and (a.in2 σ).1 (b.in2 σ).1,.e)
  | .or a b=>(.or (a.in2 σ).1 (b.in2 σ).1,.e)
  | .not a=>(.not (a.in2 σ).1,.e)
  | .ite a b d=>(.ite (a.in2 σ).1 (b.in2 σ).1 (d.in2 σ).1,.e)
  | .ap f l=>(.ap f (l.in2 σ).2,.e)
  | .e=>(.e,.e)
  | .c a l=>(.e,.c (a.in2 σ).1 (l.in2 σ).2)
def T.inst (σ:Nat→T) (t:T):T:=(t.in2 σ).1
section
variable {F:Nat→List Int→Int} {ρ ρ':Nat→Int} {β:Nat→Nat} {w:World}
theorem ja3 {σ:Nat→T}:∀(t:T),(t.in2 σ).1.den F ρ=t.den F (fun i=>(σ i).den F ρ)∧(t.in2 σ).2.denL F ρ=t.denL F (fun i=>(σ i).den F ρ)
  | .v j=>⟨rfl,rfl⟩
  | .n z=>⟨rfl,rfl⟩
  | .add a b=>⟨by show (a.in2 σ).1.den F ρ+(b.in2 σ).1.den F ρ=_;rw [(ja3 a).1,(ja3 b).1];rfl,rfl⟩
  | .sub a b=>⟨by show (a.in2 σ).1.den F ρ - (b.in2 σ).1.den F ρ=_;rw [(ja3 a).1,(ja3 b).1];rfl,rfl⟩
  | .mul a b=>⟨by show (a.in2 σ).1.den F ρ*(b.in2 σ).1.den F ρ=_;rw [(ja3 a).1,(ja3 b).1];rfl,rfl⟩
  | .lt a b=>⟨by show b2i (decide ((a.in2 σ).1.den F ρ<(b.in2 σ).1.den F ρ))=_;rw [(ja3 a).1,(ja3 b).1];rfl,rfl⟩
  | .le a b=>⟨by show b2i (decide ((a.in2 σ).1.den F ρ≤(b.in2 σ).1.den F ρ))=_;rw [(ja3 a).1,(ja3 b).1];rfl,rfl⟩
  | .eq a b=>⟨by show b2i ((a.in2 σ).1.den F ρ == (b.in2 σ).1.den F ρ)=_;rw [(ja3 a).1,(ja3 b).1];rfl,rfl⟩
  | .and a b=>⟨by show b2i (((a.in2 σ).1.den F ρ != 0) && ((b.in2 σ).1.den F ρ != 0))=_;rw [(ja3 a).1,(ja3 b).1];rfl,rfl⟩
  | .or a b=>⟨by show b2i (((a.in2 σ).1.den F ρ != 0) || ((b.in2 σ).1.den F ρ != 0))=_;rw [(ja3 a).1,(ja3 b).1];rfl,rfl⟩
  | .not a=>⟨by show b2i (!((a.in2 σ).1.den F ρ != 0))=_;rw [(ja3 a).1];rfl,rfl⟩
  | .ite a b d=>⟨by show (if (a.in2 σ).1.den F ρ != 0 then (b.in2 σ).1.den F ρ else (d.in2 σ).1.den F ρ)=_;rw [(ja3 a).1,(ja3 b).1,(ja3 d).1];rfl,rfl⟩
  | .ap f l=>⟨by show F f ((l.in2 σ).2.denL F ρ)=_;rw [(ja3 l).2];rfl,rfl⟩
  | .e=>⟨rfl,rfl⟩
  | .c a l=>⟨rfl,by show (a.in2 σ).1.den F ρ::(l.in2 σ).2.denL F ρ=_;rw [(ja3 a).1,(ja3 l).2];rfl⟩
theorem jgm {σ:Nat→T} (t:T):(t.inst σ).den F ρ=t.den F (fun i=>(σ i).den F ρ):=(ja3 t).1
theorem jm7 {σ:Nat→T} (t:T):(t.inst σ).bd F ρ=t.bd F (fun i=>(σ i).den F ρ):=by unfold T.bd;rw [jgm]
theorem jal:∀(t:T),(∀i,t.occ i=true→ρ' i=ρ i)→t.den F ρ'=t.den F ρ∧t.denL F ρ'=t.denL F ρ
  | .v j,h=>⟨h j (by simp [T.occ]),rfl⟩
  | .n z,_=>⟨rfl,rfl⟩
  | .add a b,h=>⟨by show a.den F ρ'+b.den F ρ'=_;rw [(jal a fun i hi=>h i (by simp [T.occ,hi])).1,(jal b fun i hi=>h i (by simp [T.occ,hi])).1];rfl,rfl⟩
  | .sub a b,h=>⟨by show a.den F ρ' - b.den F ρ'=_;rw [(jal a fun i hi=>h i (by simp [T.occ,hi])).1,(jal b fun i hi=>h i (by simp [T.occ,hi])).1];rfl,rfl⟩
  | .mul a b,h=>⟨by show a.den F ρ'*b.den F ρ'=_;rw [(jal a fun i hi=>h i (by simp [T.occ,hi])).1,(jal b fun i hi=>h i (by simp [T.occ,hi])).1];rfl,rfl⟩
  | .lt a b,h=>⟨by show b2i (decide (a.den F ρ'<b.den F ρ'))=_;rw [(jal a fun i hi=>h i (by simp [T.occ,hi])).1,(jal b fun i hi=>h i (by simp [T.occ,hi])).1];rfl,rfl⟩
  | .le a b,h=>⟨by show b2i (decide (a.den F ρ'≤b.den F ρ'))=_;rw [(jal a fun i hi=>h i (by simp [T.occ,hi])).1,(jal b fun i hi=>h i (by simp [T.occ,hi])).1];rfl,rfl⟩
  | .eq a b,h=>⟨by show b2i (a.den F ρ' == b.den F ρ')=_;rw [(jal a fun i hi=>h i (by simp [T.occ,hi])).1,(jal b fun i hi=>h i (by simp [T.occ,hi])).1];rfl,rfl⟩
  | .and a b,h=>⟨by show b2i ((a.den F ρ' != 0) && (b.den F ρ' != 0))=_;rw [(jal a fun i hi=>h i (by simp [T.occ,hi])).1,(jal b fun i hi=>h i (by simp [T.occ,hi])).1];rfl,rfl⟩
  | .or a b,h=>⟨by show b2i ((a.den F ρ' != 0) || (b.den F ρ' != 0))=_;rw [(jal a fun i hi=>h i (by simp [T.occ,hi])).1,(jal b fun i hi=>h i (by simp [T.occ,hi])).1];rfl,rfl⟩
  | .not a,h=>⟨by show b2i (!(a.den F ρ' != 0))=_;rw [(jal a fun i hi=>h i (by simp [T.occ,hi])).1];rfl,rfl⟩
  | .ite a b d,h=>⟨by show (if a.den F ρ' != 0 then b.den F ρ' else d.den F ρ')=_;rw [(jal a fun i hi=>h i (by simp [T.occ,hi])).1,(jal b fun i hi=>h i (by simp [T.occ,hi])).1,(jal d fun i hi=>h i (by simp [T.occ,hi])).1];rfl,rfl⟩
  | .ap f l,h=>⟨by show F f (l.denL F ρ')=_;rw [(jal l fun i hi=>h i (by simp [T.occ,hi])).2];rfl,rfl⟩
  | .e,_=>⟨rfl,rfl⟩
  | .c a l,h=>⟨rfl,by show a.den F ρ'::l.denL F ρ'=_;rw [(jal a fun i hi=>h i (by simp [T.occ,hi])).1,(jal l fun i hi=>h i (by simp [T.occ,hi])).2];rfl⟩
theorem jow {i:Nat} {z:Int} {t:T} (h:t.occ i=false):t.den F (updR ρ i z)=t.den F ρ:=
  (jal t fun j hj=>by
    unfold updR;rw [if_neg];rintro rfl;rw [h] at hj;cases hj).1
end
def X.tm:X→T
  | .i _ t=>t
  | .b t=>t
  | .z _ _ t=>t
  | _=>.e
def X.inst (σ:Nat→T) (μ:Nat→Nat):X→X
  | .i k t=>.i k (t.inst σ)
  | .b t=>.b (t.inst σ)
  | .z k c t=>.z k c (t.inst σ)
  | .p q o=>.p (μ q) o
  | .s0=>.s0
  | .cst c=>.cst c
def V1.inst (σ:Nat→T) (μ:Nat→Nat):V1→V1
  | .sc x=>.sc (x.inst σ μ)
  | .ag xs=>.ag (xs.map (X.inst σ μ))
  | .fn f xs=>.fn f (xs.map (X.inst σ μ))
def A.inst (σ:Nat→T) (μ:Nat→Nat):A→A
  | .one a=>.one (a.inst σ μ)
  | .tup l=>.tup (l.map (V1.inst σ μ))
  | .und=>.und
def V1.occ (i:Nat):V1→Bool
  | .sc x=>x.tm.occ i
  | .ag xs=>xs.any (fun x=>x.tm.occ i)
  | .fn _ xs=>xs.any (fun x=>x.tm.occ i)
def A.occ (i:Nat):A→Bool
  | .one a=>a.occ i
  | .tup l=>l.any (V1.occ i)
  | .und=>false
section
variable {F:Nat→List Int→Int} {ρ ρ':Nat→Int} {β:Nat→Nat} {w:World} {σ:Nat→T} {μ:Nat→Nat}
theorem X.has_inst {x:X} {cs:List Value}:(x.inst σ μ).has F ρ β w cs↔x.has F (fun i=>(σ i).den F ρ) (fun i=>β (μ i)) w cs:=by
  cases x with
  | i k t=>show cs=_↔cs=_;rw [jgm]
  | b t=>show cs=_↔cs=_;rw [jm7]
  | z k c t=>show (∃n A l c',_∧Q w k n A l c' ((t.inst σ).den F ρ)∧(c=true→QB w 0 k n A l c' ((t.inst σ).den F ρ)))↔_;rw [jgm];exact Iff.rfl
  | p b o=>exact Iff.rfl
  | s0=>exact Iff.rfl
  | cst c=>exact Iff.rfl
theorem jef:∀{xs:List X} {cs:List Value},hasL F ρ β w (xs.map (X.inst σ μ)) cs↔hasL F (fun i=>(σ i).den F ρ) (fun i=>β (μ i)) w xs cs
  | [],_=>Iff.rfl
  | x::xs,cs=>by
    show (∃c d,cs=c ++ d∧(x.inst σ μ).has F ρ β w c∧hasL F ρ β w (xs.map (X.inst σ μ)) d)↔∃c d,cs=c ++ d∧x.has F _ _ w c∧hasL F _ _ w xs d
    simp only [X.has_inst,jef]
theorem V1.has_inst {a:V1} {v:Value}:(a.inst σ μ).has F ρ β w v↔a.has F (fun i=>(σ i).den F ρ) (fun i=>β (μ i)) w v:=by
  cases a with
  | sc x=>exact X.has_inst
  | ag xs=>show (∃cs,_∧hasL F ρ β w (xs.map (X.inst σ μ)) cs)↔_;simp only [jef];exact Iff.rfl
  | fn f xs=>show (∃cs,_∧hasL F ρ β w (xs.map (X.inst σ μ)) cs)↔_;simp only [jef];exact Iff.rfl
theorem jlm:∀{l:List V1} {vs:List Value},hasV F ρ β w (l.map (V1.inst σ μ)) vs↔hasV F (fun i=>(σ i).den F ρ) (fun i=>β (μ i)) w l vs
  | [],_=>Iff.rfl
  | x::xs,vs=>by
    show (∃c d,vs=c::d∧(x.inst σ μ).has F ρ β w c∧hasV F ρ β w (xs.map (V1.inst σ μ)) d)↔∃c d,vs=c::d∧x.has F _ _ w c∧hasV F _ _ w xs d
    simp only [V1.has_inst,jlm]
theorem A.has_inst {a:A} {v:Value}:(a.inst σ μ).has F ρ β w v↔a.has F (fun i=>(σ i).den F ρ) (fun i=>β (μ i)) w v:=by
  cases a with
  | one a=>exact V1.has_inst
  | tup l=>show (∃vs,_∧hasV F ρ β w (l.map (V1.inst σ μ)) vs)↔_;simp only [jlm];exact Iff.rfl
  | und=>exact Iff.rfl
theorem X.agree {x:X} (h:x.tm.den F ρ'=x.tm.den F ρ) {cs:List Value} (k:x.has F ρ β w cs):x.has F ρ' β w cs:=by
  cases x with
  | i kk t=>show cs=_;rw [show t.den F ρ'=t.den F ρ from h];exact k
  | b t=>show cs=_;rw [show t.bd F ρ'=t.bd F ρ by unfold T.bd;rw [show t.den F ρ'=t.den F ρ from h]];exact k
  | z kk c t=>show ∃n A l c',_∧Q w kk n A l c' (t.den F ρ')∧(c=true→QB w 0 kk n A l c' (t.den F ρ'));rw [show t.den F ρ'=t.den F ρ from h];exact k
  | p b o=>exact k
  | s0=>exact k
  | cst c=>exact k
theorem hasL.agree {i:Nat} {z:Int}:∀{xs:List X} {cs:List Value},xs.any (fun x=>x.tm.occ i)=false→hasL F ρ β w xs cs→hasL F (updR ρ i z) β w xs cs
  | [],_,_,h=>h
  | x::xs,_,k,⟨c,d,h1,h2,h3⟩=>by
    simp only [List.any_cons,Bool.or_eq_false_iff] at k;exact ⟨c,d,h1,X.agree (jow k.1) h2,hasL.agree k.2 h3⟩
theorem V1.agree {i:Nat} {z:Int} {a:V1} {v:Value} (k:a.occ i=false) (h:a.has F ρ β w v):a.has F (updR ρ i z) β w v:=by
  cases a with
  | sc x=>exact X.agree (jow k) h
  | ag xs=>obtain ⟨cs,h1,h2⟩:=h;exact ⟨cs,h1,hasL.agree k h2⟩
  | fn f xs=>obtain ⟨cs,h1,h2⟩:=h;exact ⟨cs,h1,hasL.agree k h2⟩
theorem hasV.agree {i:Nat} {z:Int}:∀{l:List V1} {vs:List Value},l.any (V1.occ i)=false→hasV F ρ β w l vs→hasV F (updR ρ i z) β w l vs
  | [],_,_,h=>h
  | x::xs,_,k,⟨c,d,h1,h2,h3⟩=>by
    simp only [List.any_cons,Bool.or_eq_false_iff] at k;exact ⟨c,d,h1,V1.agree k.1 h2,hasV.agree k.2 h3⟩
theorem A.agree {i:Nat} {z:Int} {a:A} {v:Value} (k:a.occ i=false) (h:a.has F ρ β w v):a.has F (updR ρ i z) β w v:=by
  cases a with
  | one a=>exact V1.agree k h
  | tup l=>obtain ⟨vs,h1,h2⟩:=h;exact ⟨vs,h1,hasV.agree k h2⟩
  | und=>exact h
end
end V
namespace V
structure Rule where
  cs:List T
  l:T
  r:T
structure Fit where
  cs:List T
  t:T
  k:Nat
structure Rs where
  rs:List Rule
  ft:List Fit
structure RsOK (F:Nat→List Int→Int) (R:Rs):Prop where
  rs:∀r∈R.rs,∀ρ,allT F ρ r.cs→r.l.den F ρ=r.r.den F ρ
  ft:∀r∈R.ft,∀ρ,allT F ρ r.cs→(r.t.den F ρ).natAbs<W^r.k
def findR (fs:List T) (t:T):List Rule→Option T
  | []=>none
  | r::l=>if t.same r.l && allKnown fs r.cs then some r.r else findR fs t l
def findV (i:Nat):List T→Option T
  | []=>none
  | .eq (.v j) s::l=>if Nat.beq i j then some s else findV i l
  | _::l=>findV i l
def T.isB:T→Bool
  | .lt _ _=>true
  | .le _ _=>true
  | .eq _ _=>true
  | .not _=>true
  | .and _ _=>true
  | .or _ _=>true
  | _=>false
def isT (o:Option Bool):Bool:=match o with
  | some true=>true
  | _=>false
def isF (o:Option Bool):Bool:=match o with
  | some false=>true
  | _=>false
def head (R:Rs) (fs:List T) (t:T):T:=match findR fs t R.rs with
  | some r=>r
  | none=>match t with
    | .ite c a b=>match known2 fs c with
      | some true=>a
      | some false=>b
      | none=>t
    | .add (.n x) (.n y)=>.n (x+y)
    | .sub (.n x) (.n y)=>.n (x - y)
    | .mul (.n x) (.n y)=>.n (x*y)
    | .add a (.n 0)=>a
    | .add (.n 0) a=>a
    | .sub a (.n 0)=>a
    | .mul a (.n 1)=>a
    | .mul (.n 1) a=>a
    | .v i=>match findV i fs with
      | some s=>s
      | none=>t
    | .and a b=>if isT (known fs a) && b.isB then b else if isT (known fs b) && a.isB then a else t
    | .or a b=>if isF (known fs a) && b.isB then b else if isF (known fs b) && a.isB then a else t
    | _=>t
def nf2 (R:Rs) (fs:List T):T→T×T
  | .v i=>(head R fs (.v i),.e)
  | .n z=>(.n z,.e)
  | .add a b=>(head R fs (.add (nf2 R fs a).1 (nf2 R fs b).1),.e)
  | .sub a b=>(head R fs (.sub (nf2 R fs a).1 (nf2 R fs b).1),.e)
  | .mul a b=>(head R fs (.mul (nf2 R fs a).1 (nf2 R fs b).1),.e)
  | .lt a b=>(head R fs (.lt (nf2 R fs a).1 (nf2 R fs b).1),.e)
  | .le a b=>(head R fs (.le (nf2 R fs a).1 (nf2 R fs b).1),.e)
  | .eq a b=>(head R fs (.eq (nf2 R fs a).1 (nf2 R fs b).1),.e)
  | .and a b=>(head R fs (.and (nf2 R fs a).1 (nf2 R fs b).1),.e)
  | .or a b=>(head R fs (.or (nf2 R fs a).1 (nf2 R fs b).1),.e)
  | .not a=>(head R fs (.not (nf2 R fs a).1),.e)
  | .ite a b d=>(head R fs (.ite (nf2 R fs a).1 (nf2 R fs b).1 (nf2 R fs d).1),.e)
  | .ap f l=>(head R fs (.ap f (nf2 R fs l).2),.e)
  | .e=>(.e,.e)
  | .c a l=>(.e,.c (nf2 R fs a).1 (nf2 R fs l).2)
def nf (R:Rs) (fs:List T) (t:T):T:=(nf2 R fs t).1
section
variable {F:Nat→List Int→Int} {ρ:Nat→Int} {β:Nat→Nat} {P:Program} {w w' w0:World} {n:Nat} {st:St} {a:Act} {R:Rs} {fs:List T}
theorem jox (hf:allT F ρ fs) {t s:T}:∀{l:List Rule},(∀r∈l,∀ρ,allT F ρ r.cs→r.l.den F ρ=r.r.den F ρ)→findR fs t l=some s→s.den F ρ=t.den F ρ
  | [],_,h=>by cases h
  | r::l,hr,h=>by
    simp only [findR] at h
    split at h
    · rename_i e
      rw [Bool.and_eq_true] at e
      cases h
      rw [T.same_eq e.1];exact (hr r List.mem_cons_self ρ (jbd hf e.2)).symm
    · exact jox hf (fun r hm=>hr r (List.mem_cons_of_mem _ hm)) h
theorem jj3 {i:Nat} {s:T}:∀{fs:List T},allT F ρ fs→findV i fs=some s→s.den F ρ=ρ i
  | [],_,h=>by cases h
  | f::l,hf,h=>by
    unfold findV at h
    split at h
    · cases h
    · rename_i j s' l' e
      cases e
      split at h
      · rename_i e2
        cases h
        have:=hf.1;rw [jcy,beq_iff_eq] at this;rw [Nat.eq_of_beq_eq_true e2];exact this.symm
      · exact jj3 hf.2 h
    · rename_i e
      cases e
      exact jj3 hf.2 h
theorem jln {o:Option Bool} (h:isT o=true):o=some true:=by
  unfold isT at h
  split at h
  · rfl
  · cases h
theorem jx6 {o:Option Bool} (h:isF o=true):o=some false:=by
  unfold isF at h
  split at h
  · rfl
  · cases h
theorem joy {t:T} (h:t.isB=true):t.den F ρ=b2i (t.bd F ρ):=by
  have k:∀b:Bool,b2i b=b2i (b2i b != 0):=fun b=>by cases b <;> rfl
  unfold T.bd
  cases t with
  | lt a b=>exact k _
  | le a b=>exact k _
  | eq a b=>exact k _
  | not a=>exact k _
  | and a b=>exact k _
  | or a b=>exact k _
  | _=>cases h
theorem jci (hR:RsOK F R) (hf:allT F ρ fs) (t:T):(head R fs t).den F ρ=t.den F ρ:=by
  unfold head
  split
  · rename_i r e
    exact jox hf hR.rs e
  · split
    · rw [jb8]
      split
      · rename_i e;rw [jas hf _ _ e];rfl
      · rename_i e;rw [jas hf _ _ e];rfl
      · rfl
    · rfl
    · rfl
    · rfl
    · exact (Int.add_zero _).symm
    · exact (Int.zero_add _).symm
    · exact (Int.sub_zero _).symm
    · exact (Int.mul_one _).symm
    · exact (Int.one_mul _).symm
    · split
      · rename_i s e;exact jj3 hf e
      · rfl
    · rename_i a b _
      have d:(T.and a b).den F ρ=b2i (a.bd F ρ && b.bd F ρ):=rfl
      split
      · rename_i e
        rw [Bool.and_eq_true] at e;rw [d,ja7 hf _ _ (jln e.1),Bool.true_and];exact joy e.2
      · split
        · rename_i e
          rw [Bool.and_eq_true] at e;rw [d,ja7 hf _ _ (jln e.1),Bool.and_true];exact joy e.2
        · rfl
    · rename_i a b _
      have d:(T.or a b).den F ρ=b2i (a.bd F ρ || b.bd F ρ):=rfl
      split
      · rename_i e
        rw [Bool.and_eq_true] at e;rw [d,ja7 hf _ _ (jx6 e.1),Bool.false_or];exact joy e.2
      · split
        · rename_i e
          rw [Bool.and_eq_true] at e;rw [d,ja7 hf _ _ (jx6 e.1),Bool.or_false];exact joy e.2
        · rfl
    · rfl
theorem jbf (hR:RsOK F R) (hf:allT F ρ fs):∀(t:T),(nf2 R fs t).1.den F ρ=t.den F ρ∧(nf2 R fs t).2.denL F ρ=t.denL F ρ
  | .v i=>⟨jci hR hf _,rfl⟩
  | .n z=>⟨rfl,rfl⟩
  | .add a b=>⟨(jci hR hf _).trans (by show (nf2 R fs a).1.den F ρ+(nf2 R fs b).1.den F ρ=_;rw [(jbf hR hf a).1,(jbf hR hf b).1];rfl),rfl⟩
  | .sub a b=>⟨(jci hR hf _).trans (by show (nf2 R fs a).1.den F ρ - (nf2 R fs b).1.den F ρ=_;rw [(jbf hR hf a).1,(jbf hR hf b).1];rfl),rfl⟩
  | .mul a b=>⟨(jci hR hf _).trans (by show (nf2 R fs a).1.den F ρ*(nf2 R fs b).1.den F ρ=_;rw [(jbf hR hf a).1,(jbf hR hf b).1];rfl),rfl⟩
  | .lt a b=>⟨(jci hR hf _).trans (by show b2i (decide ((nf2 R fs a).1.den F ρ<(nf2 R fs b).1.den F ρ))=_;rw [(jbf hR hf a).1,(jbf hR hf b).1];rfl),rfl⟩
  | .le a b=>⟨(jci hR hf _).trans (by show b2i (decide ((nf2 R fs a).1.den F ρ≤(nf2 R fs b).1.den F ρ))=_;rw [(jbf hR hf a).1,(jbf hR hf b).1];rfl),rfl⟩
  | .eq a b=>⟨(jci hR hf _).trans (by show b2i ((nf2 R fs a).1.den F ρ == (nf2 R fs b).1.den F ρ)=_;rw [(jbf hR hf a).1,(jbf hR hf b).1];rfl),rfl⟩
  | .and a b=>⟨(jci hR hf _).trans (by show b2i (((nf2 R fs a).1.den F ρ != 0) && ((nf2 R fs b).1.den F ρ != 0))=_;rw [(jbf hR hf a).1,(jbf hR hf b).1];rfl),rfl⟩
  | .or a b=>⟨(jci hR hf _).trans (by show b2i (((nf2 R fs a).1.den F ρ != 0) || ((nf2 R fs b).1.den F ρ != 0))=_;rw [(jbf hR hf a).1,(jbf hR hf b).1];rfl),rfl⟩
  | .not a=>⟨(jci hR hf _).trans (by show b2i (!((nf2 R fs a).1.den F ρ != 0))=_;rw [(jbf hR hf a).1];rfl),rfl⟩
  | .ite a b d=>⟨(jci hR hf _).trans (by show (if (nf2 R fs a).1.den F ρ != 0 then (nf2 R fs b).1.den F ρ else (nf2 R fs d).1.den F ρ)=_;rw [(jbf hR hf a).1,(jbf hR hf b).1,(jbf hR hf d).1];rfl),rfl⟩
  | .ap f l=>⟨(jci hR hf _).trans (by show F f ((nf2 R fs l).2.denL F ρ)=_;rw [(jbf hR hf l).2];rfl),rfl⟩
  | .e=>⟨rfl,rfl⟩
  | .c a l=>⟨rfl,by show (nf2 R fs a).1.den F ρ::(nf2 R fs l).2.denL F ρ=_;rw [(jbf hR hf a).1,(jbf hR hf l).2];rfl⟩
def eqT (R:Rs) (fs:List T) (a b:T):Bool:=a.same b || (nf R fs a).same (nf R fs b) || (nf R fs (nf R fs a)).same (nf R fs (nf R fs b))
theorem joz (hR:RsOK F R) (hf:allT F ρ fs) {a b:T} (h:eqT R fs a b=true):a.den F ρ=b.den F ρ:=by
  have k:∀t,(nf R fs t).den F ρ=t.den F ρ:=fun t=>(jbf hR hf t).1
  unfold eqT at h;simp only [Bool.or_eq_true] at h
  rcases h with (h | h) | h
  · rw [T.same_eq h]
  · rw [←k a,←k b,T.same_eq h]
  · rw [←k a,←k b,←k (nf R fs a),←k (nf R fs b),T.same_eq h]
def eqB (R:Rs) (fs:List T) (a b:T):Bool:=eqT R fs a b || (match known fs a,known fs b with | some x,some y=>x == y | _,_=>false) || (match known fs (nf R fs a),known fs (nf R fs b) with | some x,some y=>x == y | _,_=>false) ||
  (isT (known2 fs (nf R fs a)) && isT (known2 fs b))
theorem j3i (hR:RsOK F R) (hf:allT F ρ fs) {a b:T} (h:eqB R fs a b=true):a.bd F ρ=b.bd F ρ:=by
  have kk:∀{a b:T},(match known fs a,known fs b with | some x,some y=>x == y | _,_=>false)=true→a.bd F ρ=b.bd F ρ:=fun {a b} h=>by
    split at h
    · rename_i x y e1 e2
      rw [ja7 hf a _ e1,ja7 hf b _ e2];exact beq_iff_eq.1 h
    · cases h
  have kn:∀t,(nf R fs t).bd F ρ=t.bd F ρ:=fun t=>by unfold T.bd;rw [show (nf R fs t).den F ρ=t.den F ρ from (jbf hR hf t).1]
  unfold eqB at h;simp only [Bool.or_eq_true] at h
  rcases h with ((h | h) | h) | h
  · unfold T.bd;rw [joz hR hf h]
  · exact kk h
  · rw [←kn a,←kn b];exact kk h
  · rw [Bool.and_eq_true] at h
    rw [←kn a,jas hf _ _ (jln h.1),jas hf _ _ (jln h.2)]
def fits (fs:List T) (R:Rs) (t:T) (k:Nat):List Fit→Bool
  | []=>false
  | r::l=>(decide (r.k≤k) && eqT R fs t r.t && allKnown fs r.cs) || fits fs R t k l
theorem jm8 (hR:RsOK F R) (hf:allT F ρ fs) {t:T} {k:Nat}:∀{l:List Fit},(∀r∈l,∀ρ,allT F ρ r.cs→(r.t.den F ρ).natAbs<W^r.k)→fits fs R t k l=true→(t.den F ρ).natAbs<W^k
  | [],_,h=>by cases h
  | r::l,hl,h=>by
    simp only [fits,Bool.or_eq_true,Bool.and_eq_true,decide_eq_true_eq] at h
    rcases h with ⟨⟨h1,h2⟩,h3⟩ | h
    · rw [joz hR hf h2]
      exact Nat.lt_of_lt_of_le (hl r List.mem_cons_self ρ (jbd hf h3)) (jdc h1)
    · exact jm8 hR hf (fun r hm=>hl r (List.mem_cons_of_mem _ hm)) h
def eqI (R:Rs) (fs:List T) (a b:T):Bool:=eqT R fs a b || isT (known2 fs (.eq (nf R fs a) (nf R fs b)))
theorem j3j (hR:RsOK F R) (hf:allT F ρ fs) {a b:T} (h:eqI R fs a b=true):a.den F ρ=b.den F ρ:=by
  unfold eqI at h;rw [Bool.or_eq_true] at h
  rcases h with h | h
  · exact joz hR hf h
  · have k:∀t,(nf R fs t).den F ρ=t.den F ρ:=fun t=>(jbf hR hf t).1
    have h1:=jas hf _ _ (jln h);rw [jcy,k,k] at h1;exact beq_iff_eq.1 h1
def leX (R:Rs) (fs:List T):X→X→Bool
  | .i k t,.i k' t'=>decide (k=k') && eqI R fs t t'
  | .b t,.b t'=>eqB R fs t t'
  | .z k c t,.z k' c' t'=>(!c' || c) && eqT R fs t t' && (decide (k≤k') || (c && fits fs R t' k' R.ft))
  | .p q o,.p q' o'=>Nat.beq q q' && Nat.beq o o'
  | .s0,.s0=>true
  | .cst c,.cst d=>c.same d
  | _,_=>false
theorem jx7 (hR:RsOK F R) (hf:allT F ρ fs) {x y:X} {cs:List Value} (h:leX R fs x y=true) (k:x.has F ρ β w cs):y.has F ρ β w cs:=by
  cases x <;> cases y <;> simp only [leX,Bool.and_eq_true,decide_eq_true_eq] at h <;> try (cases h;done)
  · show cs=_;rw [←j3j hR hf h.2,←h.1];exact k
  · show cs=_;rw [←j3i hR hf h];exact k
  · rename_i k0 c t k' c' t'
    obtain ⟨n',A',l,cc,h1,h2,h3⟩:=k;have e:=joz hR hf h.1.2;refine ⟨n',A',l,cc,h1,?_,fun hc=>?_⟩
    · rw [←e]
      have h4:=h.2;rw [Bool.or_eq_true,Bool.and_eq_true,decide_eq_true_eq] at h4
      rcases h4 with h4 | h4
      · exact h2.up h4
      · exact ((h3 h4.1).fit (by rw [e];exact jm8 hR hf hR.ft h4.2)).q
    · rw [←e]
      have hc1:c=true:=by
        have:=h.1.1;rw [hc] at this
        simpa using this
      have h4:=h.2;rw [Bool.or_eq_true,Bool.and_eq_true,decide_eq_true_eq] at h4
      rcases h4 with h4 | h4
      · exact (h3 hc1).up h4
      · exact (h3 h4.1).fit (by rw [e];exact jm8 hR hf hR.ft h4.2)
  · show cs=_;rw [←Nat.eq_of_beq_eq_true h.1,←Nat.eq_of_beq_eq_true h.2];exact k
  · exact k
  · rw [←Kc.same_eq h];exact k
def leL (R:Rs) (fs:List T):List X→List X→Bool
  | [],[]=>true
  | x::xs,y::ys=>leX R fs x y && leL R fs xs ys
  | _,_=>false
theorem jlo (hR:RsOK F R) (hf:allT F ρ fs):∀{xs ys:List X} {cs:List Value},leL R fs xs ys=true→hasL F ρ β w xs cs→hasL F ρ β w ys cs
  | [],[],_,_,k=>k
  | [],_::_,_,h,_=>by cases h
  | _::_,[],_,h,_=>by cases h
  | x::xs,y::ys,_,h,⟨c,d,h1,h2,h3⟩=>by
    simp only [leL,Bool.and_eq_true] at h;exact ⟨c,d,h1,jx7 hR hf h.1 h2,jlo hR hf h.2 h3⟩
def leV (R:Rs) (fs:List T):V1→V1→Bool
  | .sc x,.sc y=>leX R fs x y
  | .ag xs,.ag ys=>leL R fs xs ys
  | .fn f xs,.fn g ys=>Nat.beq f g && leL R fs xs ys
  | _,_=>false
theorem jx8 (hR:RsOK F R) (hf:allT F ρ fs) {x y:V1} {v:Value} (h:leV R fs x y=true) (k:x.has F ρ β w v):y.has F ρ β w v:=by
  cases x <;> cases y <;> simp only [leV,Bool.and_eq_true] at h <;> try (cases h;done)
  · exact jx7 hR hf h k
  · obtain ⟨cs,h1,h2⟩:=k;exact ⟨cs,h1,jlo hR hf h h2⟩
  · obtain ⟨cs,h1,h2⟩:=k;exact ⟨cs,by rw [h1,Nat.eq_of_beq_eq_true h.1],jlo hR hf h.2 h2⟩
def leVs (R:Rs) (fs:List T):List V1→List V1→Bool
  | [],[]=>true
  | x::xs,y::ys=>leV R fs x y && leVs R fs xs ys
  | _,_=>false
theorem jto (hR:RsOK F R) (hf:allT F ρ fs):∀{xs ys:List V1} {cs:List Value},leVs R fs xs ys=true→hasV F ρ β w xs cs→hasV F ρ β w ys cs
  | [],[],_,_,k=>k
  | [],_::_,_,h,_=>by cases h
  | _::_,[],_,h,_=>by cases h
  | x::xs,y::ys,_,h,⟨c,d,h1,h2,h3⟩=>by
    simp only [leVs,Bool.and_eq_true] at h;exact ⟨c,d,h1,jx8 hR hf h.1 h2,jto hR hf h.2 h3⟩
def leA (R:Rs) (fs:List T):A→A→Bool
  | .one x,.one y=>leV R fs x y
  | .tup xs,.tup ys=>leVs R fs xs ys
  | .und,.und=>true
  | _,_=>false
theorem jtp (hR:RsOK F R) (hf:allT F ρ fs) {x y:A} {v:Value} (h:leA R fs x y=true) (k:x.has F ρ β w v):y.has F ρ β w v:=by
  cases x <;> cases y <;> simp only [leA] at h <;> try (cases h;done)
  · exact jx8 hR hf h k
  · obtain ⟨cs,h1,h2⟩:=k;exact ⟨cs,h1,jto hR hf h h2⟩
  · exact k
def leSt (R:Rs) (st H:St) (σ:Nat→T):Bool:=
  H.sl.all (fun p=>match get st.sl p.1 with | some a=>leA R st.fs a (p.2.inst σ id) | none=>false) &&
  H.bx.all (fun b=>match getB st.bx b.id with | some c=>Nat.beq c.ty b.ty && (c.ro == b.ro) && leL R st.fs c.xs (b.xs.map (X.inst σ id)) | none=>false) &&
  allKnown st.fs (H.fs.map (T.inst σ))
theorem jhr {σ:Nat→T}:∀{l:List T},allT F ρ (l.map (T.inst σ))→allT F (fun i=>(σ i).den F ρ) l
  | [],_=>trivial
  | t::l,h=>⟨by rw [←jm7];exact h.1,jhr h.2⟩
theorem jtq (hR:RsOK F R) (hs:SH F ρ β w0 n st a w) {H:St} {σ:Nat→T} (h:leSt R st H σ=true):SH F (fun i=>(σ i).den F ρ) β w0 n H a w:=by
  unfold leSt at h;rw [Bool.and_eq_true,Bool.and_eq_true] at h;obtain ⟨⟨h1,h2⟩,h3⟩:=h
  have box:∀i b,getB H.bx i=some b→∃c,getB st.bx i=some c∧c.ty=b.ty∧c.ro=b.ro∧leL R st.fs c.xs (b.xs.map (X.inst σ id))=true:=fun i b hi=>by
    obtain ⟨m1,m2⟩:=jfk hi;have:=List.all_eq_true.1 h2 b m1;rw [m2] at this
    split at this
    · rename_i c e
      rw [Bool.and_eq_true,Bool.and_eq_true] at this;exact ⟨c,e,Nat.eq_of_beq_eq_true this.1.1,beq_iff_eq.1 this.1.2,this.2⟩
    · cases this
  have slot:∀t x,get H.sl t=some x→∃y,get st.sl t=some y∧leA R st.fs y (x.inst σ id)=true:=fun t x hx=>by
    have:=List.all_eq_true.1 h1 _ (jm6 hx)
    dsimp only at this
    split at this
    · rename_i y e;exact ⟨y,e,this⟩
    · cases this
  refine ⟨fun t x hx=>?_,⟨fun i b hi=>?_,fun i j b c hi hj hij=>?_⟩,fun i b hi hr=>?_,jhr (jbd hs.fs h3),hs.low,hs.df,hs.sz,fun t x hx=>?_⟩
  · obtain ⟨y,e1,e2⟩:=slot t x hx
    exact (A.has_inst (μ:=id)).1 (jtp hR hs.fs e2 (hs.sl t y e1))
  · obtain ⟨c,e1,e2,e3,e4⟩:=box i b hi
    obtain ⟨cs,k1,k2,k3⟩:=hs.bx.at_ i c e1;exact ⟨cs,by rw [←e2];exact k1,k2,(jef (μ:=id)).1 (jlo hR hs.fs e4 k3)⟩
  · obtain ⟨c1,e1,-⟩:=box i b hi
    obtain ⟨c2,e2,-⟩:=box j c hj;exact hs.bx.ne i j c1 c2 e1 e2 hij
  · obtain ⟨c,e1,e2,e3,e4⟩:=box i b hi
    exact hs.base i c e1 (by rw [e3];exact hr)
  · obtain ⟨y,e1,-⟩:=slot t x hx
    exact hs.lt t y e1
end
end V
namespace V
inductive Ex where
  | normal
  | exit (id:Nat)
  | ret
def Ex.to:Ex→Exit
  | .normal=>.normal
  | .exit id=>.exit id
  | .ret=>.ret
structure Ann where
  key:Nat
  var:Nat
  start:T
  sl:List (Nat×A)
  bx:List (Nat×List X)
  fs:List T
  m:T
def firstR:Code→Option Nat
  | .region id _ _=>some id
  | .seq a b=>(firstR a).or (firstR b)
  | .cond _ a b=>(firstR a).or (firstR b)
  | .block _ b=>firstR b
  | .loop b=>firstR b
  | .scope b=>firstR b
  | _=>none
def wrs:Code→List Nat
  | .region _ ops _=>ops.toList.filterMap (·.dst)
  | .seq a b=>wrs a ++ wrs b
  | .cond _ a b=>wrs a ++ wrs b
  | .block _ b=>wrs b
  | .loop b=>wrs b
  | .scope b=>wrs b
  | .rangeFunc _ ps a b=>ps.toList ++ wrs a ++ wrs b
  | _=>[]
def memN (i:Nat):List Nat→Bool
  | []=>false
  | j::l=>Nat.beq i j || memN i l
def findAnn (i:Nat):List Ann→Option Ann
  | []=>none
  | a::l=>if Nat.beq a.key i then some a else findAnn i l
def getL (l:List (Nat×List X)) (t:Nat):Option (List X):=match l with
  | []=>none
  | (i,a)::l=>if Nat.beq i t then some a else getL l t
def headSt (st:St) (an:Ann) (ws:List Nat):St:=
  { sl:=an.sl ++ st.sl.filter (fun p=>!(memN p.1 ws) && (get an.sl p.1).isNone),
    bx:=(st.bx.filter (fun b=>!(memN b.id ws))).map (fun b=>match getL an.bx b.id with | some xs=>{ b with xs:=xs } | none=>b),
    fs:=an.fs ++ st.fs }
def T.blw (n:Nat):T→Bool
  | .v j=>Nat.blt j n
  | .n _=>true
  | .add a b=>a.blw n && b.blw n
  | .sub a b=>a.blw n && b.blw n
  | .mul a b=>a.blw n && b.blw n
  | .lt a b=>a.blw n && b.blw n
  | .le a b=>a.blw n && b.blw n
  | .eq a b=>a.blw n && b.blw n
  | .not a=>a.blw n
  | .and a b=>a.blw n && b.blw n
  | .or a b=>a.blw n && b.blw n
  | .ite a b d=>a.blw n && b.blw n && d.blw n
  | .ap _ l=>l.blw n
  | .e=>true
  | .c a b=>a.blw n && b.blw n
def put1 (i:Nat) (t:T):Nat→T:=fun j=>if Nat.beq j i then t else .v j
section
variable {P:Program} {F:Nat→List Int→Int}
def wpc (tab:List (Ctr P F)) (R:Rs) (anns:List Ann) (n:Nat) (rd:Array Oper→St→Res):Code→Nat→St→(Ex→St→Bool)→Bool
  | .skip,_,st,k=>k .normal st
  | .label _,_,st,k=>k .normal st
  | .region _ ops draw,_,st,k=>match draw with
    | false=>splits (runSeq tab n ops ops.toList) 24 st (k .normal)
    | true=>splits (rd ops) 24 st (k .normal)
  | .seq a b,np,st,k=>wpc tab R anns n rd a np st (fun e st'=>match e with
    | .normal=>wpc tab R anns n rd b np st' k
    | e=>k e st')
  | .cond c a b,np,st,k=>match evO st c with
    | some (.one (.sc (.b t)))=>match known2 st.fs t with
      | some true=>wpc tab R anns n rd a np st k
      | some false=>wpc tab R anns n rd b np st k
      | none=>match iteC (redI st.fs t) with
        | none=>wpc tab R anns n rd a np (withF st t) k && wpc tab R anns n rd b np (withF st (.not t)) k
        | some q=>(match known2 (withF st q).fs t with
            | some true=>wpc tab R anns n rd a np (withF st q) k
            | some false=>wpc tab R anns n rd b np (withF st q) k
            | none=>wpc tab R anns n rd a np (withF (withF st q) t) k && wpc tab R anns n rd b np (withF (withF st q) (.not t)) k) &&
          (match known2 (withF st (.not q)).fs t with
            | some true=>wpc tab R anns n rd a np (withF st (.not q)) k
            | some false=>wpc tab R anns n rd b np (withF st (.not q)) k
            | none=>wpc tab R anns n rd a np (withF (withF st (.not q)) t) k && wpc tab R anns n rd b np (withF (withF st (.not q)) (.not t)) k)
    | _=>false
  | .block id b,np,st,k=>wpc tab R anns n rd b np st (fun e st'=>match e with
    | .exit j=>if j=id then k .normal st' else k (.exit j) st'
    | e=>k e st')
  | .exit id,_,st,k=>k (.exit id) st
  | .ret,_,st,k=>k .ret st
  | .loop b,np,st,k=>match firstR b with
    | some key=>match findAnn key anns with
      | some an=>Nat.ble np an.var && an.m.blw (an.var+1) && allKnown (headSt st an (wrs b)).fs [.le (.n 0) an.m] &&
        leSt R st (headSt st an (wrs b)) (put1 an.var an.start) &&
        wpc tab R anns n rd b (an.var+1) (headSt st an (wrs b)) (fun e st'=>match e with
          | .normal=>leSt R st' (headSt st an (wrs b)) (put1 an.var (.add (.v an.var) (.n 1))) && allKnown st'.fs [.lt (an.m.inst (put1 an.var (.add (.v an.var) (.n 1)))) an.m]
          | e=>k e st')
      | none=>false
    | none=>false
  | _,_,_,_=>false
end
section
variable {F:Nat→List Int→Int} {P:Program} {w0:World} {n:Nat}
theorem jam {n i:Nat}:∀{t:T},t.blw n=true→t.occ i=true→i<n
  | .v j,h,k=>by
    have h':j<n:=by simpa [T.blw,Nat.blt_eq] using h
    have k':j=i:=Nat.eq_of_beq_eq_true k
    omega
  | .n _,_,k=>by cases k
  | .add a b,h,k=>by simp only [T.blw,T.occ,Bool.and_eq_true,Bool.or_eq_true] at h k;rcases k with k | k;exact jam h.1 k;exact jam h.2 k
  | .sub a b,h,k=>by simp only [T.blw,T.occ,Bool.and_eq_true,Bool.or_eq_true] at h k;rcases k with k | k;exact jam h.1 k;exact jam h.2 k
  | .mul a b,h,k=>by simp only [T.blw,T.occ,Bool.and_eq_true,Bool.or_eq_true] at h k;rcases k with k | k;exact jam h.1 k;exact jam h.2 k
  | .lt a b,h,k=>by simp only [T.blw,T.occ,Bool.and_eq_true,Bool.or_eq_true] at h k;rcases k with k | k;exact jam h.1 k;exact jam h.2 k
  | .le a b,h,k=>by simp only [T.blw,T.occ,Bool.and_eq_true,Bool.or_eq_true] at h k;rcases k with k | k;exact jam h.1 k;exact jam h.2 k
  | .eq a b,h,k=>by simp only [T.blw,T.occ,Bool.and_eq_true,Bool.or_eq_true] at h k;rcases k with k | k;exact jam h.1 k;exact jam h.2 k
  | .not a,h,k=>jam (t:=a) h k
  | .and a b,h,k=>by simp only [T.blw,T.occ,Bool.and_eq_true,Bool.or_eq_true] at h k;rcases k with k | k;exact jam h.1 k;exact jam h.2 k
  | .or a b,h,k=>by simp only [T.blw,T.occ,Bool.and_eq_true,Bool.or_eq_true] at h k;rcases k with k | k;exact jam h.1 k;exact jam h.2 k
  | .ite a b d,h,k=>by simp only [T.blw,T.occ,Bool.and_eq_true,Bool.or_eq_true] at h k;rcases k with (k | k) | k;exact jam h.1.1 k;exact jam h.1.2 k;exact jam h.2 k
  | .ap _ l,h,k=>jam (t:=l) h k
  | .e,_,k=>by cases k
  | .c a b,h,k=>by simp only [T.blw,T.occ,Bool.and_eq_true,Bool.or_eq_true] at h k;rcases k with k | k;exact jam h.1 k;exact jam h.2 k
theorem jo0 {i:Nat} {t:T} {ρ:Nat→Int} {j:Nat} (h:j≠i):(put1 i t j).den F ρ=ρ j:=by
  unfold put1;rw [if_neg]
  · rfl
  · intro e;exact h (Nat.eq_of_beq_eq_true e)
def DrawOK (P:Program) (F:Nat→List Int→Int) (w0:World) (n:Nat) (rd:Array Oper→St→Res):Prop:=∀{id:Nat} {ops:Array Oper} {st st':St} {ρ:Nat→Int} {β:Nat→Nat} {a:Act} {w:World} {Q:Exit→Act→World→Prop},
  SH F ρ β w0 n st a w→rd ops st=.ok st'→(∀β' a' w',SH F ρ β' w0 n st' a' w'→Q .normal a' w')→(Code.region id ops true).wp P Q a w
theorem jda {tab:List (Ctr P F)} {R:Rs} (hR:RsOK F R) {anns:List Ann} {rd:Array Oper→St→Res} (hrd:DrawOK P F w0 n rd):∀(c:Code) {np:Nat} {st:St} {k:Ex→St→Bool} {ρ:Nat→Int} {β:Nat→Nat} {a:Act} {w:World} {Q:Exit→Act→World→Prop},
    wpc tab R anns n rd c np st k=true→SH F ρ β w0 n st a w→
    (∀e st' ρ' β' a' w',(∀i,i<np→ρ' i=ρ i)→k e st'=true→SH F ρ' β' w0 n st' a' w'→Q e.to a' w')→c.wp P Q a w
  | .skip,np,st,k,ρ,β,a,w,Q,h,hs,hq=>wp_skip (hq .normal st ρ β a w (fun _ _=>rfl) h hs)
  | .label l,np,st,k,ρ,β,a,w,Q,h,hs,hq=>wp_label (hq .normal st ρ β a w (fun _ _=>rfl) h hs)
  | .region id ops false,np,st,k,ρ,β,a,w,Q,h,hs,hq=>jqe hs h fun st' β' a' w' hk hs'=>hq .normal st' ρ β' a' w' (fun _ _=>rfl) hk hs'
  | .region id ops true,np,st,k,ρ,β,a,w,Q,h,hs,hq=>
    jfm h hs fun st0 st' e hk hs0=>hrd hs0 e fun β' a' w' hs'=>hq .normal st' ρ β' a' w' (fun _ _=>rfl) hk hs'
  | .seq x y,np,st,k,ρ,β,a,w,Q,h,hs,hq=>wp_seq (jda hR hrd x h hs fun e st' ρ' β' a' w' hag hk hs'=>by
      cases e with
      | normal=>exact jda hR hrd y hk hs' fun e st'' ρ'' β'' a'' w'' hag' hk' hs''=>hq e st'' ρ'' β'' a'' w'' (fun i hi=>(hag' i hi).trans (hag i hi)) hk' hs''
      | exit j=>exact hq (.exit j) st' ρ' β' a' w' hag hk hs'
      | ret=>exact hq .ret st' ρ' β' a' w' hag hk hs')
  | .cond c x y,np,st,k,ρ,β,a,w,Q,h,hs,hq=>by
    simp only [wpc] at h
    split at h
    · rename_i t e
      have hv:a.eval c=.bool (t.bd F ρ):=List.head_eq_of_cons_eq (jay hs.sl e)
      split at h
      · rename_i e2
        refine wp_cond_true (by rw [hv,jas hs.fs t _ e2]) (jda hR hrd x h hs hq)
      · rename_i e2
        refine wp_cond_false (by rw [hv,jas hs.fs t _ e2]) (jda hR hrd y h hs hq)
      · have one:∀{st:St},SH F ρ β w0 n st a w→(wpc tab R anns n rd x np (withF st t) k && wpc tab R anns n rd y np (withF st (.not t)) k)=true→(Code.cond c x y).wp P Q a w:=fun hs h=>by
          rw [Bool.and_eq_true] at h
          cases ht:t.bd F ρ with
          | true=>exact wp_cond_true (by rw [hv,ht]) (jda hR hrd x h.1 (hs.facts (jc9 ht)) hq)
          | false=>exact wp_cond_false (by rw [hv,ht]) (jda hR hrd y h.2 (hs.facts (jc9 (by rw [jax,ht];rfl))) hq)
        split at h
        · exact one hs h
        · rename_i q _
          rw [Bool.and_eq_true] at h
          cases hqb:q.bd F ρ with
          | true=>
            have hs':=hs.facts (jc9 (t:=q) hqb);have h1:=h.1
            split at h1
            · rename_i e2
              exact wp_cond_true (by rw [hv,jas hs'.fs t _ e2]) (jda hR hrd x h1 hs' hq)
            · rename_i e2
              exact wp_cond_false (by rw [hv,jas hs'.fs t _ e2]) (jda hR hrd y h1 hs' hq)
            · exact one hs' h1
          | false=>
            have hs':=hs.facts (jc9 (t:=.not q) (by rw [jax,hqb];rfl));have h1:=h.2
            split at h1
            · rename_i e2
              exact wp_cond_true (by rw [hv,jas hs'.fs t _ e2]) (jda hR hrd x h1 hs' hq)
            · rename_i e2
              exact wp_cond_false (by rw [hv,jas hs'.fs t _ e2]) (jda hR hrd y h1 hs' hq)
            · exact one hs' h1
    · cases h
  | .block id b,np,st,k,ρ,β,a,w,Q,h,hs,hq=>wp_block (jda hR hrd b h hs fun e st' ρ' β' a' w' hag hk hs'=>by
      cases e with
      | normal=>exact hq .normal st' ρ' β' a' w' hag hk hs'
      | exit j=>
        dsimp only at hk
        show if j=id then Q .normal a' w' else Q (.exit j) a' w'
        split at hk
        · rename_i e;rw [if_pos e];exact hq .normal st' ρ' β' a' w' hag hk hs'
        · rename_i e;rw [if_neg e];exact hq (.exit j) st' ρ' β' a' w' hag hk hs'
      | ret=>exact hq .ret st' ρ' β' a' w' hag hk hs')
  | .exit id,np,st,k,ρ,β,a,w,Q,h,hs,hq=>wp_exit (hq (.exit id) st ρ β a w (fun _ _=>rfl) h hs)
  | .ret,np,st,k,ρ,β,a,w,Q,h,hs,hq=>wp_ret (hq .ret st ρ β a w (fun _ _=>rfl) h hs)
  | .loop b,np,st,k,ρ,β,a,w,Q,h,hs,hq=>by
    simp only [wpc] at h
    split at h
    · split at h
      · rename_i key e an ea
        simp only [Bool.and_eq_true] at h;obtain ⟨⟨⟨⟨h1,h2⟩,h3⟩,h4⟩,h5⟩:=h;have hnp:np≤an.var:=Nat.le_of_ble_eq_true h1
        generalize hH:headSt st an (wrs b)=H at h3 h4 h5
        have key:∀(N:Nat) {ρ':Nat→Int} {β':Nat→Nat} {a':Act} {w':World},(∀i,i<np→ρ' i=ρ i)→(an.m.den F ρ').toNat<N→SH F ρ' β' w0 n H a' w'→Code.rounds P b Q N a' w':=by
          intro N
          induction N with
          | zero=>intro _ _ _ _ _ hm;omega
          | succ N ih=>
            intro ρ' β' a' w' hag hm hs';rw [rounds_succ];refine jda hR hrd b h5 hs' fun e st'' ρ'' β'' a'' w'' hag' hk hs''=>?_
            have hag2:∀i,i<np→ρ'' i=ρ i:=fun i hi=>(hag' i (by omega)).trans (hag i hi)
            cases e with
            | normal=>
              dsimp only at hk
              rw [Bool.and_eq_true] at hk;have hs3:=jtq hR hs'' hk.1;refine ih (ρ':=fun i=>(put1 an.var (.add (.v an.var) (.n 1)) i).den F ρ'') (fun i hi=>?_) ?_ hs3
              · rw [jo0 (by omega)];exact hag2 i hi
              · have hlt:=(jbd hs''.fs hk.2).1
                rw [bd_lt,decide_eq_true_eq,jgm] at hlt;have hnn:=(jbd hs3.fs h3).1;rw [bd_le,decide_eq_true_eq,jc7] at hnn;have hsame:an.m.den F ρ''=an.m.den F ρ':=(jal an.m fun i hi=>hag' i (jam h2 hi)).1
                omega
            | exit j=>exact hq (.exit j) st'' ρ'' β'' a'' w'' hag2 hk hs''
            | ret=>exact hq .ret st'' ρ'' β'' a'' w'' hag2 hk hs''
        have hs0:=jtq hR hs h4;exact wp_loop_rounds _ (key _ (fun i hi=>jo0 (by omega)) (Nat.lt_succ_self _) hs0)
      · cases h
    · cases h
  | .rangeFunc _ _ _ _,_,_,_,_,_,_,_,_,h,_,_=>by cases h
  | .scope _,_,_,_,_,_,_,_,_,h,_,_=>by cases h
  | .goto _,_,_,_,_,_,_,_,_,h,_,_=>by cases h
  | .refuse _,_,_,_,_,_,_,_,_,h,_,_=>by cases h
end
end V
namespace V
def V1.blw (n:Nat):V1→Bool
  | .sc x=>x.tm.blw n
  | .ag xs=>xs.all (fun x=>x.tm.blw n)
  | .fn _ xs=>xs.all (fun x=>x.tm.blw n)
def A.blw (n:Nat):A→Bool
  | .one a=>a.blw n
  | .tup l=>l.all (V1.blw n)
  | .und=>true
def resX (P:Program) (st:St):List ResultVar→Option (List V1)
  | []=>some []
  | .tmp t::r=>match get st.sl t,resX P st r with
    | some (.one v),some vs=>some (v::vs)
    | _,_=>none
  | .cell t ty::r=>match get st.sl t,resX P st r with
    | some (.one (.sc (.p b o))),some vs=>match getB st.bx b with
      | some bb=>match partX P ty bb.xs o with
        | some v=>some (v::vs)
        | none=>none
      | none=>none
    | _,_=>none
def mkR:List V1→A
  | [v]=>.one v
  | vs=>.tup vs
section
variable {F:Nat→List Int→Int} {ρ ρ':Nat→Int} {β:Nat→Nat} {P:Program} {w w0:World} {n:Nat} {st:St} {a:Act}
theorem agreeX {np:Nat} (h:∀i,i<np→ρ' i=ρ i) {x:X} (k:x.tm.blw np=true) {cs:List Value} (hx:x.has F ρ' β w cs):x.has F ρ β w cs:=
  X.agree (jal x.tm fun i hi=>(h i (jam k hi)).symm).1 hx
theorem agreeL {np:Nat} (h:∀i,i<np→ρ' i=ρ i):∀{xs:List X} {cs:List Value},xs.all (fun x=>x.tm.blw np)=true→hasL F ρ' β w xs cs→hasL F ρ β w xs cs
  | [],_,_,k=>k
  | x::xs,_,e,⟨c,d,h1,h2,h3⟩=>by
    simp only [List.all_cons,Bool.and_eq_true] at e;exact ⟨c,d,h1,agreeX h e.1 h2,agreeL h e.2 h3⟩
theorem agreeV {np:Nat} (h:∀i,i<np→ρ' i=ρ i) {x:V1} {v:Value} (k:x.blw np=true) (hx:x.has F ρ' β w v):x.has F ρ β w v:=by
  cases x with
  | sc x=>exact agreeX h k hx
  | ag xs=>obtain ⟨cs,h1,h2⟩:=hx;exact ⟨cs,h1,agreeL h k h2⟩
  | fn f xs=>obtain ⟨cs,h1,h2⟩:=hx;exact ⟨cs,h1,agreeL h k h2⟩
theorem agreeVs {np:Nat} (h:∀i,i<np→ρ' i=ρ i):∀{xs:List V1} {vs:List Value},xs.all (V1.blw np)=true→hasV F ρ' β w xs vs→hasV F ρ β w xs vs
  | [],_,_,k=>k
  | x::xs,_,e,⟨c,d,h1,h2,h3⟩=>by
    simp only [List.all_cons,Bool.and_eq_true] at e;exact ⟨c,d,h1,agreeV h e.1 h2,agreeVs h e.2 h3⟩
theorem agreeA {np:Nat} (h:∀i,i<np→ρ' i=ρ i) {x:A} {v:Value} (k:x.blw np=true) (hx:x.has F ρ' β w v):x.has F ρ β w v:=by
  cases x with
  | one x=>exact agreeV h k hx
  | tup xs=>obtain ⟨cs,h1,h2⟩:=hx;exact ⟨cs,h1,agreeVs h k h2⟩
  | und=>exact hx
theorem agreeT {np:Nat} (h:∀i,i<np→ρ' i=ρ i):∀{l:List T},l.all (T.blw np)=true→allT F ρ' l→allT F ρ l
  | [],_,_=>trivial
  | t::l,e,k=>by
    simp only [List.all_cons,Bool.and_eq_true] at e;refine ⟨?_,agreeT h e.2 k.2⟩;have:=(jal (F:=F) t fun i hi=>(h i (jam e.1 hi)).symm).1;unfold T.bd;rw [this];exact k.1
def rvRun (P:Program) (tmps:Array Value):ResultVar→Sem Value
  | .tmp t=>pure (tmps.getD t undef)
  | .cell a t=>do loadVar t (← asAddr (tmps.getD a undef))
theorem jm9 (hs:SH F ρ β w0 n st a w):∀{l:List ResultVar} {vs:List V1},resX P st l=some vs→∃us:List Value,us.length=l.length∧(∀(i:Nat) rv,l[i]? = some rv→∃u,us[i]? = some u∧(rvRun P a.tmps rv).run P w=.ok u w)∧hasV F ρ β w vs us
  | [],vs,h=>by simp [resX] at h;subst h;exact ⟨[],rfl,fun i rv hi=>by simp at hi,rfl⟩
  | .tmp t::r,vs,h=>by
    simp only [resX] at h
    split at h
    · rename_i v vs' e1 e2
      cases h
      obtain ⟨us,h1,h2,h3⟩:=jm9 hs e2;refine ⟨a.tmps.getD t undef::us,by simp [h1],fun i rv hi=>?_,_,_,rfl,hs.sl t _ e1,h3⟩
      cases i with
      | zero=>simp at hi;subst hi;exact ⟨_,rfl,rfl⟩
      | succ i=>exact h2 i rv (by simpa using hi)
    · cases h
  | .cell t ty::r,vs,h=>by
    simp only [resX] at h
    split at h
    · rename_i b o vs' e1 e2
      split at h
      · rename_i bb e3
        split at h
        · rename_i v e4
          cases h
          obtain ⟨us,h1,h2,h3⟩:=jm9 hs e2;have hp:a.tmps.getD t undef=.pointer (some ⟨β b,o,none⟩):=List.head_eq_of_cons_eq (hs.sl t _ e1);obtain ⟨cs,k1,k2,k3⟩:=hs.bx.at_ b bb e3;obtain ⟨u,m1,m2⟩:=jlg (P:=P) k1 k3 e4;refine ⟨u::us,by simp [h1],fun i rv hi=>?_,_,_,rfl,m2,h3⟩
          cases i with
          | zero=>
            simp at hi;subst hi;refine ⟨u,rfl,?_⟩;simp only [Instr.loadAt,Instr.sureAddr,Sem.run_bind,Sem.run_pure,Result.andThen_ok] at m1;simp only [rvRun,hp,asAddr,Sem.run_bind,Sem.run_pure,Result.andThen_ok];exact m1
          | succ i=>exact h2 i rv (by simpa using hi)
        · cases h
      · cases h
    · cases h
theorem j0f {tmps:Array Value}:∀(l:List ResultVar) (us:List Value),us.length=l.length→l.length≤4→(∀(i:Nat) rv,l[i]? = some rv→∃u,us[i]? = some u∧(rvRun P tmps rv).run P w=.ok u w)→
    (l.toArray.mapM (rvRun P tmps)).run P w=.ok us.toArray w
  | [],[],_,_,_=>by simp
  | [r1],[u1],_,_,h=>by
    obtain ⟨x1,g1,k1⟩:=h 0 r1 rfl
    cases g1
    simp [k1]
  | [r1,r2],[u1,u2],_,_,h=>by
    obtain ⟨x1,g1,k1⟩:=h 0 r1 rfl;obtain ⟨x2,g2,k2⟩:=h 1 r2 rfl
    cases g1;cases g2
    simp [k1,k2]
  | [r1,r2,r3],[u1,u2,u3],_,_,h=>by
    obtain ⟨x1,g1,k1⟩:=h 0 r1 rfl;obtain ⟨x2,g2,k2⟩:=h 1 r2 rfl;obtain ⟨x3,g3,k3⟩:=h 2 r3 rfl
    cases g1;cases g2;cases g3
    simp [k1,k2,k3]
  | [r1,r2,r3,r4],[u1,u2,u3,u4],_,_,h=>by
    obtain ⟨x1,g1,k1⟩:=h 0 r1 rfl;obtain ⟨x2,g2,k2⟩:=h 1 r2 rfl;obtain ⟨x3,g3,k3⟩:=h 2 r3 rfl;obtain ⟨x4,g4,k4⟩:=h 3 r4 rfl
    cases g1;cases g2;cases g3;cases g4
    simp [k1,k2,k3,k4]
  | _::_::_::_::_::_,_,_,hl,_=>by simp at hl
  | [],_::_,h,_,_=>by simp at h
  | [_],[],h,_,_=>by simp at h
  | [_],_::_::_,h,_,_=>by simp at h
  | [_,_],[],h,_,_=>by simp at h
  | [_,_],[_],h,_,_=>by simp at h
  | [_,_],_::_::_::_,h,_,_=>by simp at h
  | [_,_,_],[],h,_,_=>by simp at h
  | [_,_,_],[_],h,_,_=>by simp at h
  | [_,_,_],[_,_],h,_,_=>by simp at h
  | [_,_,_],_::_::_::_::_,h,_,_=>by simp at h
  | [_,_,_,_],[],h,_,_=>by simp at h
  | [_,_,_,_],[_],h,_,_=>by simp at h
  | [_,_,_,_],[_,_],h,_,_=>by simp at h
  | [_,_,_,_],[_,_,_],h,_,_=>by simp at h
  | [_,_,_,_],_::_::_::_::_::_,h,_,_=>by simp at h
theorem jo1:∀{vs:List V1} {us:List Value},hasV F ρ β w vs us→us.length=vs.length
  | [],_,h=>by rw [show _=[] from h];rfl
  | _::_,_,⟨u,r,e,_,k⟩=>by rw [e,List.length_cons,List.length_cons,jo1 k]
theorem j3k:∀{vs:List V1} {us:List Value},hasV F ρ β w vs us→(mkR vs).has F ρ β w (if h:us.toArray.size=1 then us.toArray[0] else .tuple us.toArray)
  | [],_,h=>by rw [show _=[] from h];exact ⟨[],rfl,rfl⟩
  | [v],_,⟨u,r,e,m,k⟩=>by
    rw [show r=[] from k] at e;subst e;exact m
  | v1::v2::vs,us,h=>by
    have hl:=jo1 h;rw [dif_neg (by simp at hl ⊢;omega)];exact ⟨us,rfl,h⟩
theorem jiq (hs:SH F ρ β w0 n st a w) {fn:Func} {vs:List V1} (hlen:fn.results.toList.length≤4) (h:resX P st fn.results.toList=some vs):∃u,(results fn a.tmps).run P w=.ok u w∧(mkR vs).has F ρ β w u:=by
  obtain ⟨us,h1,h2,h3⟩:=jm9 hs h;refine ⟨_,?_,j3k h3⟩
  have hf:results fn a.tmps=(do let vs ← fn.results.mapM (rvRun P a.tmps);pure (if h:vs.size=1 then vs[0] else .tuple vs)):=by
    unfold results
    congr 1
  have hr:fn.results=fn.results.toList.toArray:=by simp
  rw [hf,hr,Sem.run_bind,j0f _ us h1 hlen h2]
  rfl
end
end V
namespace V
structure Spec where
  f:FuncId
  ps:List A
  bx:List (Nat×TypeId×List X)
  np:Nat
  fs:List T
  res:A
  post:List T
def numb:Nat→List A→List (Nat×A)
  | _,[]=>[]
  | i,a::l=>(i,a)::numb (i+1) l
def Spec.st (sp:Spec):St:={ sl:=numb 0 sp.ps,bx:=sp.bx.map (fun b=>⟨b.1,b.2.1,b.2.2,true⟩),fs:=sp.fs }
def fin (P:Program) (R:Rs) (sp:Spec) (rs:List ResultVar) (e:Ex) (st:St):Bool:=match e with
  | .exit _=>false
  | _=>match resX P st rs with
    | some vs=>leA R st.fs (mkR vs) sp.res && allKnown st.fs sp.post
    | none=>false
def X.isP:X→Bool
  | .p _ _=>true
  | _=>false
def V1.noP:V1→Bool
  | .sc x=>!x.isP
  | .ag xs=>xs.all (fun x=>!x.isP)
  | .fn _ xs=>xs.all (fun x=>!x.isP)
def A.noP:A→Bool
  | .one a=>a.noP
  | .tup l=>l.all V1.noP
  | .und=>true
def checkF {P:Program} {F:Nat→List Int→Int} (tab:List (Ctr P F)) (R:Rs) (anns:List Ann) (rd:Nat→Array Oper→St→Res) (sp:Spec):Bool:=
  match P.funcs[sp.f]? with
  | some fn=>match fn.body with
    | some c=>!(fn.name == "runtime.NumGoroutine") && Nat.ble sp.ps.length fn.ntmps && Nat.ble fn.results.toList.length 4 && sp.res.blw sp.np && sp.res.noP && sp.post.all (T.blw sp.np) &&
      wpc tab R anns fn.ntmps (rd fn.ntmps) c sp.np sp.st (fin P R sp fn.results.toList)
    | none=>false
  | none=>false
section
variable {F:Nat→List Int→Int} {ρ ρ':Nat→Int} {β β':Nat→Nat} {P:Program} {w w0:World} {n:Nat} {st:St} {a:Act}
theorem j3l {x:X} (k:(!x.isP)=true) {cs:List Value} (h:x.has F ρ β w cs):x.has F ρ β' w cs:=by
  cases x with
  | p q o=>cases k
  | _=>exact h
theorem j0g:∀{xs:List X} {cs:List Value},xs.all (fun x=>!x.isP)=true→hasL F ρ β w xs cs→hasL F ρ β' w xs cs
  | [],_,_,k=>k
  | x::xs,_,e,⟨c,d,h1,h2,h3⟩=>by
    rw [List.all_cons,Bool.and_eq_true] at e;exact ⟨c,d,h1,j3l e.1 h2,j0g e.2 h3⟩
theorem j3m {x:V1} {v:Value} (k:x.noP=true) (hx:x.has F ρ β w v):x.has F ρ β' w v:=by
  cases x with
  | sc x=>exact j3l k hx
  | ag xs=>obtain ⟨cs,h1,h2⟩:=hx;exact ⟨cs,h1,j0g k h2⟩
  | fn f xs=>obtain ⟨cs,h1,h2⟩:=hx;exact ⟨cs,h1,j0g k h2⟩
theorem jx9:∀{xs:List V1} {vs:List Value},xs.all V1.noP=true→hasV F ρ β w xs vs→hasV F ρ β' w xs vs
  | [],_,_,k=>k
  | x::xs,_,e,⟨c,d,h1,h2,h3⟩=>by
    simp only [List.all_cons,Bool.and_eq_true] at e;exact ⟨c,d,h1,j3m e.1 h2,jx9 e.2 h3⟩
theorem j3n {x:A} {v:Value} (k:x.noP=true) (hx:x.has F ρ β w v):x.has F ρ β' w v:=by
  cases x with
  | one x=>exact j3m k hx
  | tup xs=>obtain ⟨cs,h1,h2⟩:=hx;exact ⟨cs,h1,jx9 k h2⟩
  | und=>exact hx
theorem jj4:∀{l:List A} {vs:List Value},hasA F ρ β w l vs→vs.length=l.length
  | [],_,h=>by rw [show _=[] from h];rfl
  | _::_,_,⟨u,r,e,_,k⟩=>by rw [e,List.length_cons,List.length_cons,jj4 k]
theorem jhs:∀{l:List A} {vs:List Value} {i t:Nat} {x:A},hasA F ρ β w l vs→get (numb i l) t=some x→i≤t∧t<i+l.length∧∃u,vs[t - i]? = some u∧x.has F ρ β w u
  | [],_,_,_,_,_,h=>by cases h
  | y::l,_,i,t,x,⟨u,r,e,m,k⟩,h=>by
    simp only [numb,get] at h
    split at h
    · rename_i e2
      cases h
      have e3:i=t:=Nat.eq_of_beq_eq_true e2;subst e3;exact ⟨Nat.le_refl _,by simp,u,by rw [e];simp,m⟩
    · obtain ⟨h1,h2,v,h3,h4⟩:=jhs k h
      refine ⟨by omega,by simp;omega,v,?_,h4⟩;rw [e,show t - i=(t - (i+1))+1 by omega,List.getElem?_cons_succ];exact h3
theorem jv7 {tab:List (Ctr P F)} {R:Rs} (hR:RsOK F R) {anns:List Ann} {rd:Nat→Array Oper→St→Res} (hrd:∀n (w0:World),DrawOK P F w0 n (rd n)) {sp:Spec} (hc:checkF tab R anns rd sp=true)
    {vs:List Value} (ha:hasA F ρ β w sp.ps vs) (hb:bxOK F ρ β w sp.st.bx) (hf:allT F ρ sp.fs) :
    allT F ρ sp.post∧Enters P sp.f∧Calls P sp.f vs.toArray w (fun e w'=>Below w.heap.size w w'∧∃u,e=.returned u∧sp.res.has F ρ β w' u):=by
  unfold checkF at hc
  split at hc
  · rename_i fn hfn
    split at hc
    · rename_i c hbody
      simp only [Bool.and_eq_true,Bool.not_eq_true'] at hc;obtain ⟨⟨⟨⟨⟨⟨h0,h1⟩,h2⟩,h3⟩,h6⟩,h4⟩,h5⟩:=hc;have hlen:=jj4 ha;have hps:sp.ps.length≤fn.ntmps:=Nat.le_of_ble_eq_true h1
      have hs:SH F ρ β w fn.ntmps sp.st { tmps:=vs.toArray ++ Array.replicate (fn.ntmps - vs.toArray.size) undef,defers:=[] } w:=by
        refine ⟨fun t x hx=>?_,hb,fun i b hi hr=>?_,hf,Below.refl _ _,rfl,by simp;omega,fun d x hx=>?_⟩
        · obtain ⟨-,h7,u,h8,h9⟩:=jhs (i:=0) ha hx
          have:(vs.toArray ++ Array.replicate (fn.ntmps - vs.toArray.size) undef).getD t undef=u:=by
            simp only [Nat.sub_zero] at h8;rw [Array.getD_eq_getD_getElem?,Array.getElem?_append_left (by simp;omega)];simp [h8]
          show x.has F ρ β w ((vs.toArray ++ Array.replicate (fn.ntmps - vs.toArray.size) undef).getD t undef)
          rw [this];exact h9
        · have:b.ro=true:=by
            obtain ⟨m1,-⟩:=jfk hi;obtain ⟨y,-,e⟩:=List.mem_map.1 m1;rw [←e]
          rw [this] at hr
          cases hr
        · have:=(jhs (i:=0) ha hx).2.1
          omega
      have hcalls:Calls P sp.f vs.toArray w (fun e w'=>allT F ρ sp.post∧Below w.heap.size w w'∧∃u,e=.returned u∧sp.res.has F ρ β w' u):=by
        refine calls_of_wp hfn hbody (jda hR (hrd fn.ntmps w) c h5 hs fun e st' ρ' β' a' w' hag hk hs'=>?_)
        have main:fin P R sp fn.results.toList e st'=true→(a'.defers=[]∧∃v,(results fn a'.tmps).run P w'=.ok v w'∧(allT F ρ sp.post∧Below w.heap.size w w'∧∃u,Ending.returned v=.returned u∧sp.res.has F ρ β w' u)):=fun hk=>by
          have hk':∃vs',resX P st' fn.results.toList=some vs'∧leA R st'.fs (mkR vs') sp.res=true∧allKnown st'.fs sp.post=true:=by
            unfold fin at hk
            split at hk
            · cases hk
            · split at hk
              · rename_i vs' e'
                rw [Bool.and_eq_true] at hk;exact ⟨vs',e',hk.1,hk.2⟩
              · cases hk
          obtain ⟨vs',k1,k2,k3⟩:=hk';obtain ⟨u,m1,m2⟩:=jiq (P:=P) hs' (Nat.le_of_ble_eq_true h2) k1;exact ⟨hs'.df,u,m1,agreeT hag h4 (jbd hs'.fs k3),hs'.low,u,rfl,j3n h6 (agreeA hag h3 (jtp hR hs'.fs k2 m2))⟩
        cases e with
        | normal=>exact main hk
        | exit id=>cases hk
        | ret=>exact main hk
      refine ⟨?_,enters_of hfn h0 hbody,hcalls.mono fun e w' h=>h.2⟩;obtain ⟨e,w',fr,hr,-⟩:=hcalls [];exact hr.1
    · cases hc
  · cases hc
end
end V
end Go.Proofs.YtllgjggkchgpbaaGreat
