/- V: regions that draw their order; contracts. -/
import Derived.Test.YtllgjggkchgpbaaGreatVb
set_option linter.unusedVariables false
set_option linter.unusedSimpArgs false
namespace Go.Proofs.YtllgjggkchgpbaaGreat
open Go.RowKit Go.Shelf
namespace V
inductive Eff where
  | val (d:Nat) (x:A) (post:List T)
  | box (d:Nat) (ty:TypeId) (xs:List X)
  | sto (b off:Nat) (ys zs:List X)
  | und (d:Nat)
  | nop
def Eff.slot:Eff→Option (Nat×A)
  | .val d x _=>some (d,x)
  | .box d _ _=>some (d,.one (.sc (.p d 0)))
  | .und d=>some (d,.und)
  | _=>none
def Eff.post:Eff→List T
  | .val _ _ p=>p
  | _=>[]
def cont:List Eff→Nat→(Nat→Bool)→Nat→List X→List X
  | [],_,_,_,xs=>xs
  | e::r,j,L,b,xs=>match e with
    | .sto b' _ _ zs=>cont r (j+1) L b (if Nat.beq b' b && L j then zs else xs)
    | _=>cont r (j+1) L b xs
def newOf:List Eff→Nat→Nat→Option (Nat×TypeId×List X)
  | [],_,_=>none
  | e::r,j,b=>match e with
    | .box d ty xs=>if Nat.beq d b then some (j,ty,xs) else newOf r (j+1) b
    | _=>newOf r (j+1) b
def live (st:St) (pl:List Eff) (L:Nat→Bool) (b:Nat):Option (TypeId×List X×Bool):=match newOf pl 0 b with
  | some (j,ty,xs)=>if L j then some (ty,cont pl 0 L b xs,false) else none
  | none=>match getB st.bx b with
    | some bb=>some (bb.ty,cont pl 0 L b bb.xs,bb.ro)
    | none=>none
def dstsOf (ops:List Oper):List Nat:=ops.filterMap (·.dst)
structure DInv (F:Nat→List Int→Int) (ρ:Nat→Int) (β:Nat→Nat) (w0:World) (n:Nat) (st:St) (ds:List Nat) (pl:List Eff) (L:Nat→Bool) (a:Act) (w:World):Prop where
  sl0:∀t x,get st.sl t=some x→memN t ds=false→x.has F ρ β w (a.tmps.getD t undef)
  slE:∀(i:Nat) e t x,pl[i]? = some e→L i=true→e.slot=some (t,x)→x.has F ρ β w (a.tmps.getD t undef)
  bx:∀b ty xs ro,live st pl L b=some (ty,xs,ro)→∃cs,Blk w (β b) ty cs.toArray∧True∧hasL F ρ β w xs cs∧(ro=false→w0.heap.size≤β b)
  ne:∀b c,(live st pl L b).isSome=true→(live st pl L c).isSome=true→b≠c→β b≠β c
  fs:allT F ρ st.fs
  ps:∀(i:Nat) e,pl[i]? = some e→L i=true→allT F ρ e.post
  low:Below w0.heap.size w0 w
  df:a.defers=[]
  sz:a.tmps.size=n
def addL (L:Nat→Bool) (i:Nat):Nat→Bool:=fun j=>L j || Nat.beq j i
section
variable {F:Nat→List Int→Int} {ρ:Nat→Int} {β:Nat→Nat} {P:Program} {w w' w0:World} {n:Nat} {st:St} {a:Act} {ds:List Nat} {pl:List Eff} {L:Nat→Bool}
theorem jht {i:Nat}:addL L i i=true:=by simp [addL]
theorem jna {i j:Nat} (h:L j=true):addL L i j=true:=by simp [addL,h]
theorem jbt {i j:Nat} (h:addL L i j=true):j=i∨L j=true:=by
  simp only [addL,Bool.or_eq_true] at h
  rcases h with h | h
  · exact .inr h
  · exact .inl (Nat.eq_of_beq_eq_true h)
theorem je6 {i j:Nat} (h:j≠i):addL L i j=L j:=by
  unfold addL
  have:Nat.beq j i=false:=by
    cases hb:Nat.beq j i with
    | false=>rfl
    | true=>exact absurd (Nat.eq_of_beq_eq_true hb) h
  rw [this,Bool.or_false]
def isSto:Eff→Bool
  | .sto _ _ _ _=>true
  | _=>false
def isBox:Eff→Bool
  | .box _ _ _=>true
  | _=>false
theorem jj5 {i:Nat}:∀{pl:List Eff} {k b:Nat} {xs:List X},(∀e,pl[i - k]? = some e→k≤i→isSto e=false)→cont pl k (addL L i) b xs=cont pl k L b xs
  | [],_,_,_,_=>rfl
  | e::r,k,b,xs,h=>by
    have ih:∀xs,cont r (k+1) (addL L i) b xs=cont r (k+1) L b xs:=fun xs=>jj5 fun e' he hk=>h e' (by
      rw [show i - k=(i - (k+1))+1 by omega,List.getElem?_cons_succ];exact he) (by omega)
    cases e with
    | sto b' off ys zs=>
      simp only [cont];rw [ih]
      by_cases hk:k=i
      · have:=h (.sto b' off ys zs) (by rw [hk];simp) (by omega)
        cases this
      · rw [je6 hk]
    | _=>simp only [cont];exact ih xs
theorem jdw:∀{pl:List Eff} {k b j:Nat} {ty:TypeId} {xs:List X},newOf pl k b=some (j,ty,xs)→k≤j∧pl[j - k]? = some (.box b ty xs)
  | [],_,_,_,_,_,h=>by cases h
  | e::r,k,b,j,ty,xs,h=>by
    have rest:newOf r (k+1) b=some (j,ty,xs)→k≤j∧(e::r)[j - k]? = some (.box b ty xs):=fun h=>by
      obtain ⟨h1,h2⟩:=jdw h;exact ⟨by omega,by rw [show j - k=(j - (k+1))+1 by omega,List.getElem?_cons_succ];exact h2⟩
    cases e with
    | box d ty' xs'=>
      simp only [newOf] at h
      split at h
      · rename_i e2
        cases h
        exact ⟨Nat.le_refl _,by rw [Nat.eq_of_beq_eq_true e2];simp⟩
      · exact rest h
    | _=>exact rest h
theorem jgn {i:Nat} {e:Eff} (he:pl[i]? = some e) (h1:isSto e=false) (h2:isBox e=false) (b:Nat):live st pl (addL L i) b=live st pl L b:=by
  have hc:∀xs,cont pl 0 (addL L i) b xs=cont pl 0 L b xs:=fun xs=>jj5 fun e' he' _=>by
    rw [Nat.sub_zero,he] at he'
    cases he'
    exact h1
  unfold live
  split
  · rename_i j ty xs en
    obtain ⟨-,hj⟩:=jdw en;rw [Nat.sub_zero] at hj
    have hne:j≠i:=by
      rintro rfl;rw [he] at hj
      cases hj
      cases h2
    rw [je6 hne,hc]
  · simp only [hc]
structure PlanOK (n:Nat) (st:St) (ds:List Nat) (ops:Array Oper) (pl:List Eff):Prop where
  len:pl.length=ops.size
  dst:∀(i:Nat) e t x,pl[i]? = some e→e.slot=some (t,x)→(ops[i]?).bind (·.dst)=some t
  mem:∀(i:Nat) t,(ops[i]?).bind (·.dst)=some t→memN t ds=true∧t<n
  uniq:∀(i j:Nat) t,(ops[i]?).bind (·.dst)=some t→(ops[j]?).bind (·.dst)=some t→i=j
  fr0:∀(i d:Nat) ty xs,pl[i]? = some (.box d ty xs)→∀t x,get st.sl t=some x→memN t ds=false→x.mp d=false
  frE:∀(i d:Nat) ty xs,pl[i]? = some (.box d ty xs)→∀(j:Nat) e t x,pl[j]? = some e→j≠i→e.slot=some (t,x)→x.mp d=false
  frB:∀(i d:Nat) ty xs,pl[i]? = some (.box d ty xs)→∀L b ty' xs' ro,live st pl L b=some (ty',xs',ro)→xs'.any (X.mp d)=false
theorem DInv.val (h:DInv F ρ β w0 n st ds pl L a w) {ops:Array Oper} (hp:PlanOK n st ds ops pl) {i d:Nat} {x:A} {u:Value} {e:Eff} (he:pl[i]? = some e) (hes:e.slot=some (d,x)) (h1:isSto e=false) (h2:isBox e=false)
    (hb:Below w.heap.size w w') (hx:x.has F ρ β w' u) (hpost:allT F ρ e.post):DInv F ρ β w0 n st ds pl (addL L i) (a.put (some d) u) w':=by
  have hdst:=hp.dst i e d x he hes;obtain ⟨hm,hdn⟩:=hp.mem i d hdst;have hd:d<a.tmps.size:=by rw [h.sz];exact hdn
  refine ⟨fun t y ht hn=>?_,fun j e' t y hj hl hs=>?_,fun b ty xs ro hl=>?_,fun b c hb' hc' hne=>?_,h.fs,fun j e' hj hl=>?_,h.low.trans (hb.mono h.low.size),by rw [jc8];exact h.df,by rw [jfj];exact h.sz⟩
  · rw [jf2 a d t u hd,if_neg (by rintro rfl;rw [hm] at hn;cases hn)]
    exact A.ext (h.sl0 t y ht hn) (jau hb)
  · rw [jf2 a d t u hd]
    rcases jbt hl with rfl | hl
    · rw [he] at hj
      cases hj
      rw [hes] at hs
      cases hs
      rw [if_pos rfl];exact hx
    · by_cases htd:t=d
      · subst htd
        have:=hp.uniq j i t (hp.dst j e' t y hj hs) hdst;subst this;rw [he] at hj
        cases hj
        rw [hes] at hs
        cases hs
        rw [if_pos rfl];exact hx
      · rw [if_neg htd]
        exact A.ext (h.slE j e' t y hj hl hs) (jau hb)
  · rw [jgn he h1 h2] at hl
    obtain ⟨cs,k1,k2,k3,k4⟩:=h.bx b ty xs ro hl;exact ⟨cs,k1.below hb k1.lt,k2,k3.ext (jau hb),k4⟩
  · rw [jgn he h1 h2] at hb' hc'
    exact h.ne b c hb' hc' hne
  · rcases jbt hl with rfl | hl
    · rw [he] at hj
      cases hj
      exact hpost
    · exact h.ps j e' hj hl
end
end V
namespace V
section
variable {F:Nat→List Int→Int} {ρ:Nat→Int} {β:Nat→Nat} {P:Program} {w w' w0:World} {n:Nat} {st:St} {a:Act} {ds:List Nat} {pl:List Eff} {L:Nat→Bool}
theorem jeg:∀{pl:List Eff} {k b:Nat} {xs:List X},(∀(j:Nat) o ys zs,pl[j]? = some (.sto b o ys zs)→L (k+j)=false)→cont pl k L b xs=xs
  | [],_,_,_,_=>rfl
  | e::r,k,b,xs,h=>by
    have ih:∀xs,cont r (k+1) L b xs=xs:=fun xs=>jeg fun j o ys zs hj=>by
      have:=h (j+1) o ys zs (by simpa using hj);rw [show k+1+j=k+(j+1) by omega];exact this
    cases e with
    | sto b' off ys zs=>
      simp only [cont];rw [ih]
      split
      · rename_i e2
        rw [Bool.and_eq_true] at e2;have e3:=Nat.eq_of_beq_eq_true e2.1;subst e3;have:=h 0 off ys zs (by simp);rw [Nat.add_zero,e2.2] at this
        cases this
      · rfl
    | _=>simp only [cont];exact ih xs
theorem jo2 {off:Nat} {ys zs:List X}:∀{pl:List Eff} {i k b:Nat} {xs:List X},pl[i]? = some (.sto b off ys zs)→L (k+i)=true→(∀(j:Nat) o ys' zs',pl[j]? = some (.sto b o ys' zs')→L (k+j)=true→j≤i)→cont pl k L b xs=zs
  | [],_,_,_,_,h,_,_=>by simp at h
  | e::r,0,k,b,xs,h,hl,hu=>by
    simp at h;subst h;simp only [cont];rw [if_pos (by rw [Nat.add_zero] at hl;rw [hl];simp)]
    exact jeg fun j o ys' zs' hj=>by
      cases hL:L (k+1+j) with
      | false=>rfl
      | true=>
        have:=hu (j+1) o ys' zs' (by simpa using hj) (by rw [show k+(j+1)=k+1+j by omega];exact hL)
        omega
  | e::r,i+1,k,b,xs,h,hl,hu=>by
    have hc:∀xs,cont r (k+1) L b xs=zs:=fun xs=>jo2 (i:=i) (by simpa using h) (by rw [show k+1+i=k+(i+1) by omega];exact hl) fun j o ys' zs' hj hL=>by
      have:=hu (j+1) o ys' zs' (by simpa using hj) (by rw [show k+(j+1)=k+1+j by omega];exact hL)
      omega
    cases e with
    | _=>simp only [cont];exact hc _
theorem jeh {M:Nat→Bool}:∀{pl:List Eff} {k b:Nat} {xs:List X},(∀(j:Nat) o ys zs,pl[j]? = some (.sto b o ys zs)→L (k+j)=M (k+j))→cont pl k L b xs=cont pl k M b xs
  | [],_,_,_,_=>rfl
  | e::r,k,b,xs,h=>by
    have ih:∀xs,cont r (k+1) L b xs=cont r (k+1) M b xs:=fun xs=>jeh fun j o ys zs hj=>by
      have:=h (j+1) o ys zs (by simpa using hj);rw [show k+1+j=k+(j+1) by omega];exact this
    cases e with
    | sto b' off ys zs=>
      simp only [cont];rw [ih]
      cases hb:Nat.beq b' b with
      | false=>rfl
      | true=>
        have e3:=Nat.eq_of_beq_eq_true hb;subst e3;have:=h 0 off ys zs (by simp);rw [Nat.add_zero] at this;rw [this]
    | _=>simp only [cont];exact ih xs
theorem jlp {m:Nat}:∀{pl:List Eff} {k i b:Nat} {xs:List X},k+i=m→(∀j,L j=true→j<m)→cont (pl.take i) k L b xs=cont pl k L b xs
  | [],_,_,_,_,_,_=>by rw [List.take_nil]
  | e::r,k,0,b,xs,hm,h=>by
    rw [List.take_zero]
    exact (jeg fun j o ys zs _=>by
      cases hL:L (k+j) with
      | false=>rfl
      | true=>have:=h _ hL;omega).symm
  | e::r,k,i+1,b,xs,hm,h=>by
    rw [List.take_succ_cons]
    cases e with
    | _=>simp only [cont];exact jlp (by omega) h
theorem jqf {i b' off:Nat} {ys zs:List X} {pl:List Eff} {b:Nat} {xs:List X} (h:pl[i]? = some (.sto b' off ys zs)) (hne:b'≠b):cont pl 0 (addL L i) b xs=cont pl 0 L b xs:=
  jeh fun j o ys' zs' hj=>by
    rw [Nat.zero_add];refine je6 ?_;rintro rfl;rw [h] at hj
    cases hj
    exact hne rfl
theorem jir:∀{pl:List Eff} {i k d:Nat} {ty:TypeId} {xs:List X},pl[i]? = some (.box d ty xs)→∃r,newOf pl k d=some r
  | [],_,_,_,_,_,h=>by simp at h
  | e::r,i,k,d,ty,xs,h=>by
    cases i with
    | zero=>
      simp at h;subst h;exact ⟨_,by simp only [newOf];rw [if_pos (by simp)]⟩
    | succ i=>
      obtain ⟨q,hq⟩:=jir (k:=k+1) (show r[i]? = some (.box d ty xs) by simpa using h)
      cases e with
      | box d' ty' xs'=>
        simp only [newOf]
        split
        · exact ⟨_,rfl⟩
        · exact ⟨q,hq⟩
      | _=>exact ⟨q,hq⟩
theorem jj6 {ops:Array Oper} (hp:PlanOK n st ds ops pl) {i d:Nat} {ty:TypeId} {xs:List X} (h:pl[i]? = some (.box d ty xs)):newOf pl 0 d=some (i,ty,xs):=by
  obtain ⟨⟨j,ty',xs'⟩,hq⟩:=jir (k:=0) h;obtain ⟨-,h2⟩:=jdw hq;rw [Nat.sub_zero] at h2;have:=hp.uniq i j d (hp.dst i _ d _ h rfl) (hp.dst j _ d _ h2 rfl);subst this;rw [h] at h2
  cases h2
  exact hq
theorem DInv.box (h:DInv F ρ β w0 n st ds pl L a w) {ops:Array Oper} (hp:PlanOK n st ds ops pl) {i d:Nat} {ty:TypeId} {xs:List X} {cs:List Value} (he:pl[i]? = some (.box d ty xs)) (hL:L i=false)
    (hx:hasL F ρ β w xs cs) (hm:xs.any (X.mp d)=false) (hns:∀(j:Nat) o ys zs,pl[j]? = some (.sto d o ys zs)→L j=false) :
    DInv F ρ (V.upd β d w.heap.size) w0 n st ds pl (addL L i) (a.put (some d) (.pointer (some ⟨w.heap.size,0,none⟩))) (w.alloc (.cells cs.toArray ty)):=by
  have hb:Below w.heap.size w (w.alloc (.cells cs.toArray ty)):=(Below.refl _ _).alloc (Nat.le_refl _) _;have hdst:=hp.dst i _ d _ he rfl;obtain ⟨hmem,hdn⟩:=hp.mem i d hdst;have hd:d<a.tmps.size:=by rw [h.sz];exact hdn
  have hnew:=jj6 hp he
  have hcadd:∀b ys,cont pl 0 (addL L i) b ys=cont pl 0 L b ys:=fun b ys=>jj5 fun e' he' _=>by
    rw [Nat.sub_zero,he] at he'
    cases he'
    rfl
  have lived:live st pl (addL L i) d=some (ty,xs,false):=by
    unfold live;rw [hnew];simp only [jht,if_true,hcadd];rw [jeg (k:=0) fun j o ys zs hj=>by rw [Nat.zero_add];exact hns j o ys zs hj]
  have liveo:∀b,b≠d→live st pl (addL L i) b=live st pl L b:=fun b hbd=>by
    unfold live
    split
    · rename_i j ty' xs' en
      obtain ⟨-,hj⟩:=jdw en;rw [Nat.sub_zero] at hj
      have hne:j≠i:=by
        rintro rfl;rw [he] at hj
        cases hj
        exact hbd rfl
      rw [je6 hne,hcadd]
    · simp only [hcadd]
  refine ⟨fun t y ht hn=>?_,fun j e' t y hj hl hs=>?_,fun b ty' xs' ro hl=>?_,fun b c hb' hc' hne=>?_,h.fs,fun j e' hj hl=>?_,h.low.trans (hb.mono h.low.size),by rw [jc8];exact h.df,by rw [jfj];exact h.sz⟩
  · rw [jf2 a d t _ hd,if_neg (by rintro rfl;rw [hmem] at hn;cases hn)]
    exact A.upd (A.ext (h.sl0 t y ht hn) (jau hb)) (hp.fr0 i d ty xs he t y ht hn)
  · rw [jf2 a d t _ hd]
    by_cases hji:j=i
    · subst hji
      rw [he] at hj
      cases hj
      cases hs
      rw [if_pos rfl]
      show [_]=[_]
      unfold V.upd;rw [if_pos rfl]
    · have hl':L j=true:=by rw [je6 hji] at hl;exact hl
      have htd:t≠d:=by
        rintro rfl;exact hji (hp.uniq j i t (hp.dst j e' t y hj hs) hdst)
      rw [if_neg htd];exact A.upd (A.ext (h.slE j e' t y hj hl' hs) (jau hb)) (hp.frE i d ty xs he j e' t y hj hji hs)
  · by_cases hbd:b=d
    · subst hbd
      rw [lived] at hl
      cases hl
      refine ⟨cs,?_,trivial,hasL.upd (hx.ext (jau hb)) hm,fun _=>?_⟩
      · unfold V.upd;rw [if_pos rfl];exact Blk.new w _ _
      · unfold V.upd;rw [if_pos rfl];exact h.low.size
    · have hfr:=hp.frB i d ty xs he (addL L i) b ty' xs' ro hl
      rw [liveo b hbd] at hl;obtain ⟨cs',k1,k2,k3,k4⟩:=h.bx b ty' xs' ro hl;refine ⟨cs',?_,k2,hasL.upd (k3.ext (jau hb)) hfr,fun hr=>?_⟩
      · unfold V.upd;rw [if_neg hbd];exact k1.below hb k1.lt
      · unfold V.upd;rw [if_neg hbd];exact k4 hr
  · have lt:∀{c:Nat},c≠d→(live st pl (addL L i) c).isSome=true→β c<w.heap.size:=fun {c} hcd hc=>by
      rw [liveo c hcd] at hc
      cases hlc:live st pl L c with
      | none=>rw [hlc] at hc;cases hc
      | some q=>
        obtain ⟨t1,x1,r1⟩:=q;obtain ⟨cs',k1,-⟩:=h.bx c t1 x1 r1 hlc;exact k1.lt
    unfold V.upd
    by_cases hbd:b=d
    · subst hbd
      rw [if_pos rfl,if_neg (Ne.symm hne)];exact Nat.ne_of_gt (lt (Ne.symm hne) hc')
    · rw [if_neg hbd]
      by_cases hcd:c=d
      · subst hcd
        rw [if_pos rfl];exact Nat.ne_of_lt (lt hbd hb')
      · rw [if_neg hcd]
        rw [liveo b hbd] at hb';rw [liveo c hcd] at hc';exact h.ne b c hb' hc' hne
  · rcases jbt hl with rfl | hl
    · rw [he] at hj
      cases hj
      trivial
    · exact h.ps j e' hj hl
theorem DInv.sto (h:DInv F ρ β w0 n st ds pl L a w) {ops:Array Oper} (hp:PlanOK n st ds ops pl) {i b off:Nat} {ty:TypeId} {xs ys zs:List X} {cs:List Value} (he:pl[i]? = some (.sto b off ys zs))
    (hl:live st pl L b=some (ty,xs,false)) (hlast:∀(j:Nat) o ys' zs',pl[j]? = some (.sto b o ys' zs')→L j=true→j<i) (hy:hasL F ρ β w ys cs) (hz:putX xs ys off=some zs) (hu:(ys ++ xs).all X.noU=true) :
    DInv F ρ β w0 n st ds pl (addL L i) (a.put none undef) (w.setCells (β b) off cs)∧w.there (β b) off cs.length:=by
  obtain ⟨c0,k1,k2,k3,k4⟩:=h.bx b ty xs false hl;obtain ⟨m1,m2⟩:=jm5 k3 hy hz;have hfar:=jec (β b) cs off w;rw [List.all_append,Bool.and_eq_true] at hu;have hext:=jtl hfar k1 (jtj (jti k3 hu.2))
  have hhit:∀ys',cont pl 0 (addL L i) b ys'=zs:=fun ys'=>jo2 he (by rw [Nat.zero_add];exact jht) fun j o ys'' zs' hj hL=>by
    rw [Nat.zero_add] at hL
    rcases jbt hL with rfl | hL
    · exact Nat.le_refl _
    · exact Nat.le_of_lt (hlast j o ys'' zs' hj hL)
  have hoth:∀c ys',c≠b→cont pl 0 (addL L i) c ys'=cont pl 0 L c ys':=fun c ys' hcb=>jqf he (Ne.symm hcb)
  have liveb:live st pl (addL L i) b=some (ty,zs,false):=by
    unfold live at hl ⊢
    split at hl
    · rename_i j ty' xs' en
      split at hl
      · rename_i hLj
        cases hl
        rw [jna hLj,if_pos rfl,hhit]
      · cases hl
    · split at hl
      · rename_i bb eb
        simp only [Option.some.injEq,Prod.mk.injEq] at hl;simp only [hhit,hl.1,hl.2.2]
      · cases hl
  have liveo:∀c,c≠b→live st pl (addL L i) c=live st pl L c:=fun c hcb=>by
    unfold live
    split
    · rename_i j ty' xs' en
      obtain ⟨-,hj⟩:=jdw en;rw [Nat.sub_zero] at hj
      have hne:j≠i:=by
        rintro rfl;rw [he] at hj
        cases hj
      rw [je6 hne,hoth c _ hcb]
    · simp only [hoth c _ hcb]
  have some_of:∀c,(live st pl (addL L i) c).isSome=true→(live st pl L c).isSome=true:=fun c hc=>by
    by_cases hcb:c=b
    · subst hcb;rw [hl];rfl
    · rw [liveo c hcb] at hc;exact hc
  refine ⟨⟨fun t y ht hn=>A.ext (h.sl0 t y ht hn) hext,fun j e' t y hj hl' hs=>?_,fun c ty' xs' ro hlc=>?_,fun c c' hc hc' hne=>h.ne c c' (some_of c hc) (some_of c' hc') hne,h.fs,fun j e' hj hl'=>?_,jc5 (k4 rfl) cs off w h.low,h.df,h.sz⟩,fun j hj=>⟨?_,k1.frozen _⟩⟩
  · rcases jbt hl' with rfl | hl'
    · rw [he] at hj
      cases hj
      cases hs
    · exact A.ext (h.slE j e' t y hj hl' hs) hext
  · by_cases hcb:c=b
    · subst hcb
      rw [liveb] at hlc
      cases hlc
      exact ⟨_,jed cs off w c0 k1 m2,trivial,m1.ext hext,k4⟩
    · rw [liveo c hcb] at hlc
      obtain ⟨cs',g2,g3,g4,g5⟩:=h.bx c ty' xs' ro hlc;have hne:=h.ne c b (by rw [hlc];rfl) (by rw [hl];rfl) hcb;exact ⟨cs',(hfar.block _ hne).trans g2,g3,g4.ext hext,g5⟩
  · rcases jbt hl' with rfl | hl'
    · rw [he] at hj
      cases hj
      trivial
    · exact h.ps j e' hj hl'
  · rw [k1.cell]
    simp only [List.getElem?_toArray];rw [List.getElem?_eq_getElem (by omega)]
    rfl
end
end V
namespace V
def rootB (st:St) (ops:List Oper):Nat→Nat→Option Nat
  | 0,_=>none
  | m+1,t=>match ops.find? (fun o=>match o.dst with | some d=>Nat.beq d t | none=>false) with
    | some o=>match o.op with
      | .fieldAddr _ (.tmp x) _=>rootB st ops m x
      | .move (.tmp x)=>rootB st ops m x
      | .assign (.tmp x)=>rootB st ops m x
      | _=>some t
    | none=>match get st.sl t with
      | some (.one (.sc (.p b _)))=>some b
      | _=>none
def stoB (st:St) (ops:List Oper):Op→Option (Option Nat)
  | .store _ (.tmp t) _=>match rootB st ops 8 t with
    | some b=>some (some b)
    | none=>none
  | .store _ _ _=>none
  | _=>some none
def stores (st:St) (ops:List Oper):List Oper→Nat→Option (List (Nat×Nat))
  | [],_=>some []
  | o::r,k=>match stoB st ops o.op,stores st ops r (k+1) with
    | some (some b),some l=>some ((k,b)::l)
    | some none,some l=>some l
    | _,_=>none
def depOn (o:Oper) (j:Nat):Bool:=o.after.any fun e=>Region.binds .any e && e.on == j
def calm (ops:Array Oper) (ss:List (Nat×Nat)) (i:Nat) (o:Oper) (b:Nat):Bool:=ss.all fun p=>!(Nat.beq p.2 b) || Nat.beq p.1 i || depOn o p.1 || (match ops[p.1]? with | some o'=>depOn o' i | none=>false)
def depSl (o:Oper):List Eff→Nat→List (Nat×A)
  | [],_=>[]
  | e::r,j=>match e.slot with
    | some p=>if depOn o j then p::depSl o r (j+1) else depSl o r (j+1)
    | none=>depSl o r (j+1)
def depPs (o:Oper):List Eff→Nat→List T
  | [],_=>[]
  | e::r,j=>if depOn o j then e.post ++ depPs o r (j+1) else depPs o r (j+1)
def depBx (ops:Array Oper) (ss:List (Nat×Nat)) (i:Nat) (o:Oper):List Eff→Nat→List Bx
  | [],_=>[]
  | e::r,j=>match e with
    | .box d ty xs=>if depOn o j && calm ops ss i o d then ⟨d,ty,xs,false⟩::depBx ops ss i o r (j+1) else depBx ops ss i o r (j+1)
    | _=>depBx ops ss i o r (j+1)
def boxIds:List Eff→List Nat
  | []=>[]
  | .box d _ _::r=>d::boxIds r
  | _::r=>boxIds r
def mSt (ops:Array Oper) (st:St) (ds bs:List Nat) (ss:List (Nat×Nat)) (pl:List Eff) (i:Nat) (o:Oper):St:=
  { sl:=depSl o pl 0 ++ st.sl.filter (fun p=>!(memN p.1 ds)),
    bx:=(depBx ops ss i o pl 0 ++ st.bx.filter (fun b=>!(memN b.id bs) && calm ops ss i o b.id)).map (fun b=>{ b with xs:=cont pl 0 (depOn o) b.id b.xs }),
    fs:=depPs o pl 0 ++ st.fs }
def dedT:List T→List T
  | []=>[]
  | f::l=>if hasT f (dedT l) then dedT l else f::dedT l
def effX {P:Program} {F:Nat→List Int→Int} (tab:List (Ctr P F)) (nb:Nat) (m:St) (o:Oper):Option Eff:=
  match pureX2 P m o.op,o.dst with
  | some x,some d=>some (.val d x (dedT (m.fs.take (m.fs.length - nb))))
  | some _,none=>none
  | none,dst=>match o.op,dst with
    | .alloc T,some d=>match zeroX P T with
      | some v=>match cellsX v with
        | some xs=>if !(xs.any (X.mp d)) then some (.box d T xs) else none
        | none=>none
      | none=>none
    | .box T x,some d=>match evO m x with
      | some (.one v)=>match cellsX v with
        | some xs=>if !(xs.any (X.mp d)) then some (.box d T xs) else none
        | none=>none
      | _=>none
    | .store T x y,none=>match evO m x,evO m y with
      | some (.one (.sc (.p i off))),some (.one v)=>match getB m.bx i,cellsX v with
        | some b,some ys=>match putX b.xs ys off,sizeN P T with
          | some zs,some k=>if !b.ro && Nat.beq (widths ys) k && (ys ++ b.xs).all X.noU then some (.sto i off ys zs) else none
          | _,_=>none
        | _,_=>none
      | _,_=>none
    | op,some d=>match callX tab m op with
      | some (x,post)=>some (.val d x post)
      | none=>none
    | _,_=>none
inductive PRes where
  | ok (pl:List Eff)
  | split (t:T)
  | bad
def allocIds (ops:List Oper):List Nat:=ops.filterMap fun o=>match o.op with
  | .alloc _=>o.dst
  | .box _ _=>o.dst
  | _=>none
def planX {P:Program} {F:Nat→List Int→Int} (tab:List (Ctr P F)) (ops:Array Oper) (st:St) (ds bs:List Nat) (ss:List (Nat×Nat)):List Oper→List Eff→PRes
  | [],pl=>.ok pl
  | o::r,pl=>match wantX ops (mSt ops st ds bs ss pl pl.length o) o with
    | .yes=>match effX tab st.fs.length (mSt ops st ds bs ss pl pl.length o) o with
      | some e=>planX tab ops st ds bs ss r (pl ++ [e])
      | none=>.bad
    | .no=>match o.dst with
      | some d=>planX tab ops st ds bs ss r (pl ++ [.und d])
      | none=>planX tab ops st ds bs ss r (pl ++ [.nop])
    | .split t=>.split t
    | .bad=>.bad
def allSl:List Eff→List (Nat×A)
  | []=>[]
  | e::r=>match e.slot with
    | some p=>p::allSl r
    | none=>allSl r
def allPs:List Eff→List T
  | []=>[]
  | e::r=>e.post ++ allPs r
def yesL:Nat→Bool:=fun _=>true
def allBx (pl:List Eff):List Eff→List Bx
  | []=>[]
  | .box d ty xs::r=>⟨d,ty,cont pl 0 yesL d xs,false⟩::allBx pl r
  | _::r=>allBx pl r
def endSt (st:St) (ds:List Nat) (pl:List Eff):St:=
  { sl:=allSl pl ++ st.sl.filter (fun p=>!(memN p.1 ds)),
    bx:=allBx pl pl ++ (st.bx.filter (fun b=>!(memN b.id (boxIds pl)))).map (fun b=>{ b with xs:=cont pl 0 yesL b.id b.xs }),
    fs:=dedT (allPs pl) ++ st.fs }
def memP (p:Nat×Nat):List (Nat×Nat)→Bool
  | []=>false
  | q::l=>(Nat.beq p.1 q.1 && Nat.beq p.2 q.2) || memP p l
def stosB (ss:List (Nat×Nat)):List Eff→Nat→Bool
  | [],_=>true
  | e::r,k=>(match e with
    | .sto b _ _ _=>memP (k,b) ss
    | _=>true) && stosB ss r (k+1)
def nodupN:List Nat→Bool
  | []=>true
  | d::l=>!(memN d l) && nodupN l
def fresh1 (st:St) (ds:List Nat) (pl:List Eff) (d:Nat):Bool:=
  (st.sl.filter (fun p=>!(memN p.1 ds))).all (fun p=>!(p.2.mp d)) && st.bx.all (fun b=>!(b.xs.any (X.mp d))) &&
  pl.all (fun e=>match e with
    | .val _ x _=>!(x.mp d)
    | .box _ _ xs=>!(xs.any (X.mp d))
    | .sto _ _ _ zs=>!(zs.any (X.mp d))
    | _=>true)
def backB (ops:Array Oper):Bool:=(List.range ops.size).all fun i=>match ops[i]? with
  | some o=>o.after.all fun e=>!(Region.binds .any e) || Nat.blt e.on i
  | none=>true
def drawX {P:Program} {F:Nat→List Int→Int} (tab:List (Ctr P F)) (n:Nat) (ops:Array Oper) (st:St):Res:=
  match stores st ops.toList ops.toList 0 with
  | some ss=>match planX tab ops st (dstsOf ops.toList) (allocIds ops.toList) ss ops.toList [] with
    | .ok pl=>if nodupN (dstsOf ops.toList) && (dstsOf ops.toList).all (fun d=>Nat.blt d n) && (boxIds pl).all (fresh1 st (dstsOf ops.toList) pl) && backB ops && stosB ss pl 0 && (boxIds pl).all (fun d=>memN d (allocIds ops.toList)) then .ok (endSt st (dstsOf ops.toList) pl) else .bad
    | .split t=>.split t
    | .bad=>.bad
  | none=>.bad
end V
namespace V
section
variable {F:Nat→List Int→Int} {ρ:Nat→Int} {β:Nat→Nat} {P:Program} {w w' w0:World} {n:Nat} {st:St} {a:Act}
theorem jnb {i:Nat}:∀{l:List Nat},memN i l=true↔i∈l
  | []=>by simp [memN]
  | j::l=>by
    simp only [memN,Bool.or_eq_true,List.mem_cons,jnb (l:=l)]
    constructor
    · rintro (h | h)
      · exact .inl (Nat.eq_of_beq_eq_true h)
      · exact .inr h
    · rintro (h | h)
      · subst h;exact .inl (by simp)
      · exact .inr h
theorem jnc {i:Nat} {l:List Nat} (h:memN i l=false):i∉l:=fun hm=>by rw [jnb.2 hm] at h;cases h
theorem jlq:∀{ops:List Oper} {i j t:Nat},nodupN (dstsOf ops)=true→(ops[i]?).bind Oper.dst=some t→(ops[j]?).bind Oper.dst=some t→i=j
  | [],_,_,_,_,h,_=>by simp at h
  | o::r,i,j,t,hn,hi,hj=>by
    have mem:∀k:Nat,(r[k]?).bind Oper.dst=some t→t∈dstsOf r:=fun k hk=>by
      cases hr:r[k]? with
      | none=>rw [hr] at hk;cases hk
      | some o'=>
        rw [hr] at hk;exact List.mem_filterMap.2 ⟨o',List.mem_of_getElem? hr,hk⟩
    have rest:nodupN (dstsOf r)=true:=by
      unfold dstsOf at hn ⊢;rw [List.filterMap_cons] at hn
      split at hn
      · exact hn
      · simp only [nodupN,Bool.and_eq_true] at hn;exact hn.2
    have first:o.dst=some t→t∈dstsOf r→False:=fun ho ht=>by
      unfold dstsOf at hn ht;rw [List.filterMap_cons,ho] at hn;simp only [nodupN,Bool.and_eq_true,Bool.not_eq_true'] at hn;exact jnc hn.1 ht
    cases i with
    | zero=>
      cases j with
      | zero=>rfl
      | succ j=>exact (first (by simpa using hi) (mem j (by simpa using hj))).elim
    | succ i=>
      cases j with
      | zero=>exact (first (by simpa using hj) (mem i (by simpa using hi))).elim
      | succ j=>exact congrArg (· + 1) (jlq rest (by simpa using hi) (by simpa using hj))
def Stage (tab:List (Ctr P F)) (ops:Array Oper) (st:St) (ds bs:List Nat) (ss:List (Nat×Nat)) (pl:List Eff) (i:Nat) (o:Oper) (e:Eff):Prop:=
  (wantX ops (mSt ops st ds bs ss (pl.take i) i o) o=.yes∧effX tab st.fs.length (mSt ops st ds bs ss (pl.take i) i o) o=some e)∨
  (wantX ops (mSt ops st ds bs ss (pl.take i) i o) o=.no∧e=match o.dst with | some d=>.und d | none=>.nop)
theorem jo3 {tab:List (Ctr P F)} {ops:Array Oper} {ds bs:List Nat} {ss:List (Nat×Nat)}:∀(r:List Oper) (pl0 pl:List Eff),planX tab ops st ds bs ss r pl0=.ok pl→
    pl.length=pl0.length+r.length∧pl.take pl0.length=pl0∧∀k o,r[k]? = some o→∃e,pl[pl0.length+k]? = some e∧Stage tab ops st ds bs ss pl (pl0.length+k) o e
  | [],pl0,pl,h=>by
    simp only [planX] at h
    cases h
    exact ⟨by simp,by simp,fun k o hk=>by simp at hk⟩
  | o::r,pl0,pl,h=>by
    have go:∀e,planX tab ops st ds bs ss r (pl0 ++ [e])=.ok pl→((wantX ops (mSt ops st ds bs ss pl0 pl0.length o) o=.yes∧effX tab st.fs.length (mSt ops st ds bs ss pl0 pl0.length o) o=some e)∨(wantX ops (mSt ops st ds bs ss pl0 pl0.length o) o=.no∧e=match o.dst with | some d=>.und d | none=>.nop))→
        pl.length=pl0.length+(o::r).length∧pl.take pl0.length=pl0∧∀k o',(o::r)[k]? = some o'→∃e,pl[pl0.length+k]? = some e∧Stage tab ops st ds bs ss pl (pl0.length+k) o' e:=fun e he hst=>by
      obtain ⟨h1,h2,h3⟩:=jo3 r _ pl he;rw [List.length_append,List.length_singleton] at h1 h2 h3
      have h4:pl.take pl0.length=pl0:=by
        have:=congrArg (List.take pl0.length) h2;rw [List.take_take,Nat.min_eq_left (by omega),List.take_left] at this;exact this
      refine ⟨by simp;omega,h4,fun k o' hk=>?_⟩
      cases k with
      | zero=>
        simp at hk;subst hk
        have:pl[pl0.length]? = some e:=by
          have h5:(pl.take (pl0.length+1))[pl0.length]? = some e:=by rw [h2];simp
          rw [List.getElem?_take] at h5;rw [if_pos (by omega)] at h5;exact h5
        refine ⟨e,by simpa using this,?_⟩;unfold Stage;rw [Nat.add_zero,h4];exact hst
      | succ k=>
        obtain ⟨e',g1,g2⟩:=h3 k o' (by simpa using hk);rw [show pl0.length+1+k=pl0.length+(k+1) by omega] at g1 g2;exact ⟨e',g1,g2⟩
    simp only [planX] at h
    split at h
    · rename_i e1
      split at h
      · rename_i e e2;exact go e h (.inl ⟨e1,e2⟩)
      · cases h
    · rename_i e1
      split at h
      · rename_i d hd;exact go (.und d) h (.inr ⟨e1,by rw [hd]⟩)
      · rename_i hd;exact go .nop h (.inr ⟨e1,by rw [hd]⟩)
    · cases h
    · cases h
theorem jj7:∀{l:List T},allT F ρ l→allT F ρ (dedT l)
  | [],h=>h
  | f::l,h=>by
    simp only [dedT]
    split
    · exact jj7 h.2
    · exact ⟨h.1,jj7 h.2⟩
theorem jis:∀{l:List T} {k:Nat},allT F ρ l→allT F ρ (l.take k)
  | [],k,_=>by rw [List.take_nil];trivial
  | _::_,0,_=>trivial
  | t::l,k+1,h=>⟨h.1,jis h.2⟩
theorem jv8 {tab:List (Ctr P F)} {nb:Nat} {m:St} {o:Oper} {e:Eff} (h:effX tab nb m o=some e) {t:Nat} {x:A} (hs:e.slot=some (t,x)):o.dst=some t:=by
  unfold effX at h
  split at h
  · rename_i d _ e2;cases h;cases hs;exact e2
  · cases h
  · split at h
    · rename_i d _ hd
      split at h
      · split at h
        · split at h
          · cases h;cases hs;exact hd
          · cases h
        · cases h
      · cases h
    · rename_i d _ hd
      split at h
      · split at h
        · split at h
          · cases h;cases hs;exact hd
          · cases h
        · cases h
      · cases h
    · split at h
      · split at h
        · split at h
          · split at h
            · cases h;cases hs
            · cases h
          · cases h
        · cases h
      · cases h
    · rename_i d hd _ _
      split at h
      · cases h;cases hs;exact hd
      · cases h
    · cases h
end
end V
namespace V
section
variable {F:Nat→List Int→Int} {ρ:Nat→Int} {β:Nat→Nat} {P:Program} {w w' w0:World} {n:Nat} {st:St} {a:Act} {ops:Array Oper} {ds bs:List Nat} {ss:List (Nat×Nat)} {pl:List Eff} {L:Nat→Bool}
theorem jnd {t:Nat} {x:A}:∀{l m:List (Nat×A)},get (l ++ m) t=some x→get l t=some x∨get m t=some x
  | [],_,h=>.inr h
  | (i,y)::l,m,h=>by
    simp only [List.cons_append,get] at h ⊢
    split at h
    · rename_i e;rw [if_pos e];exact .inl h
    · rename_i e;rw [if_neg e];exact jnd h
theorem jgo {t:Nat} {x:Bx}:∀{l m:List Bx},getB (l ++ m) t=some x→getB l t=some x∨getB m t=some x
  | [],_,h=>.inr h
  | b::l,m,h=>by
    simp only [List.cons_append,getB] at h ⊢
    split at h
    · rename_i e;rw [if_pos e];exact .inl h
    · rename_i e;rw [if_neg e];exact jgo h
theorem jep {t:Nat} {x:A} {f:Nat→Bool}:∀{l:List (Nat×A)},get (l.filter (fun p=>f p.1)) t=some x→get l t=some x∧f t=true
  | [],h=>by cases h
  | (i,y)::l,h=>by
    rw [List.filter_cons] at h
    split at h
    · rename_i e
      simp only [get] at h ⊢
      split at h
      · rename_i e2
        rw [if_pos e2];refine ⟨h,?_⟩;rw [←Nat.eq_of_beq_eq_true e2];exact e
      · rename_i e2;rw [if_neg e2];exact jep h
    · rename_i e
      obtain ⟨h1,h2⟩:=jep h;refine ⟨?_,h2⟩;simp only [get];rw [if_neg]
      · exact h1
      · intro e2
        rw [←Nat.eq_of_beq_eq_true e2] at h2;exact e h2
theorem jcw {t:Nat} {x:Bx} {f:Nat→Bool}:∀{l:List Bx},getB (l.filter (fun b=>f b.id)) t=some x→getB l t=some x∧f t=true
  | [],h=>by cases h
  | y::l,h=>by
    rw [List.filter_cons] at h
    split at h
    · rename_i e
      simp only [getB] at h ⊢
      split at h
      · rename_i e2
        rw [if_pos e2];refine ⟨h,?_⟩;rw [←Nat.eq_of_beq_eq_true e2];exact e
      · rename_i e2;rw [if_neg e2];exact jcw h
    · rename_i e
      obtain ⟨h1,h2⟩:=jcw h;refine ⟨?_,h2⟩;simp only [getB];rw [if_neg]
      · exact h1
      · intro e2
        rw [←Nat.eq_of_beq_eq_true e2] at h2;exact e h2
theorem jo4 {o:Oper} {t:Nat} {x:A}:∀{pl:List Eff} {k:Nat},get (depSl o pl k) t=some x→∃j e,pl[j]? = some e∧depOn o (k+j)=true∧e.slot=some (t,x)
  | [],_,h=>by cases h
  | e::r,k,h=>by
    have rest:get (depSl o r (k+1)) t=some x→∃j e',(e::r)[j]? = some e'∧depOn o (k+j)=true∧e'.slot=some (t,x):=fun h=>by
      obtain ⟨j,e',h1,h2,h3⟩:=jo4 h;exact ⟨j+1,e',by simpa using h1,by rw [show k+(j+1)=k+1+j by omega];exact h2,h3⟩
    simp only [depSl] at h
    split at h
    · rename_i p hp
      split at h
      · rename_i hd
        obtain ⟨i,y⟩:=p;simp only [get] at h
        split at h
        · rename_i e2
          cases h
          rw [Nat.eq_of_beq_eq_true e2] at hp;exact ⟨0,e,by simp,hd,hp⟩
        · exact rest h
      · exact rest h
    · exact rest h
theorem jo5 {o:Oper}:∀{pl:List Eff} {k:Nat},(∀(j:Nat) e,pl[j]? = some e→depOn o (k+j)=true→allT F ρ e.post)→allT F ρ (depPs o pl k)
  | [],_,_=>trivial
  | e::r,k,h=>by
    have ih:allT F ρ (depPs o r (k+1)):=jo5 fun j e' hj hd=>h (j+1) e' (by simpa using hj) (by rw [show k+(j+1)=k+1+j by omega];exact hd)
    simp only [depPs]
    split
    · rename_i hd;exact jac (h 0 e (by simp) hd) ih
    · exact ih
theorem jj8 {i:Nat} {o:Oper} {b:Nat} {bb:Bx}:∀{pl:List Eff} {k:Nat},getB (depBx ops ss i o pl k) b=some bb→∃j ty xs,pl[j]? = some (.box b ty xs)∧depOn o (k+j)=true∧calm ops ss i o b=true∧bb=⟨b,ty,xs,false⟩
  | [],_,h=>by cases h
  | e::r,k,h=>by
    have rest:getB (depBx ops ss i o r (k+1)) b=some bb→∃j ty xs,(e::r)[j]? = some (.box b ty xs)∧depOn o (k+j)=true∧calm ops ss i o b=true∧bb=⟨b,ty,xs,false⟩:=fun h=>by
      obtain ⟨j,ty,xs,h1,h2,h3⟩:=jj8 h;exact ⟨j+1,ty,xs,by simpa using h1,by rw [show k+(j+1)=k+1+j by omega];exact h2,h3⟩
    cases e with
    | box d ty xs=>
      simp only [depBx] at h
      split at h
      · rename_i hc
        rw [Bool.and_eq_true] at hc;simp only [getB] at h
        split at h
        · rename_i e2
          cases h
          have e3:d=b:=Nat.eq_of_beq_eq_true e2;subst e3;exact ⟨0,ty,xs,by simp,hc.1,hc.2,rfl⟩
        · exact rest h
      · exact rest h
    | _=>exact rest h
theorem jgp {α:Type} {l:List α} {i j:Nat} {x:α} (h:(l.take i)[j]? = some x):l[j]? = some x∧j<i:=by
  rw [List.getElem?_take] at h
  split at h
  · rename_i hj;exact ⟨h,hj⟩
  · cases h
theorem jtr {p:Nat×Nat}:∀{l:List (Nat×Nat)},memP p l=true→p∈l
  | [],h=>by cases h
  | q::l,h=>by
    simp only [memP,Bool.or_eq_true,Bool.and_eq_true] at h
    rcases h with h | h
    · have e:p=q:=Prod.ext (Nat.eq_of_beq_eq_true h.1) (Nat.eq_of_beq_eq_true h.2)
      rw [e];exact List.mem_cons_self
    · exact List.mem_cons_of_mem _ (jtr h)
theorem jo6:∀{pl:List Eff} {k j b o:Nat} {ys zs:List X},stosB ss pl k=true→pl[j]? = some (.sto b o ys zs)→(k+j,b)∈ss
  | [],_,_,_,_,_,_,_,h=>by simp at h
  | e::r,k,j,b,o,ys,zs,hs,h=>by
    simp only [stosB,Bool.and_eq_true] at hs
    cases j with
    | zero=>
      simp at h;subst h;exact jtr hs.1
    | succ j=>
      have:=jo6 hs.2 (show r[j]? = some (.sto b o ys zs) by simpa using h);rw [show k+(j+1)=k+1+j by omega];exact this
structure Chk (tab:List (Ctr P F)) (n:Nat) (st:St) (ops:Array Oper) (ds bs:List Nat) (ss:List (Nat×Nat)) (pl:List Eff):Prop where
  plan:PlanOK n st ds ops pl
  stage:∀(i:Nat) o,ops[i]? = some o→∃e,pl[i]? = some e∧Stage tab ops st ds bs ss pl i o e
  sub:∀d,d∈boxIds pl→memN d bs=true
  sto:∀(j b o:Nat) ys zs,pl[j]? = some (.sto b o ys zs)→(j,b)∈ss
  back:∀(i:Nat) o,ops[i]? = some o→∀j,depOn o j=true→j<i
def Clo (ops:Array Oper) (L:Nat→Bool):Prop:=∀(i:Nat) o,ops[i]? = some o→L i=true→∀j,depOn o j=true→L j=true
theorem jts {tab:List (Ctr P F)} (hc:Chk tab n st ops ds bs ss pl) (hcl:Clo ops L) {i b:Nat} {o:Oper} (ho:ops[i]? = some o) (hL:L i=false) (hdep:∀j,depOn o j=true→L j=true) (h:calm ops ss i o b=true):∀(j:Nat) o' ys zs,pl[j]? = some (.sto b o' ys zs)→L j=depOn o j:=by
  intro j o' ys zs hj;have hm:=hc.sto j b o' ys zs hj;have:=List.all_eq_true.1 h _ hm;simp only [Bool.or_eq_true,Bool.not_eq_true'] at this
  rcases this with ((h1 | h1) | h1) | h1
  · simp at h1
  · have e:=Nat.eq_of_beq_eq_true h1
    subst e;rw [hL]
    cases hd:depOn o j with
    | false=>rfl
    | true=>have:=hc.back j o ho j hd;omega
  · rw [h1];exact hdep j h1
  · split at h1
    · rename_i o2 ho2
      have hLj:L j=false:=by
        cases hLj:L j with
        | false=>rfl
        | true=>
          rw [hcl j o2 ho2 hLj i h1] at hL
          cases hL
      rw [hLj]
      cases hd:depOn o j with
      | false=>rfl
      | true=>rw [hdep j hd] at hLj;cases hLj
    · cases h1
theorem jgq {f:Nat→List X→List X} {t:Nat} {x:Bx}:∀{l:List Bx},getB (l.map fun b=>{ b with xs:=f b.id b.xs }) t=some x→∃y,getB l t=some y∧x={ y with xs:=f t y.xs }
  | [],h=>by cases h
  | y::l,h=>by
    simp only [List.map_cons,getB] at h ⊢
    split at h
    · rename_i e
      rw [if_pos e]
      cases h
      exact ⟨y,rfl,by rw [Nat.eq_of_beq_eq_true e]⟩
    · rename_i e;rw [if_neg e];exact jgq h
theorem jeq:∀{pl:List Eff} {j d:Nat} {ty:TypeId} {xs:List X},pl[j]? = some (.box d ty xs)→d∈boxIds pl
  | [],_,_,_,_,h=>by simp at h
  | e::r,j,d,ty,xs,h=>by
    have rest:d∈boxIds r→d∈boxIds (e::r):=fun hm=>by
      cases e with
      | box d' _ _=>exact List.mem_cons_of_mem _ hm
      | _=>exact hm
    cases j with
    | zero=>simp at h;subst h;exact List.mem_cons_self
    | succ j=>exact rest (jeq (show r[j]? = some (.box d ty xs) by simpa using h))
theorem jit {k b:Nat} (h:b∉boxIds pl):newOf pl k b=none:=by
  cases hn:newOf pl k b with
  | none=>rfl
  | some q=>
    obtain ⟨j,ty,xs⟩:=q;obtain ⟨-,h2⟩:=jdw hn;exact absurd (jeq h2) h
theorem j3o {tab:List (Ctr P F)} (hc:Chk tab n st ops ds bs ss pl) (h:DInv F ρ β w0 n st ds pl L a w) (hlt:∀d x,get st.sl d=some x→d<n) (hcl:Clo ops L) {i:Nat} {o:Oper} (ho:ops[i]? = some o) (hL:L i=false) (hdep:∀j,depOn o j=true→L j=true) :
    slOK F ρ β w a (mSt ops st ds bs ss (pl.take i) i o).sl∧bxOK F ρ β w (mSt ops st ds bs ss (pl.take i) i o).bx∧allT F ρ (mSt ops st ds bs ss (pl.take i) i o).fs∧(∀d,(get (mSt ops st ds bs ss (pl.take i) i o).sl d).isSome=true→d<a.tmps.size)∧
    (∀b bb,getB (mSt ops st ds bs ss (pl.take i) i o).bx b=some bb→live st pl L b=some (bb.ty,bb.xs,bb.ro)∧(b∈boxIds pl→∃j ty xs,pl[j]? = some (.box b ty xs)∧depOn o j=true)∧(∀(j:Nat) o' ys zs,pl[j]? = some (.sto b o' ys zs)→L j=true→j<i)):=by
  have slot:∀t x,get (mSt ops st ds bs ss (pl.take i) i o).sl t=some x→x.has F ρ β w (a.tmps.getD t undef)∧t<n:=fun t x hx=>by
    rcases jnd hx with hx | hx
    · obtain ⟨j,e,h1,h2,h3⟩:=jo4 hx
      rw [Nat.zero_add] at h2;obtain ⟨h4,-⟩:=jgp h1;exact ⟨h.slE j e t x h4 (hdep j h2) h3,(hc.plan.mem j t (hc.plan.dst j e t x h4 h3)).2⟩
    · obtain ⟨h1,h2⟩:=jep (f:=fun d=>!(memN d ds)) hx
      rw [Bool.not_eq_true'] at h2;exact ⟨h.sl0 t x h1 h2,hlt t x h1⟩
  have box:∀b bb,getB (mSt ops st ds bs ss (pl.take i) i o).bx b=some bb→live st pl L b=some (bb.ty,bb.xs,bb.ro)∧(b∈boxIds pl→∃j ty xs,pl[j]? = some (.box b ty xs)∧depOn o j=true)∧(∀(j:Nat) o' ys zs,pl[j]? = some (.sto b o' ys zs)→L j=true→j<i):=fun b bb hb=>by
    obtain ⟨y,hy,rfl⟩:=jgq (f:=fun d xs=>cont (pl.take i) 0 (depOn o) d xs) hb;have ht:∀xs,cont (pl.take i) 0 (depOn o) b xs=cont pl 0 (depOn o) b xs:=fun xs=>jlp (Nat.zero_add i) fun j hj=>hc.back i o ho j hj
    rcases jgo hy with hb | hb
    · obtain ⟨j,ty,xs,h1,h2,h3,rfl⟩:=jj8 hb
      rw [Nat.zero_add] at h2;obtain ⟨h4,-⟩:=jgp h1;have hco:=jts hc hcl ho hL hdep h3;refine ⟨?_,fun _=>⟨j,ty,xs,h4,h2⟩,fun j o' ys zs hj hLj=>hc.back i o ho j (by rw [←hco j o' ys zs hj];exact hLj)⟩;unfold live;rw [jj6 hc.plan h4];simp only [hdep j h2,if_true];rw [ht,jeh (M:=depOn o) fun j o' ys zs hj=>by rw [Nat.zero_add];exact hco j o' ys zs hj]
    · obtain ⟨h1,h2⟩:=jcw (f:=fun d=>!(memN d bs) && calm ops ss i o d) hb
      simp only [Bool.and_eq_true,Bool.not_eq_true'] at h2;have hnb:b∉boxIds pl:=fun hm=>by rw [hc.sub b hm] at h2;cases h2.1
      have hco:=jts hc hcl ho hL hdep h2.2;refine ⟨?_,fun hm=>absurd hm hnb,fun j o' ys zs hj hLj=>hc.back i o ho j (by rw [←hco j o' ys zs hj];exact hLj)⟩;unfold live;rw [jit hnb,h1];simp only;rw [ht,jeh (M:=depOn o) fun j o' ys zs hj=>by rw [Nat.zero_add];exact hco j o' ys zs hj]
  refine ⟨fun t x hx=>(slot t x hx).1,⟨fun b bb hb=>?_,fun b c bb cc hb hc' hne=>h.ne b c (by rw [(box b bb hb).1];rfl) (by rw [(box c cc hc').1];rfl) hne⟩,?_,fun d hd=>?_,box⟩
  · obtain ⟨cs,k1,k2,k3,-⟩:=h.bx b _ _ _ (box b bb hb).1
    exact ⟨cs,k1,k2,k3⟩
  · refine jac (jo5 fun j e hj hd=>?_) h.fs
    rw [Nat.zero_add] at hd;exact h.ps j e (jgp hj).1 (hdep j hd)
  · cases hg:get (mSt ops st ds bs ss (pl.take i) i o).sl d with
    | none=>rw [hg] at hd;cases hd
    | some x=>rw [h.sz];exact (slot d x hg).2
end
end V
namespace V
section
variable {F:Nat→List Int→Int} {ρ:Nat→Int} {β:Nat→Nat} {P:Program} {w w' w0:World} {n:Nat} {st:St} {a:Act} {ops:Array Oper} {ds bs:List Nat} {ss:List (Nat×Nat)} {pl:List Eff} {L:Nat→Bool}
theorem jv9 {tab:List (Ctr P F)} {nb:Nat} {m:St} {o:Oper} {b off:Nat} {ys zs:List X} (h:effX tab nb m o=some (.sto b off ys zs)):∃bb,getB m.bx b=some bb:=by
  unfold effX at h
  split at h
  · cases h
  · cases h
  · split at h
    · split at h
      · split at h
        · split at h <;> cases h
        · cases h
      · cases h
    · split at h
      · split at h
        · split at h <;> cases h
        · cases h
      · cases h
    · split at h
      · split at h
        · rename_i bb _ e5 _
          split at h
          · split at h
            · cases h;exact ⟨_,e5⟩
            · cases h
          · cases h
        · cases h
      · cases h
    · split at h <;> cases h
    · cases h
theorem j0h {tab:List (Ctr P F)} (hc:Chk tab n st ops ds bs ss pl) {i j d o':Nat} {ty:TypeId} {xs ys zs:List X} (hi:pl[i]? = some (.box d ty xs)) (hj:pl[j]? = some (.sto d o' ys zs)) {o:Oper} (ho:ops[j]? = some o):depOn o i=true:=by
  obtain ⟨e,he,hst⟩:=hc.stage j o ho;rw [hj] at he
  cases he
  rcases hst with ⟨-,h⟩ | ⟨-,h⟩
  · obtain ⟨bb,hb⟩:=jv9 h
    obtain ⟨y,hy,-⟩:=jgq (f:=fun d xs=>cont (pl.take j) 0 (depOn o) d xs) hb
    rcases jgo hy with hb | hb
    · obtain ⟨k,ty',xs',h1,h2,-⟩:=jj8 hb
      rw [Nat.zero_add] at h2;obtain ⟨h4,-⟩:=jgp h1;have:=hc.plan.uniq k i d (hc.plan.dst k _ d _ h4 rfl) (hc.plan.dst i _ d _ hi rfl);subst this;exact h2
    · obtain ⟨-,h2⟩:=jcw (f:=fun d=>!(memN d bs) && calm ops ss j o d) hb
      simp only [Bool.and_eq_true,Bool.not_eq_true'] at h2;rw [hc.sub d (jeq hi)] at h2
      cases h2.1
  · split at h <;> cases h
theorem jya {tab:List (Ctr P F)} (hc:Chk tab n st ops ds bs ss pl) (hcl:Clo ops L) {i d:Nat} {ty:TypeId} {xs:List X} (hi:pl[i]? = some (.box d ty xs)) (hL:L i=false) {j o':Nat} {ys zs:List X} (hj:pl[j]? = some (.sto d o' ys zs)):L j=false:=by
  cases hLj:L j with
  | false=>rfl
  | true=>
    have hlt:j<ops.size:=by
      rw [←hc.plan.len];exact (List.getElem?_eq_some_iff.1 hj).1
    have:=hcl j _ (Array.getElem?_eq_getElem hlt) hLj i (j0h hc hi hj (Array.getElem?_eq_getElem hlt));rw [hL] at this
    cases this
theorem jtt {tab:List (Ctr P F)} (hc:Chk tab n st ops ds bs ss pl) (h:DInv F ρ β w0 n st ds pl L a w) (hlt:∀d x,get st.sl d=some x→d<n) (hcl:Clo ops L) {i:Nat} {o:Oper} (ho:ops[i]? = some o) (hL:L i=false) (hdep:∀j,depOn o j=true→L j=true)
    {K:Act→World→Prop} {Q:Exit→Act→World→Prop} (hk:∀β' a' w',DInv F ρ β' w0 n st ds pl (addL L i) a' w'→K a' w'):wpOp P ops Q i K a w:=by
  obtain ⟨hs,hb,hf,hn,hbox⟩:=j3o hc h hlt hcl ho hL hdep;obtain ⟨e,he,hst⟩:=hc.stage i o ho;unfold Stage at hst
  generalize mSt ops st ds bs ss (pl.take i) i o=m at *
  generalize st.fs.length=nb at hst
  unfold wpOp;simp only [ho]
  rcases hst with ⟨h1,h2⟩ | ⟨h1,h2⟩
  · rw [if_pos (jll hs hf hn h1)]
    refine .inl ?_;unfold effX at h2
    split at h2
    · rename_i x d e1 e2
      cases h2
      obtain ⟨v,g1,g2⟩:=jov hs hb hf e1;unfold Oper.wp;rw [g1,Oper.upon_value,e2];exact hk _ _ _ (h.val hc.plan he rfl rfl rfl (Below.refl _ _) g2 (jj7 (jis hf)))
    · cases h2
    · rename_i dst e1 e2
      split at h2
      · rename_i T d hop hdst
        split at h2
        · rename_i v e3
          split at h2
          · rename_i xs e4
            split at h2
            · rename_i hcc
              simp only [Bool.and_eq_true,Bool.not_eq_true'] at hcc
              cases h2
              obtain ⟨z,g1,g2⟩:=jj2 (F:=F) (ρ:=ρ) (β:=β) (w:=w) e3;obtain ⟨cs,g3,g4⟩:=jch g2 e4;unfold Oper.wp execOp;simp only [hop,Instr.alloc,Sem.run_bind,g1,Result.andThen_ok,newVar,newRow,run_newObj_alloc,Sem.run_pure,Oper.upon_value,hdst,g3];refine hk _ _ _ (h.box hc.plan he hL g4 hcc fun j o' ys zs hj=>jya hc hcl he hL hj)
            · cases h2
          · cases h2
        · cases h2
      · rename_i T x d hop hdst
        split at h2
        · rename_i v e3
          split at h2
          · rename_i xs e4
            split at h2
            · rename_i hcc
              simp only [Bool.and_eq_true,Bool.not_eq_true'] at hcc
              cases h2
              obtain ⟨cs,g3,g4⟩:=jch (jay hs e3) e4;unfold Oper.wp execOp;simp only [hop,Instr.box,Sem.run_bind,Result.andThen_ok,newVar,newRow,run_newObj_alloc,Sem.run_pure,Oper.upon_value,hdst,g3];refine hk _ _ _ (h.box hc.plan he hL g4 hcc fun j o' ys zs hj=>jya hc hcl he hL hj)
            · cases h2
          · cases h2
        · cases h2
      · rename_i T x y hop hdst
        split at h2
        · rename_i b off v e3 e4
          split at h2
          · rename_i bb ys e5 e6
            split at h2
            · rename_i zs k e7 e8
              split at h2
              · rename_i hcc
                simp only [Bool.and_eq_true,Bool.not_eq_true'] at hcc
                cases h2
                obtain ⟨cs,g3,g4⟩:=jch (jay hs e4) e6;have hlv:=(hbox b bb e5).1;rw [hcc.1.1] at hlv;obtain ⟨k1,k2⟩:=h.sto hc.plan he hlv (hbox b bb e5).2.2 g4 e7 hcc.2;have hp:a.eval x=.pointer (some ⟨β b,off,none⟩):=List.head_eq_of_cons_eq (jay hs e3);have hl:=hasL.len g4;have hm:widths ys=k:=Nat.eq_of_beq_eq_true hcc.1.2
                have hrun:(Instr.storeAt T (.pointer (some ⟨β b,off,none⟩)) (a.eval y)).run P w=.ok () (w.setCells (β b) off cs):=by
                  have h3:=run_storeCells_cells (P:=P) (β b) off cs 0 w (fun j hj=>by simpa using (k2 j hj).1) (fun j hj=>by simpa using (k2 j hj).2) (jtk g4);simp only [Nat.add_zero] at h3;simp only [Instr.storeAt,Instr.sureAddr,Sem.run_bind,Sem.run_pure,Result.andThen_ok,storeVar,jcp e8,g3];rw [if_neg (by simp;omega)];exact h3
                unfold Oper.wp execOp;simp only [hop,Sem.run_bind,hp,hrun,Result.andThen_ok,Sem.run_pure,Oper.upon_skip,hdst];exact hk _ _ _ k1
              · cases h2
            · cases h2
          · cases h2
        · cases h2
      · rename_i d hdst _ _
        split at h2
        · rename_i x post e3
          cases h2
          refine jtg hs hb hf e3 (fun hp u w' hbl hu=>?_);rw [hdst];exact hk _ _ _ (h.val hc.plan he rfl rfl rfl hbl hu hp)
        · cases h2
      · cases h2
  · rw [jot hs hf hn h1]
    simp only [Bool.false_eq_true,if_false]
    cases hd:o.dst with
    | some d=>
      rw [hd] at h2;subst h2;exact hk _ _ _ (h.val hc.plan he rfl rfl rfl (Below.refl _ _) rfl trivial)
    | none=>
      rw [hd] at h2;subst h2;refine hk β _ _ ⟨h.sl0,fun j e' t y hj hl hs'=>?_,fun b ty xs ro hl=>?_,fun b c hb' hc' hne=>?_,h.fs,fun j e' hj hl=>?_,h.low,h.df,h.sz⟩
      · rcases jbt hl with rfl | hl
        · rw [he] at hj;cases hj;cases hs'
        · exact h.slE j e' t y hj hl hs'
      · rw [jgn he rfl rfl] at hl;exact h.bx b ty xs ro hl
      · rw [jgn he rfl rfl] at hb' hc';exact h.ne b c hb' hc' hne
      · rcases jbt hl with rfl | hl
        · rw [he] at hj;cases hj;trivial
        · exact h.ps j e' hj hl
theorem lenset:∀(l:List Bool) (i:Nat),l[i]? = some false→((l.set i true).filter (! ·)).length+1=(l.filter (! ·)).length:=by
  intro l
  induction l with
  | nil=>intro i h;simp at h
  | cons b l ih=>
    intro i h
    match i with
    | 0=>
      simp at h;subst h;simp
    | n+1=>
      have:=ih n (by simpa using h)
      cases b <;> simp [List.set] <;> omega
theorem unlisted {listed:Array Bool} {i:Nat} (hun:listed.getD i true=false):listed.toList[i]? = some false:=by
  rw [Array.getElem?_toList];simp only [Array.getD_eq_getD_getElem?] at hun
  cases hx:listed[i]? with
  | none=>rw [hx] at hun;cases hun
  | some b=>rw [hx] at hun;simp at hun;rw [hun]
theorem jwa (hb:∀(i:Nat) o,ops[i]? = some o→∀j,depOn o j=true→j<i) {listed:Array Bool} (hsz:listed.size=ops.size) (hr:Region.ready .any ops listed=[]):∀(i:Nat),i<ops.size→listed.getD i false=true:=by
  intro i
  induction i using Nat.strongRecOn with
  | _ i ih=>
    intro hi
    cases hl:listed.getD i false with
    | true=>rfl
    | false=>
      have ho:ops[i]? = some ops[i]:=Array.getElem?_eq_getElem hi
      have:i∈Region.ready .any ops listed:=by
        refine mem_ready.2 ⟨?_,_,ho,fun e he hbd=>?_⟩
        · have hlt:i<listed.size:=by omega
          simp [hlt] at hl ⊢;exact hl
        · have hd:depOn ops[i] e.on=true:=Array.any_eq_true'.2 ⟨e,he,by simp [hbd]⟩
          exact ih e.on (hb i _ ho e.on hd) (by have:=hb i _ ho e.on hd;omega)
      rw [hr] at this
      cases this
theorem jwb {tab:List (Ctr P F)} (hc:Chk tab n st ops ds bs ss pl) (hlt:∀d x,get st.sl d=some x→d<n) {Q:Exit→Act→World→Prop}
    (hq:∀β' a' w' L,(∀i,i<ops.size→L i=true)→DInv F ρ β' w0 n st ds pl L a' w'→Q .normal a' w') :
    ∀(fuel:Nat) (listed:Array Bool) {β:Nat→Nat} {a:Act} {w:World},(listed.toList.filter (! ·)).length≤fuel→listed.size=ops.size→Clo ops (fun j=>listed.getD j false)→DInv F ρ β w0 n st ds pl (fun j=>listed.getD j false) a w→wpAny P .any ops Q fuel listed a w:=by
  have done:∀(listed:Array Bool) {β:Nat→Nat} {a:Act} {w:World},listed.size=ops.size→DInv F ρ β w0 n st ds pl (fun j=>listed.getD j false) a w→Region.ready .any ops listed=[]→Q .normal a w:=fun listed _ _ _ hsz h hr=>
    hq _ _ _ _ (jwa hc.back hsz hr) h
  intro fuel
  induction fuel with
  | zero=>
    intro listed β a w hfu hsz hcl h
    have hno:Region.ready .any ops listed=[]:=by
      cases hr:Region.ready .any ops listed with
      | nil=>rfl
      | cons i rs=>
        have hi:i∈Region.ready .any ops listed:=by rw [hr];exact List.mem_cons_self
        have:=lenset _ _ (unlisted (mem_ready.1 hi).1)
        omega
    exact ⟨hno,done listed hsz h hno⟩
  | succ fuel ih=>
    intro listed β a w hfu hsz hcl h;refine ⟨done listed hsz h,fun i hi=>?_⟩;obtain ⟨hun,o,ho,hall⟩:=mem_ready.1 hi;have hi':i<ops.size:=(Array.getElem?_eq_some_iff.1 ho).1;have hLi:listed.getD i false=false:=F2.notlisted hun
    have hdep:∀j,depOn o j=true→listed.getD j false=true:=fun j hj=>by
      obtain ⟨e,he,hb⟩:=Array.any_eq_true'.1 hj;simp only [Bool.and_eq_true,beq_iff_eq] at hb;have:=hall e he hb.1;rw [hb.2] at this;exact this
    have hset:(fun j=>(listed.setIfInBounds i true).getD j false)=addL (fun j=>listed.getD j false) i:=by
      funext j
      by_cases hj:j=i
      · subst hj
        rw [jht];simp [hsz,hi']
      · rw [je6 hj]
        exact getD_set_ne false (Ne.symm hj)
    refine jtt hc h hlt hcl ho hLi hdep fun β' a' w' h'=>?_
    refine ih (β:=β') _ ?_ (by simpa using hsz) ?_ ?_
    · have:=lenset _ _ (unlisted hun)
      rw [Array.toList_setIfInBounds]
      omega
    · rw [hset]
      intro j o' ho' hj k hk
      rcases jbt hj with rfl | hj
      · rw [ho] at ho'
        cases ho'
        exact jna (hdep k hk)
      · exact jna (hcl j o' ho' hj k hk)
    · rw [hset];exact h'
end
end V
namespace V
section
variable {F:Nat→List Int→Int} {ρ:Nat→Int} {β:Nat→Nat} {P:Program} {w w' w0:World} {n:Nat} {st:St} {a:Act} {ops:Array Oper} {ds bs:List Nat} {ss:List (Nat×Nat)} {pl:List Eff} {L:Nat→Bool}
theorem jo7:∀{pl:List Eff} {k b:Nat} {xs:List X},cont pl k L b xs=xs∨∃(j o:Nat) (ys zs:List X),pl[j]? = some (.sto b o ys zs)∧cont pl k L b xs=zs
  | [],_,_,_=>.inl rfl
  | e::r,k,b,xs=>by
    have rest:∀xs,cont r (k+1) L b xs=xs∨∃(j o:Nat) (ys zs:List X),(e::r)[j]? = some (.sto b o ys zs)∧cont r (k+1) L b xs=zs:=fun xs=>by
      rcases jo7 (pl:=r) (k:=k+1) (b:=b) (xs:=xs) with h | ⟨j,o,ys,zs,h1,h2⟩
      · exact .inl h
      · exact .inr ⟨j+1,o,ys,zs,by simpa using h1,h2⟩
    cases e with
    | sto b' o ys zs=>
      simp only [cont]
      split
      · rename_i hc
        rw [Bool.and_eq_true] at hc;have:=Nat.eq_of_beq_eq_true hc.1;subst this
        rcases rest zs with h | h
        · exact .inr ⟨0,o,ys,zs,by simp,h⟩
        · exact .inr h
      · exact rest xs
    | _=>exact rest xs
theorem jwc {pl:List Eff} {k b:Nat} {xs:List X} (h:∀j,j<pl.length→L (k+j)=true):cont pl k L b xs=cont pl k yesL b xs:=
  jeh fun j o ys zs hj=>by rw [h j (List.getElem?_eq_some_iff.1 hj).1];rfl
theorem jo8 {t:Nat} {x:A}:∀{pl:List Eff},get (allSl pl) t=some x→∃(j:Nat) (e:Eff),pl[j]? = some e∧e.slot=some (t,x)
  | [],h=>by cases h
  | e::r,h=>by
    have rest:get (allSl r) t=some x→∃(j:Nat) (e':Eff),(e::r)[j]? = some e'∧e'.slot=some (t,x):=fun h=>by
      obtain ⟨j,e',h1,h2⟩:=jo8 h;exact ⟨j+1,e',by simpa using h1,h2⟩
    simp only [allSl] at h
    split at h
    · rename_i p hp
      obtain ⟨i,y⟩:=p;simp only [get] at h
      split at h
      · rename_i e2
        cases h
        rw [Nat.eq_of_beq_eq_true e2] at hp;exact ⟨0,e,by simp,hp⟩
      · exact rest h
    · exact rest h
theorem jo9:∀{pl:List Eff},(∀(j:Nat) e,pl[j]? = some e→allT F ρ e.post)→allT F ρ (allPs pl)
  | [],_=>trivial
  | e::r,h=>jac (h 0 e (by simp)) (jo9 fun j e' hj=>h (j+1) e' (by simpa using hj))
theorem jpa {p0:List Eff} {b:Nat} {bb:Bx}:∀{pl:List Eff},getB (allBx p0 pl) b=some bb→∃(j:Nat) (ty:TypeId) (xs:List X),pl[j]? = some (Eff.box b ty xs)∧bb=⟨b,ty,cont p0 0 yesL b xs,false⟩
  | [],h=>by cases h
  | e::r,h=>by
    have rest:getB (allBx p0 r) b=some bb→∃(j:Nat) (ty:TypeId) (xs:List X),(e::r)[j]? = some (Eff.box b ty xs)∧bb=⟨b,ty,cont p0 0 yesL b xs,false⟩:=fun h=>by
      obtain ⟨j,ty,xs,h1,h2⟩:=jpa h;exact ⟨j+1,ty,xs,by simpa using h1,h2⟩
    cases e with
    | box d ty xs=>
      simp only [allBx,getB] at h
      split at h
      · rename_i e2
        cases h
        have e3:d=b:=Nat.eq_of_beq_eq_true e2;subst e3;exact ⟨0,ty,xs,by simp,rfl⟩
      · exact rest h
    | _=>exact rest h
theorem jtu {d:Nat} (h:fresh1 st ds pl d=true) {t:Nat} {x:A} (hx:get st.sl t=some x) (hm:memN t ds=false):x.mp d=false:=by
  unfold fresh1 at h;simp only [Bool.and_eq_true] at h
  have hf:get (st.sl.filter (fun p=>!(memN p.1 ds))) t=some x:=by
    revert hx
    generalize st.sl=l
    intro hx
    induction l with
    | nil=>cases hx
    | cons p l ih=>
      obtain ⟨i,y⟩:=p;simp only [get] at hx;rw [List.filter_cons]
      split at hx
      · rename_i e
        cases hx
        have e2:=Nat.eq_of_beq_eq_true e;subst e2;rw [if_pos (by simp [hm])];simp only [get];rw [if_pos e]
      · rename_i e
        split
        · simp only [get]
          rw [if_neg e];exact ih hx
        · exact ih hx
  have mem:∀{l:List (Nat×A)},get l t=some x→(t,x)∈l:=by
    intro l
    induction l with
    | nil=>intro h;cases h
    | cons p l ih=>
      intro h;obtain ⟨i,y⟩:=p;simp only [get] at h
      split at h
      · rename_i e
        cases h
        rw [Nat.eq_of_beq_eq_true e];exact List.mem_cons_self
      · exact List.mem_cons_of_mem _ (ih h)
  have:=List.all_eq_true.1 h.1.1 _ (mem hf)
  simpa using this
theorem jtv {d:Nat} (h:fresh1 st ds pl d=true) {b:Nat} {bb:Bx} (hb:getB st.bx b=some bb):bb.xs.any (X.mp d)=false:=by
  unfold fresh1 at h;simp only [Bool.and_eq_true] at h
  have mem:∀{l:List Bx},getB l b=some bb→bb∈l:=by
    intro l
    induction l with
    | nil=>intro h;cases h
    | cons p l ih=>
      intro h;simp only [getB] at h
      split at h
      · cases h;exact List.mem_cons_self
      · exact List.mem_cons_of_mem _ (ih h)
  have:=List.all_eq_true.1 h.1.2 _ (mem hb)
  simpa using this
def fr1 (d:Nat):Eff→Bool
  | .val _ x _=>!(x.mp d)
  | .box _ _ xs=>!(xs.any (X.mp d))
  | .sto _ _ _ zs=>!(zs.any (X.mp d))
  | _=>true
theorem jhu {d:Nat} (h:fresh1 st ds pl d=true) {j:Nat} {e:Eff} (he:pl[j]? = some e):fr1 d e=true:=by
  unfold fresh1 at h;simp only [Bool.and_eq_true] at h;have:=List.all_eq_true.1 h.2 e (List.mem_of_getElem? he)
  cases e <;> exact this
theorem j3p {tab:List (Ctr P F)} (hp:planX tab ops st (dstsOf ops.toList) bs ss ops.toList []=.ok pl) (h1:nodupN (dstsOf ops.toList)=true) (h2:(dstsOf ops.toList).all (fun d=>Nat.blt d n)=true)
    (h4:(boxIds pl).all (fresh1 st (dstsOf ops.toList) pl)=true) (h5:backB ops=true) (h6:stosB ss pl 0=true) (h7:(boxIds pl).all (fun d=>memN d bs)=true):Chk tab n st ops (dstsOf ops.toList) bs ss pl:=by
  obtain ⟨g1,-,g3⟩:=jo3 _ _ _ hp
  have stage:∀(i:Nat) o,ops[i]? = some o→∃e,pl[i]? = some e∧Stage tab ops st (dstsOf ops.toList) bs ss pl i o e:=fun i o ho=>by
    have:=g3 i o (by rw [Array.getElem?_toList];exact ho);rw [List.length_nil,Nat.zero_add] at this;exact this
  have hlen:pl.length=ops.size:=by simpa using g1
  have hdst:∀(i:Nat) e t x,pl[i]? = some e→e.slot=some (t,x)→(ops[i]?).bind (·.dst)=some t:=fun i e t x he hs=>by
    have hi:i<ops.size:=by rw [←hlen];exact (List.getElem?_eq_some_iff.1 he).1
    have ho:=Array.getElem?_eq_getElem hi;obtain ⟨e',he',hst⟩:=stage i _ ho;rw [he] at he'
    cases he'
    rw [ho,Option.bind_some]
    rcases hst with ⟨-,h⟩ | ⟨-,h⟩
    · exact jv8 h hs
    · split at h
      · rename_i d hd
        subst h
        cases hs
        exact hd
      · subst h;cases hs
  have hl:∀i:Nat,(ops[i]?).bind Oper.dst=(ops.toList[i]?).bind Oper.dst:=fun i=>by rw [Array.getElem?_toList]
  have hfr:∀(i d:Nat) ty xs,pl[i]? = some (.box d ty xs)→fresh1 st (dstsOf ops.toList) pl d=true:=fun i d ty xs hi=>List.all_eq_true.1 h4 d (jeq hi)
  have huniq:∀(i j:Nat) t,(ops[i]?).bind (·.dst)=some t→(ops[j]?).bind (·.dst)=some t→i=j:=fun i j t hi hj=>jlq h1 ((hl i).symm.trans hi) ((hl j).symm.trans hj)
  have hsto:∀(j b o:Nat) ys zs,pl[j]? = some (.sto b o ys zs)→(j,b)∈ss:=fun j b o ys zs hj=>by
    have:=jo6 h6 hj
    rwa [Nat.zero_add] at this
  refine ⟨⟨hlen,hdst,fun i t hi=>?_,huniq,fun i d ty xs hi t x hx hm=>jtu (hfr i d ty xs hi) hx hm,fun i d ty xs hi j e t x hj hne hs=>?_,fun i d ty xs hi L' b ty' xs' ro hlv=>?_⟩,stage,fun d hd=>List.all_eq_true.1 h7 d hd,hsto,fun i o ho j hj=>?_⟩
  · rw [hl] at hi
    have hm:t∈dstsOf ops.toList:=by
      cases hr:ops.toList[i]? with
      | none=>rw [hr] at hi;cases hi
      | some o'=>rw [hr] at hi;exact List.mem_filterMap.2 ⟨o',List.mem_of_getElem? hr,hi⟩
    exact ⟨jnb.2 hm,by simpa using List.all_eq_true.1 h2 t hm⟩
  · have hf:=jhu (hfr i d ty xs hi) hj
    cases e with
    | val d' x' p=>cases hs;simpa [fr1] using hf
    | box d' ty' xs'=>
      cases hs
      have hdd:¬ (t=d):=fun h=>by
        subst h;exact hne (huniq j i t (hdst j _ t _ hj rfl) (hdst i _ t _ hi rfl))
      show Nat.beq t d=false
      cases hb:Nat.beq t d with
      | false=>rfl
      | true=>exact absurd (Nat.eq_of_beq_eq_true hb) hdd
    | und d'=>cases hs;rfl
    | sto _ _ _ _=>cases hs
    | nop=>cases hs
  · have hf:=hfr i d ty xs hi
    have hc:∀ys:List X,ys.any (X.mp d)=false→(cont pl 0 L' b ys).any (X.mp d)=false:=fun ys hy=>by
      rcases jo7 (L:=L') (pl:=pl) (k:=0) (b:=b) (xs:=ys) with h | ⟨j,o,y,z,g1,g2⟩
      · rw [h];exact hy
      · rw [g2]
        have:=jhu hf g1
        simpa [fr1] using this
    unfold live at hlv
    split at hlv
    · rename_i j ty2 xs2 en
      obtain ⟨-,hj⟩:=jdw en;rw [Nat.sub_zero] at hj
      split at hlv
      · cases hlv
        exact hc _ (by have:=jhu hf hj;simpa [fr1] using this)
      · cases hlv
    · split at hlv
      · rename_i bb hbb
        cases hlv
        exact hc _ (jtv hf hbb)
      · cases hlv
  · have hi:i<ops.size:=(Array.getElem?_eq_some_iff.1 ho).1
    have:=List.all_eq_true.1 h5 i (List.mem_range.2 hi);rw [ho] at this;simp only at this;obtain ⟨e,he,hb⟩:=Array.any_eq_true'.1 hj;simp only [Bool.and_eq_true,beq_iff_eq] at hb;have h8:=Array.all_eq_true'.1 this e he;rw [hb.1] at h8;simp at h8
    omega
theorem jtw (hs:SH F ρ β w0 n st a w):DInv F ρ β w0 n st ds pl (fun _=>false) a w.drew:=by
  have hd:Below w.heap.size w w.drew:=(Below.refl _ _).drew
  have hlive:∀b ty xs ro,live st pl (fun _=>false) b=some (ty,xs,ro)→∃bb,getB st.bx b=some bb∧ty=bb.ty∧xs=bb.xs∧ro=bb.ro:=fun b ty xs ro h=>by
    unfold live at h
    split at h
    · simp at h
    · split at h
      · rename_i bb hbb
        cases h
        exact ⟨bb,hbb,rfl,jeg fun _ _ _ _ _=>rfl,rfl⟩
      · cases h
  refine ⟨fun t x hx _=>A.ext (hs.sl t x hx) (jau hd),fun i e t x _ h=>(by cases h),fun b ty xs ro h=>?_,fun b c hb hc hne=>?_,hs.fs,fun i e _ h=>(by cases h),hs.low.trans (hd.mono hs.low.size),hs.df,hs.sz⟩
  · obtain ⟨bb,h1,rfl,rfl,rfl⟩:=hlive b ty xs ro h
    obtain ⟨cs,k1,k2,k3⟩:=hs.bx.at_ b bb h1;exact ⟨cs,k1.drew,k2,k3.ext (jau hd),hs.base b bb h1⟩
  · cases h1:live st pl (fun _=>false) b with
    | none=>rw [h1] at hb;cases hb
    | some p=>
      cases h2:live st pl (fun _=>false) c with
      | none=>rw [h2] at hc;cases hc
      | some q=>
        obtain ⟨ty,xs,ro⟩:=p;obtain ⟨ty',xs',ro'⟩:=q;obtain ⟨bb,g1,-⟩:=hlive b _ _ _ h1;obtain ⟨cc,g2,-⟩:=hlive c _ _ _ h2;exact hs.bx.ne b c bb cc g1 g2 hne
theorem j0i {tab:List (Ctr P F)} (hc:Chk tab n st ops ds bs ss pl) (hlt:∀d x,get st.sl d=some x→d<n) (hL:∀i,i<ops.size→L i=true) (h:DInv F ρ β w0 n st ds pl L a w):SH F ρ β w0 n (endSt st ds pl) a w:=by
  have hlen:=hc.plan.len;have hLp:∀(j:Nat) e,pl[j]? = some e→L j=true:=fun j e hj=>hL j (by rw [←hlen];exact (List.getElem?_eq_some_iff.1 hj).1)
  have slot:∀t x,get (endSt st ds pl).sl t=some x→x.has F ρ β w (a.tmps.getD t undef)∧t<n:=fun t x hx=>by
    rcases jnd hx with hx | hx
    · obtain ⟨j,e,h1,h2⟩:=jo8 hx
      exact ⟨h.slE j e t x h1 (hLp j e h1) h2,(hc.plan.mem j t (hc.plan.dst j e t x h1 h2)).2⟩
    · obtain ⟨h1,h2⟩:=jep (f:=fun d=>!(memN d ds)) hx
      rw [Bool.not_eq_true'] at h2;exact ⟨h.sl0 t x h1 h2,hlt t x h1⟩
  have hcy:∀b xs,cont pl 0 L b xs=cont pl 0 yesL b xs:=fun b xs=>jwc fun j hj=>by rw [Nat.zero_add];exact hL j (by omega)
  have box:∀b bb,getB (endSt st ds pl).bx b=some bb→live st pl L b=some (bb.ty,bb.xs,bb.ro):=fun b bb hb=>by
    rcases jgo hb with hb | hb
    · obtain ⟨j,ty,xs,h1,rfl⟩:=jpa hb
      unfold live;rw [jj6 hc.plan h1];simp only [hLp j _ h1,if_true,hcy]
    · obtain ⟨y,hy,rfl⟩:=jgq (f:=fun i xs=>cont pl 0 yesL i xs) hb
      obtain ⟨h1,h2⟩:=jcw (f:=fun d=>!(memN d (boxIds pl))) hy;rw [Bool.not_eq_true'] at h2;unfold live;rw [jit (jnc h2),h1];simp only [hcy]
  refine ⟨fun t x hx=>(slot t x hx).1,⟨fun b bb hb=>?_,fun b c bb cc hb hc' hne=>h.ne b c (by rw [box b bb hb];rfl) (by rw [box c cc hc'];rfl) hne⟩,fun b bb hb hro=>?_,jac (jj7 (jo9 fun j e hj=>h.ps j e hj (hLp j e hj))) h.fs,h.low,h.df,h.sz,fun d x hx=>(slot d x hx).2⟩
  · obtain ⟨cs,k1,k2,k3,-⟩:=h.bx b _ _ _ (box b bb hb)
    exact ⟨cs,k1,k2,k3⟩
  · obtain ⟨cs,-,-,-,k4⟩:=h.bx b _ _ _ (box b bb hb)
    exact k4 hro
theorem jfn (hm:P.follows .mixedOrders=true) (tab:List (Ctr P F)) (n:Nat) (w0:World):DrawOK P F w0 n (drawX tab n):=by
  intro id ops st st' ρ β a w Q hs h hq;unfold drawX at h
  split at h
  · rename_i ss hss
    split at h
    · rename_i pl hpl
      split at h
      · rename_i hc
        simp only [Bool.and_eq_true] at hc
        cases h
        have hchk:=j3p (n:=n) hpl hc.1.1.1.1.1 hc.1.1.1.1.2 hc.1.1.1.2 hc.1.1.2 hc.1.2 hc.2;refine wp_region_any hm ?_
        have hz:(fun j=>(Array.replicate ops.size false).getD j false)=(fun _=>false):=by
          funext j
          simp only [Array.getD_eq_getD_getElem?,Array.getElem?_replicate]
          split <;> rfl
        refine jwb (β:=β) hchk hs.lt (fun β' a' w' L hL hI=>hq β' a' w' (j0i hchk hs.lt hL hI)) ops.size _ (by simp) (by simp) ?_ ?_
        · rw [hz];intro i o _ hi;cases hi
        · rw [hz];exact jtw hs
      · cases h
    · cases h
    · cases h
  · cases h
end
end V
namespace V
def mT:T→T→List (Nat×T)
  | .v i,t=>[(i,t)]
  | .add a b,.add a' b'=>mT a a' ++ mT b b'
  | .sub a b,.sub a' b'=>mT a a' ++ mT b b'
  | .mul a b,.mul a' b'=>mT a a' ++ mT b b'
  | .ap _ l,.ap _ l'=>mT l l'
  | .c a l,.c a' l'=>mT a a' ++ mT l l'
  | _,_=>[]
def mX:X→X→List (Nat×T)
  | .i _ t,.i _ t'=>mT t t'
  | .b t,.b t'=>mT t t'
  | .z _ _ t,.z _ _ t'=>mT t t'
  | _,_=>[]
def mL:List X→List X→List (Nat×T)
  | x::xs,y::ys=>mX x y ++ mL xs ys
  | _,_=>[]
def pX:X→X→List (Nat×Nat)
  | .p q _,.p q' _=>[(q,q')]
  | _,_=>[]
def pL:List X→List X→List (Nat×Nat)
  | x::xs,y::ys=>pX x y ++ pL xs ys
  | _,_=>[]
def mAs:List A→List A→List (Nat×T)
  | .one (.sc x)::xs,.one (.sc y)::ys=>mX x y ++ mAs xs ys
  | .one (.ag x)::xs,.one (.ag y)::ys=>mL x y ++ mAs xs ys
  | .one (.fn _ x)::xs,.one (.fn _ y)::ys=>mL x y ++ mAs xs ys
  | _::xs,_::ys=>mAs xs ys
  | _,_=>[]
def pAs:List A→List A→List (Nat×Nat)
  | .one (.sc x)::xs,.one (.sc y)::ys=>pX x y ++ pAs xs ys
  | .one (.ag x)::xs,.one (.ag y)::ys=>pL x y ++ pAs xs ys
  | .one (.fn _ x)::xs,.one (.fn _ y)::ys=>pL x y ++ pAs xs ys
  | _::xs,_::ys=>pAs xs ys
  | _,_=>[]
def lookT:List (Nat×T)→Nat→T
  | [],_=>.n 0
  | (i,t)::l,j=>if Nat.beq i j then t else lookT l j
def lookN:List (Nat×Nat)→Nat→Nat
  | [],j=>j
  | (i,t)::l,j=>if Nat.beq i j then t else lookN l j
def R0:Rs:=⟨[],[]⟩
theorem jtx (F:Nat→List Int→Int):RsOK F R0:=⟨fun r h=>(by cases h),fun r h=>(by cases h)⟩
def leAs (R:Rs) (fs:List T):List A→List A→Bool
  | [],[]=>true
  | x::xs,y::ys=>leA R fs x y && leAs R fs xs ys
  | _,_=>false
def mBx (bx:List Bx) (μ:List (Nat×Nat)):List (Nat×TypeId×List X)→List (Nat×T)
  | []=>[]
  | b::l=>(match getB bx (lookN μ b.1) with
    | some c=>mL b.2.2 c.xs
    | none=>[]) ++ mBx bx μ l
def boxB (bx:List Bx) (μ:List (Nat×Nat)) (σ:List (Nat×T)) (b:Nat×TypeId×List X):Bool:=match getB bx (lookN μ b.1) with
  | some c=>Nat.beq c.ty b.2.1 && leL R0 [] c.xs (b.2.2.map (X.inst (lookT σ) (lookN μ)))
  | none=>false
def instW (sp:Spec) (bx:List Bx) (ar:List A) (μ:List (Nat×Nat)) (σ:List (Nat×T)):Option (List T×A×List T):=
  if leAs R0 [] ar (sp.ps.map (A.inst (lookT σ) (lookN μ))) && sp.bx.all (boxB bx μ σ) && nodupN (sp.bx.map (fun b=>lookN μ b.1)) then
    some (sp.fs.map (T.inst (lookT σ)),sp.res.inst (lookT σ) (lookN μ),sp.post.map (T.inst (lookT σ))) else none
def Spec.inst (sp:Spec) (bx:List Bx) (ar:List A):Option (List T×A×List T):=
  instW sp bx ar (pAs sp.ps ar) (mAs sp.ps ar ++ mBx bx (pAs sp.ps ar) sp.bx)
section
variable {F:Nat→List Int→Int} {ρ:Nat→Int} {β:Nat→Nat} {P:Program} {w:World}
theorem jty {R:Rs} (hR:RsOK F R) {fs:List T} (hf:allT F ρ fs):∀{xs ys:List A} {vs:List Value},leAs R fs xs ys=true→hasA F ρ β w xs vs→hasA F ρ β w ys vs
  | [],[],_,_,k=>k
  | [],_::_,_,h,_=>by cases h
  | _::_,[],_,h,_=>by cases h
  | x::xs,y::ys,_,h,⟨c,d,h1,h2,h3⟩=>by
    simp only [leAs,Bool.and_eq_true] at h;exact ⟨c,d,h1,jtp hR hf h.1 h2,jty hR hf h.2 h3⟩
theorem jlr {σ:Nat→T} {μ:Nat→Nat}:∀{l:List A} {vs:List Value},hasA F ρ β w (l.map (A.inst σ μ)) vs→hasA F (fun i=>(σ i).den F ρ) (fun i=>β (μ i)) w l vs
  | [],_,h=>h
  | _::_,_,⟨v,r,h1,h2,h3⟩=>⟨v,r,h1,A.has_inst.1 h2,jlr h3⟩
theorem jiu {σ:Nat→T}:∀{l:List T},allT F (fun i=>(σ i).den F ρ) l→allT F ρ (l.map (T.inst σ))
  | [],_=>trivial
  | t::l,h=>⟨by rw [jm7];exact h.1,jiu h.2⟩
theorem jpb {α:Type} {f:α→Nat}:∀{l:List α} {x y:α},nodupN (l.map f)=true→x∈l→y∈l→f x=f y→x=y
  | [],_,_,_,h,_,_=>by cases h
  | q::l,x,y,hn,hx,hy,he=>by
    simp only [List.map_cons,nodupN,Bool.and_eq_true,Bool.not_eq_true'] at hn;have out:∀z,z∈l→f z=f q→False:=fun z hz h=>jnc hn.1 (List.mem_map.2 ⟨z,hz,h⟩)
    rcases List.mem_cons.1 hx with e1 | hx2
    · rcases List.mem_cons.1 hy with e2 | hy2
      · rw [e1,e2]
      · exact (out y hy2 (by rw [←he,e1])).elim
    · rcases List.mem_cons.1 hy with e2 | hy2
      · exact (out x hx2 (by rw [he,e2])).elim
      · exact jpb hn.2 hx2 hy2 he
theorem jf6 {tab:List (Ctr P F)} {R:Rs} {anns:List Ann} {rd:Nat→Array Oper→St→Res} {sp:Spec} (hc:checkF tab R anns rd sp=true):Enters P sp.f:=by
  unfold checkF at hc
  split at hc
  · rename_i fn hfn
    split at hc
    · rename_i c hbody
      simp only [Bool.and_eq_true,Bool.not_eq_true'] at hc;exact enters_of hfn hc.1.1.1.1.1.1 hbody
    · cases hc
  · cases hc
def SpecOK (P:Program) (F:Nat→List Int→Int) (sp:Spec):Prop:=∀{ρ:Nat→Int} {β:Nat→Nat} {w:World} {vs:List Value},hasA F ρ β w sp.ps vs→bxOK F ρ β w sp.st.bx→allT F ρ sp.fs→
  allT F ρ sp.post∧Calls P sp.f vs.toArray w (fun e w'=>Below w.heap.size w w'∧∃u,e=.returned u∧sp.res.has F ρ β w' u)
def Ctr.lem {sp:Spec} (he:Enters P sp.f) (h:SpecOK P F sp):Ctr P F where
  f:=sp.f
  inst:=fun _=>sp.inst
  ent:=he
  ok:=by
    intro ρ β w fs bx ar vs pre res post _ hb ha hi hp;unfold Spec.inst instW at hi
    generalize pAs sp.ps ar=μ at hi
    generalize mAs sp.ps ar ++ mBx bx μ sp.bx=σ at hi
    split at hi
    · rename_i hcc
      simp only [Bool.and_eq_true] at hcc
      cases hi
      have h1:=jlr (jty (jtx F) (fs:=[]) trivial hcc.1.1 ha)
      have find:∀i b,getB sp.st.bx i=some b→∃b0∈sp.bx,b=⟨b0.1,b0.2.1,b0.2.2,true⟩∧b0.1=i:=fun i b hib=>by
        obtain ⟨m1,m2⟩:=jfk hib;obtain ⟨b0,m3,rfl⟩:=List.mem_map.1 m1;exact ⟨b0,m3,rfl,m2⟩
      have at_:∀b0,b0∈sp.bx→∃c,getB bx (lookN μ b0.1)=some c∧c.ty=b0.2.1∧leL R0 [] c.xs (b0.2.2.map (X.inst (lookT σ) (lookN μ)))=true:=fun b0 m=>by
        have:=List.all_eq_true.1 hcc.1.2 b0 m;unfold boxB at this
        split at this
        · rename_i c ec
          rw [Bool.and_eq_true] at this;exact ⟨c,ec,Nat.eq_of_beq_eq_true this.1,this.2⟩
        · cases this
      have h2:bxOK F (fun i=>((lookT σ) i).den F ρ) (fun i=>β (lookN μ i)) w sp.st.bx:=by
        refine ⟨fun i b hib=>?_,fun i j b c hib hjc hne=>?_⟩
        · obtain ⟨b0,m,rfl,rfl⟩:=find i b hib
          obtain ⟨c,g1,g2,g3⟩:=at_ b0 m;obtain ⟨cs,k1,k2,k3⟩:=hb.at_ _ c g1;exact ⟨cs,g2 ▸ k1,k2,jef.1 (jlo (jtx F) (fs:=[]) trivial g3 k3)⟩
        · obtain ⟨b0,m,rfl,rfl⟩:=find i b hib
          obtain ⟨c0,m',rfl,rfl⟩:=find j c hjc;obtain ⟨b1,g1,-⟩:=at_ b0 m;obtain ⟨c1,g1',-⟩:=at_ c0 m';refine hb.ne _ _ b1 c1 g1 g1' fun he=>hne ?_
          rw [jpb (f:=fun b:Nat×TypeId×List X=>lookN μ b.1) hcc.2 m m' he]
      obtain ⟨g1,g3⟩:=h h1 h2 (jhr hp);refine ⟨jiu g1,g3.mono fun e w' ⟨k1,u,k2,k3⟩=>⟨k1,u,k2,A.has_inst.2 k3⟩⟩
    · cases hi
def Ctr.of {tab:List (Ctr P F)} {R:Rs} (hR:RsOK F R) (hm:P.follows .mixedOrders=true) {anns:List Ann} {sp:Spec} (hc:checkF tab R anns (drawX tab) sp=true):Ctr P F:=
  Ctr.lem (sp:=sp) (jf6 hc) fun h1 h2 h3=>(fun r=>⟨r.1,r.2.2⟩) (jv7 hR (fun n w0=>jfn hm tab n w0) hc h1 h2 h3)
def Ctr.ofL {tab:List (Ctr P F)} {R:Rs} (hR:RsOK F R) (hm:P.follows .mixedOrders=true) {anns:List Ann} {sp:Spec} (lem:List T) (hl:∀ρ,allT F ρ sp.fs→allT F ρ lem) (hc:checkF tab R anns (drawX tab) { sp with fs:=lem ++ sp.fs }=true):Ctr P F:=
  Ctr.lem (sp:=sp) (jf6 (sp:={ sp with fs:=lem ++ sp.fs }) hc) fun h1 h2 h3=>(fun r=>⟨r.1,r.2.2⟩) (jv7 hR (fun n w0=>jfn hm tab n w0) hc h1 h2 (jac (hl _ h3) h3))
end
end V
end Go.Proofs.YtllgjggkchgpbaaGreat
