/- A region that draws its order, whose operations only read, call, make room, and fill that room: each operation is looked at once, whatever the order. As Free, and boxes that stood there may be stored into too (each at most once). -/
import Derived.Test.YtllgjggkchgpbaaGreatBa2
import Derived.Test.YtllgjggkchgpbaaGreatZe
import Derived.Deep.RegionHeld3
set_option linter.unusedVariables false
set_option linter.unusedSimpArgs false
namespace Go.Proofs.YtllgjggkchgpbaaGreat
section
section
open Go.RowKit
structure Kept (p:Prop):Prop where
  out:p
def NoU (cs:Array Value):Prop:=∀(i:Nat) (x:Int),cs[i]?≠some (.int .u64 x)
theorem NoU.two {a b:Value} (ha:∀x:Int,a≠.int .u64 x) (hb:∀x:Int,b≠.int .u64 x):NoU #[a,b]:=by
  intro i x h
  match i with
  | 0=>exact ha x (Option.some.inj h)
  | 1=>exact hb x (Option.some.inj h)
  | n+2=>simp at h
theorem NoU.three {a b c:Value} (ha:∀x:Int,a≠.int .u64 x) (hb:∀x:Int,b≠.int .u64 x) (hc:∀x:Int,c≠.int .u64 x):NoU #[a,b,c]:=by
  intro i x h
  match i with
  | 0=>exact ha x (Option.some.inj h)
  | 1=>exact hb x (Option.some.inj h)
  | 2=>exact hc x (Option.some.inj h)
  | n+3=>simp at h
theorem NoU.five {a b c d e:Value} (ha:∀x:Int,a≠.int .u64 x) (hb:∀x:Int,b≠.int .u64 x) (hc:∀x:Int,c≠.int .u64 x) (hd:∀x:Int,d≠.int .u64 x) (he:∀x:Int,e≠.int .u64 x):NoU #[a,b,c,d,e]:=by
  intro i x h
  match i with
  | 0=>exact ha x (Option.some.inj h)
  | 1=>exact hb x (Option.some.inj h)
  | 2=>exact hc x (Option.some.inj h)
  | 3=>exact hd x (Option.some.inj h)
  | 4=>exact he x (Option.some.inj h)
  | n+5=>simp at h
def BoxAt (w:World) (b:Nat):Prop:=∃cs t,Blk w b t cs∧NoU cs
structure Ext (w w':World):Prop where
  size:w.heap.size≤w'.heap.size
  same:∀b,b<w.heap.size→w'.heap[b]? = w.heap[b]?∨BoxAt w b
theorem jau {w w':World} (h:Below w.heap.size w w'):Ext w w':=⟨h.size,fun b hb=>.inl (h.block b hb)⟩
theorem Ext.refl (w:World):Ext w w:=⟨Nat.le_refl _,fun _ _=>.inl rfl⟩
theorem Nums.ext {w w':World} {B:Nat} {v:Value} {l:List Nat} (h:Nums w B v l) (he:Ext w w'):Nums w' B v l:=by
  obtain ⟨A,cap,h1,h2,h3,h4,h5⟩:=h
  have key:0<l.length→∀b off,A=some ⟨b,off,none⟩→w'.heap[b]? = w.heap[b]?:=fun h0 b off hA=>by
    obtain ⟨b',off',a1,a2,a3,a4⟩:=h5 h0;rw [a1] at hA
    cases hA
    rcases he.same _ a3 with h | ⟨cs,t,hb,hn⟩
    · exact h
    · have:=a4 0 h0
      rw [hb.cell] at this;exact absurd this (hn _ _)
  refine ⟨A,cap,h1,⟨h2.1,fun hB a ha i hi=>?_⟩,h3,h4,fun h0=>?_⟩
  · obtain ⟨b,off,a1,a2,a3,a4⟩:=h5 (by omega)
    have h6:=h2.2 hB a ha i hi;have h7:=key (by omega) b off a1;rw [a1] at ha
    cases ha
    exact (jcg h7 _).trans h6
  · obtain ⟨b,off,a1,a2,a3,a4⟩:=h5 h0
    have h7:=key h0 b off a1;exact ⟨b,off,a1,a2,Nat.lt_of_lt_of_le a3 he.size,fun i hi=>(World.cell?_of_block h7).trans (a4 i hi)⟩
structure Far (g:Nat) (w w':World):Prop where
  os:w'.os=w.os
  tape:w'.tape=w.tape
  output:w'.output=w.output
  size:w'.heap.size=w.heap.size
  block:∀b,b≠g→w'.heap[b]? = w.heap[b]?
theorem Far.set (w:World) (g i:Nat) (u:Value):Far g w (w.setCell ⟨g,i,none⟩ u):=by
  refine ⟨rfl,rfl,rfl,by simp,fun b hb=>Below.heap_setCell w ⟨g,i,none⟩ u b hb⟩
theorem Far.trans {g:Nat} {a b c:World} (h:Far g a b) (k:Far g b c):Far g a c:=
  ⟨k.os.trans h.os,k.tape.trans h.tape,k.output.trans h.output,k.size.trans h.size,fun i hi=>(k.block i hi).trans (h.block i hi)⟩
theorem Far.below {g B:Nat} {w w':World} (h:Far g w w') (hg:B≤g):Below B w w':=
  ⟨h.os,h.tape,h.output,Nat.le_of_eq h.size.symm,fun k hk=>h.block k (by omega)⟩
theorem Far.ext {g:Nat} {w w':World} (h:Far g w w') (hb:BoxAt w g):Ext w w':=
  ⟨Nat.le_of_eq h.size.symm,fun b hlt=>if hbg:b=g then .inr (hbg ▸ hb) else .inl (h.block b hbg)⟩
theorem Far.blk {g r:Nat} {w w':World} {t:TypeId} {cs:Array Value} (h:Far g w w') (hr:r≠g) (hb:Blk w r t cs):Blk w' r t cs:=(h.block r hr).trans hb
structure Fact where
  holds:World→Value→Prop
  stab:∀{w w':World} {u:Value},holds w u→Ext w w'→holds w' u
def Fact.any:Fact:=⟨fun _ _=>True,fun _ _=>trivial⟩
def Fact.eq (c:Value):Fact:=⟨fun _ u=>u=c,fun h _=>h⟩
theorem Fact.eq_mk {c u:Value} {w:World} (h:u=c):(Fact.eq c).holds w u:=h
theorem QB.ext {w w':World} {B k:Nat} {n:Bool} {A:Option Addr} {len cap:Nat} {z:Int} (h:QB w B k n A len cap z) (he:Ext w w'):QB w' B k n A len cap z:=by
  obtain ⟨d,h1,h2⟩:=h;exact ⟨d,h1.ext he,h2⟩
theorem QC.ext {w w':World} {k:Nat} {n:Bool} {A:Option Addr} {len cap:Nat} {z:Int} (h:QC w k n A len cap z) (he:Ext w w'):QC w' k n A len cap z:=by
  obtain ⟨d,h1,h2⟩:=h;exact ⟨d,h1.ext he,h2⟩
theorem QC.up {w:World} {k k':Nat} {n:Bool} {A:Option Addr} {len cap:Nat} {z:Int} (h:QC w k n A len cap z) (hk:k≤k'):QC w k' n A len cap z:=by
  obtain ⟨d,h1,h2,h3⟩:=h;exact ⟨d,h1,Nat.le_trans h2 hk,h3⟩
theorem Q.ext {w w':World} {k:Nat} {n:Bool} {A:Option Addr} {len cap:Nat} {z:Int} (h:Q w k n A len cap z) (he:Ext w w'):Q w' k n A len cap z:=by
  obtain ⟨d,h1,h2⟩:=h;exact ⟨d,h1.ext he,h2⟩
def IntV (B k:Nat) (z:Int) (w:World) (u:Value):Prop:=∃n A l c,u=.agg #[.bool n,.slice A l c]∧QB w B k n A l c z
theorem IntV.ext {B k:Nat} {z:Int} {w w':World} {u:Value} (h:IntV B k z w u) (he:Ext w w'):IntV B k z w' u:=by
  obtain ⟨n,A,l,c,h1,h2⟩:=h;exact ⟨n,A,l,c,h1,h2.ext he⟩
def Fact.int (B k:Nat) (z:Int):Fact:=⟨IntV B k z,fun h he=>h.ext he⟩
def BallV (B k:Nat) (x y q:Int) (w:World) (u:Value):Prop:=∃n A l c m A' j d,u=.agg #[.bool n,.slice A l c,.bool m,.slice A' j d,.int .i64 q]∧QB w B k n A l c x∧QB w B k m A' j d y
def Fact.ball (B k:Nat) (x y q:Int):Fact:=⟨BallV B k x y q,fun ⟨n,A,l,c,m,A',j,d,h,h1,h2⟩ he=>⟨n,A,l,c,m,A',j,d,h,h1.ext he,h2.ext he⟩⟩
inductive Kd
  | o
  | al (t:TypeId) (z:Array Value)
  | st (j:Nat)
def fill (t:Array Value) (ds:List Nat) (v:Nat→Value):Array Value:=ds.foldl (fun t d=>t.setIfInBounds d (v d)) t
theorem jku (v:Nat→Value):∀(ds:List Nat) (t:Array Value),(fill t ds v).size=t.size
  | [],_=>rfl
  | d::ds,t=>by unfold fill;rw [List.foldl_cons];exact (jku v ds _).trans (by simp)
theorem jgg (v:Nat→Value) (k:Nat):∀(ds:List Nat) (t:Array Value),(fill t ds v)[k]? = if k∈ds∧k<t.size then some (v k) else t[k]?
  | [],_=>by simp [fill]
  | d::ds,t=>by
    unfold fill;rw [List.foldl_cons];refine (jgg v k ds _).trans ?_;rw [Array.getElem?_setIfInBounds,Array.size_setIfInBounds]
    by_cases h3:d=k
    · subst h3
      by_cases h2:d<t.size
      · by_cases h1:d∈ds
        · rw [if_pos ⟨h1,h2⟩,if_pos ⟨List.mem_cons_self,h2⟩]
        · rw [if_neg (fun h=>h1 h.1),if_pos rfl,if_pos h2,if_pos ⟨List.mem_cons_self,h2⟩]
      · rw [if_neg (fun h=>h2 h.2),if_pos rfl,if_neg h2,if_neg (fun h=>h2 h.2),Array.getElem?_eq_none (by omega)]
    · rw [if_neg h3]
      by_cases h1:k∈ds∧k<t.size
      · rw [if_pos h1,if_pos ⟨List.mem_cons_of_mem _ h1.1,h1.2⟩]
      · rw [if_neg h1,if_neg]
        rintro ⟨h4,h5⟩
        rcases List.mem_cons.1 h4 with h6 | h6
        · exact h3 h6.symm
        · exact h1 ⟨h6,h5⟩
def actv (a:Act) (ds:List Nat) (v:Nat→Value):Act:={ a with tmps:=fill a.tmps ds v }
theorem jfc (a:Act) (ds:List Nat) (v:Nat→Value) (d:Nat) (u:Value) (hd:d∈ds) (hs:d<a.tmps.size) :
    (actv a ds v).put (some d) u=actv a ds (fun x=>if x=d then u else v x):=by
  show ({ tmps:=(fill a.tmps ds v).setIfInBounds d u,defers:=a.defers }:Act)={ tmps:=fill a.tmps ds (fun x=>if x=d then u else v x),defers:=a.defers }
  congr 1
  apply Array.ext_getElem?;intro k;rw [Array.getElem?_setIfInBounds,jku,jgg,jgg]
  by_cases h:d=k
  · subst h
    simp [hs,hd]
  · have h':¬ k=d:=fun e=>h e.symm
    simp [h,h']
theorem jfd (t:Array Value) (ds:List Nat):fill t ds (fun d=>t.getD d undef)=t:=by
  apply Array.ext_getElem?;intro k;rw [jgg]
  split
  · rename_i h
    simp [h.2]
  · rfl
section
variable (P:Program) (md:Region.Mode) (ops:Array Oper) (Q:Exit→Act→World→Prop) (Ks:List Kd) (Fs:List Fact) (ds ix:List Nat) (a0:Act) (w0:World)
def depB (o:Oper) (j:Nat):Bool:=o.after.any fun e=>Region.binds md e && e.on == j
def kd (i:Nat):Kd:=Ks.getD i .o
def fc (i:Nat):Fact:=Fs.getD i Fact.any
def dd (i:Nat):Nat:=ix.getD i 0
def isSt:Kd→Bool | .st _=>true | _=>false
def chk:Bool:=
  (List.range ops.size).all fun i=>match ops[i]? with
    | none=>false
    | some o=>(o.after.all fun e=>!Region.binds md e || decide (e.on<i)) &&
      (match o.dst with
        | none=>isSt (kd Ks i)
        | some d=>ds.contains d && decide (d<a0.tmps.size) && (ix.getD i 0 == d) && !isSt (kd Ks i) && (List.range ops.size).all fun j=>i == j || dd ix j != d || (ops[j]?).bind (·.dst) == none) &&
      (match kd Ks i with | .st j=>depB md o j && decide (j<ops.size) && (match kd Ks j with | .al _ _=>true | _=>false) && (List.range ops.size).all (fun i'=>i == i' || (match kd Ks i' with | .st j'=>j' != j | _=>true)) | _=>true)
def Wp (o:Oper) (a:Act) (w:World) (K:Act→World→Prop):Prop:=
  if Region.wanted o (yielded ops a.tmps)=true then Oper.wp P o a w K Q else K (a.put o.dst undef) w
def StepO (i:Nat) (o:Oper):Prop:=
  ∀(v:Nat→Value) (w:World),Below w0.heap.size w0 w→(∀j,depB md o j=true→kd Ks j=.o→(fc Fs j).holds w (v (dd ix j)))→
    ∀K:Act→World→Prop,Shut (∀u w',Below w.heap.size w w'→(fc Fs i).holds w' u→K ((actv a0 ds v).put o.dst u) w')→Kept (Wp P ops Q o (actv a0 ds v) w K)
def StepA (i:Nat) (o:Oper) (t:TypeId) (z:Array Value):Prop:=
  NoU z∧∀(v:Nat→Value) (w:World),Below w0.heap.size w0 w→
    ∀K:Act→World→Prop,Shut (K ((actv a0 ds v).put o.dst (.pointer (some ⟨w.heap.size,0,none⟩))) (w.alloc (.cells z t)))→Kept (Wp P ops Q o (actv a0 ds v) w K)
def StepS (i:Nat) (o:Oper) (j:Nat) (t:TypeId) (z:Array Value):Prop:=
  ∀(v:Nat→Value) (w:World) (g:Nat),Below w0.heap.size w0 w→(∀j,depB md o j=true→kd Ks j=.o→(fc Fs j).holds w (v (dd ix j)))→
    v (dd ix j)=.pointer (some ⟨g,0,none⟩)→w0.heap.size≤g→Blk w g t z→
    ∀K:Act→World→Prop,Shut (∀w',Far g w w'→(∃cs,Blk w' g t cs∧NoU cs∧(fc Fs i).holds w (.agg cs))→K (actv a0 ds v) w')→Kept (Wp P ops Q o (actv a0 ds v) w K)
def StepK (i:Nat) (o:Oper):Kd→Prop
  | .o=>StepO P md ops Q Ks Fs ds ix a0 w0 i o
  | .al t z=>StepA P ops Q ds a0 w0 i o t z
  | .st j=>match kd Ks j with | .al t z=>StepS P md ops Q Ks Fs ds ix a0 w0 i o j t z | _=>True
def Steps:Nat→List Oper→Prop
  | _,[]=>True
  | i,o::os=>StepK P md ops Q Ks Fs ds ix a0 w0 i o (kd Ks i)∧Steps (i+1) os
variable {P md ops Q Ks Fs ds ix a0 w0}
theorem Steps.at_:∀{os:List Oper} {n:Nat},Steps P md ops Q Ks Fs ds ix a0 w0 n os→∀(i:Nat) (o:Oper),os[i]? = some o→StepK P md ops Q Ks Fs ds ix a0 w0 (n+i) o (kd Ks (n+i))
  | [],_,_,i,o,h=>by simp at h
  | o'::os,n,hs,0,o,h=>by
    simp at h;subst h;exact hs.1
  | o'::os,n,hs,i+1,o,h=>by
    have:=Steps.at_ hs.2 i o (by simpa using h);rw [show n+(i+1)=n+1+i by omega];exact this
theorem Steps.nil {n:Nat}:Steps P md ops Q Ks Fs ds ix a0 w0 n []:=trivial
theorem Steps.consO {n:Nat} {o:Oper} {os:List Oper} (hk:kd Ks n=.o) (h:StepO P md ops Q Ks Fs ds ix a0 w0 n o) (hs:Steps P md ops Q Ks Fs ds ix a0 w0 (n+1) os):Steps P md ops Q Ks Fs ds ix a0 w0 n (o::os):=
  ⟨by rw [hk];exact h,hs⟩
theorem Steps.consA {n:Nat} {o:Oper} {os:List Oper} {t:TypeId} {z:Array Value} (hk:kd Ks n=.al t z) (h:StepA P ops Q ds a0 w0 n o t z) (hs:Steps P md ops Q Ks Fs ds ix a0 w0 (n+1) os):Steps P md ops Q Ks Fs ds ix a0 w0 n (o::os):=
  ⟨by rw [hk];exact h,hs⟩
theorem Steps.consS {n j:Nat} {o:Oper} {os:List Oper} {t:TypeId} {z:Array Value} (hk:kd Ks n=.st j) (hj:kd Ks j=.al t z) (h:StepS P md ops Q Ks Fs ds ix a0 w0 n o j t z) (hs:Steps P md ops Q Ks Fs ds ix a0 w0 (n+1) os):Steps P md ops Q Ks Fs ds ix a0 w0 n (o::os):=
  ⟨by rw [hk];simp only [StepK,hj];exact h,hs⟩
structure Inv (listed:Array Bool) (v:Nat→Value) (w:World):Prop where
  lsz:listed.size=ops.size
  closed:∀i o,ops[i]? = some o→listed.getD i false=true→∀j,depB md o j=true→listed.getD j false=true
  low:Below w0.heap.size w0 w
  fo:∀i,i<ops.size→listed.getD i false=true→isSt (kd Ks i)=false→(∀t z,kd Ks i≠.al t z)→(fc Fs i).holds w (v (dd ix i))
  fa:∀i t z,listed.getD i false=true→kd Ks i=.al t z→∃g cs,v (dd ix i)=.pointer (some ⟨g,0,none⟩)∧w0.heap.size≤g∧Blk w g t cs∧NoU cs∧
    (∀s,kd Ks s=.st i→listed.getD s false=true→(fc Fs s).holds w (.agg cs))∧((∀s,kd Ks s=.st i→listed.getD s false=false)→cs=z)
  ne:∀i j t z t' z',i≠j→listed.getD i false=true→listed.getD j false=true→kd Ks i=.al t z→kd Ks j=.al t' z'→v (dd ix i)≠v (dd ix j)
theorem chk_spec (h:chk md ops Ks ds ix a0=true) {i:Nat} {o:Oper} (ho:ops[i]? = some o) :
    (∀j,depB md o j=true→j<i)∧
    (∀d,o.dst=some d→d∈ds∧d<a0.tmps.size∧isSt (kd Ks i)=false∧dd ix i=d∧∀j o',ops[j]? = some o'→i≠j→∀d',o'.dst=some d'→dd ix j≠d)∧
    (o.dst=none→isSt (kd Ks i)=true)∧
    (∀j,kd Ks i=.st j→depB md o j=true∧j<ops.size∧(∃t z,kd Ks j=.al t z)∧∀i',i'<ops.size→kd Ks i'=.st j→i=i'):=by
  have hi:i<ops.size:=(Array.getElem?_eq_some_iff.1 ho).1;have h0:=List.all_eq_true.1 h i (List.mem_range.2 hi);rw [ho] at h0;simp only [Bool.and_eq_true] at h0;obtain ⟨⟨h1,h2⟩,h3⟩:=h0;refine ⟨fun j hj=>?_,fun d hd=>?_,fun hd=>?_,fun j hj=>?_⟩
  · obtain ⟨e,he,hb⟩:=Array.any_eq_true'.1 hj
    simp only [Bool.and_eq_true,beq_iff_eq] at hb;have:=Array.all_eq_true'.1 h1 e he;simp only [hb.1,Bool.not_true,Bool.false_or,decide_eq_true_eq] at this
    omega
  · rw [hd] at h2
    simp only [Bool.and_eq_true,decide_eq_true_eq,Bool.not_eq_true'] at h2;obtain ⟨⟨⟨⟨g1,g2⟩,g5⟩,g3⟩,g4⟩:=h2;refine ⟨by simpa using g1,g2,g3,by simpa [dd] using g5,fun j o' hj hne d' hd'=>?_⟩;have:=List.all_eq_true.1 g4 j (List.mem_range.2 (Array.getElem?_eq_some_iff.1 hj).1);simp only [Bool.or_eq_true,beq_iff_eq,bne_iff_ne,hj,Option.bind_some,hd'] at this
    rcases this with (h5 | h5) | h5
    · exact absurd h5 hne
    · exact h5
    · cases h5
  · rw [hd] at h2
    exact h2
  · rw [hj] at h3
    simp only [Bool.and_eq_true,decide_eq_true_eq] at h3;obtain ⟨⟨⟨g1,g2⟩,g3⟩,g4⟩:=h3;refine ⟨g1,g2,?_,fun i' hi' hk=>?_⟩
    · cases hk:kd Ks j with
      | al t z=>exact ⟨t,z,rfl⟩
      | o=>rw [hk] at g3;cases g3
      | st _=>rw [hk] at g3;cases g3
    · have:=List.all_eq_true.1 g4 i' (List.mem_range.2 hi')
      simp only [hk,Bool.or_eq_true,beq_iff_eq,bne_iff_ne] at this
      rcases this with h5 | h5
      · exact h5
      · exact absurd rfl h5
theorem set_true {listed:Array Bool} {i j:Nat} (h:listed.getD j false=true):(listed.setIfInBounds i true).getD j false=true:=by
  simp only [Array.getD_eq_getD_getElem?,Array.getElem?_setIfInBounds] at h ⊢
  split
  · rename_i e
    subst e
    split
    · rfl
    · rename_i hlt
      rw [Array.getElem?_eq_none (by omega)] at h;exact h
  · exact h
theorem set_of_true {listed:Array Bool} {i j:Nat} (h:(listed.setIfInBounds i true).getD j false=true):j=i∨listed.getD j false=true:=by
  simp only [Array.getD_eq_getD_getElem?,Array.getElem?_setIfInBounds] at h ⊢
  split at h
  · rename_i e
    exact .inl e.symm
  · exact .inr h
theorem set_self {listed:Array Bool} {i:Nat} (h:i<listed.size):(listed.setIfInBounds i true).getD i false=true:=by
  simp [h]
theorem notlisted {listed:Array Bool} {i:Nat} (h:listed.getD i true=false):listed.getD i false=false:=by
  simp only [Array.getD_eq_getD_getElem?] at h ⊢
  cases hx:listed[i]? with
  | none=>rfl
  | some b=>rw [hx] at h;exact h
theorem Inv.step (hs:Steps P md ops Q Ks Fs ds ix a0 w0 0 ops.toList) (hc:chk md ops Ks ds ix a0=true) {listed:Array Bool} {v:Nat→Value} {w:World} (hI:Inv (md:=md) (ops:=ops) (Ks:=Ks) (Fs:=Fs) (ix:=ix) (w0:=w0) listed v w)
    {i:Nat} (hr:i∈Region.ready md ops listed) :
    wpOp P ops Q i (fun a' w'=>∃v',a'=actv a0 ds v'∧Inv (md:=md) (ops:=ops) (Ks:=Ks) (Fs:=Fs) (ix:=ix) (w0:=w0) (listed.setIfInBounds i true) v' w') (actv a0 ds v) w:=by
  obtain ⟨hun,o,ho,hall⟩:=mem_ready.1 hr;have hi:i<ops.size:=(Array.getElem?_eq_some_iff.1 ho).1;have hun':=notlisted hun;obtain ⟨c1,c2,c3,c4⟩:=chk_spec hc ho
  have hdep:∀j,depB md o j=true→listed.getD j false=true:=fun j hj=>by
    obtain ⟨e,he,hb⟩:=Array.any_eq_true'.1 hj;simp only [Bool.and_eq_true,beq_iff_eq] at hb;have:=hall e he hb.1;rw [hb.2] at this;exact this
  have hK:StepK P md ops Q Ks Fs ds ix a0 w0 i o (kd Ks i):=by
    have:=hs.at_ i o (by rw [Array.getElem?_toList];exact ho);rw [Nat.zero_add] at this;exact this
  have hfd:∀j,depB md o j=true→kd Ks j=.o→(fc Fs j).holds w (v (dd ix j)):=fun j hj h1=>
    hI.fo j (Nat.lt_trans (c1 j hj) hi) (hdep j hj) (by rw [h1];rfl) (by rw [h1];intro _ _ h;cases h)
  have lsz:(listed.setIfInBounds i true).size=ops.size:=by simpa using hI.lsz
  have closed:∀i' o',ops[i']? = some o'→(listed.setIfInBounds i true).getD i' false=true→∀j,depB md o' j=true→(listed.setIfInBounds i true).getD j false=true:=fun i' o' ho' hl j hj=>by
    rcases set_of_true hl with rfl | hl
    · rw [ho] at ho'
      cases ho'
      exact set_true (hdep j hj)
    · exact set_true (hI.closed i' o' ho' hl j hj)
  -- slots of the others stay
  have stay:∀d,o.dst=some d→∀j,listed.getD j false=true→(∃o' d',ops[j]? = some o'∧o'.dst=some d')→∀u,(if dd ix j=d then u else v (dd ix j))=v (dd ix j):=fun d hd j hj ⟨o',d',ho',hd'⟩ u=>by
    rw [if_neg];obtain ⟨-,-,-,-,g⟩:=c2 d hd;refine g j o' ho' (fun e=>?_) d' hd';rw [←e,hun'] at hj
    cases hj
  have has:∀j,j<ops.size→isSt (kd Ks j)=false→∃o' d',ops[j]? = some o'∧o'.dst=some d':=fun j hj h=>by
    refine ⟨ops[j],?_⟩;have ho':ops[j]? = some ops[j]:=Array.getElem?_eq_getElem hj
    cases hd:ops[j].dst with
    | none=>
      have:=(chk_spec hc ho').2.2.1 hd;rw [h] at this
      cases this
    | some d'=>exact ⟨d',ho',rfl⟩
  have lt_of:∀j,listed.getD j false=true→j<ops.size:=fun j hj=>by
    rcases Nat.lt_or_ge j ops.size with h | h
    · exact h
    · rw [Array.getD_eq_getD_getElem?,Array.getElem?_eq_none (by rw [hI.lsz];exact h)] at hj
      cases hj
  cases hk:kd Ks i with
  | o=>
    rw [hk] at hK;refine wpOp_step ho (fun K' hK'=>?_);refine (hK v w hI.low hfd K' (fun u w' hb hf=>hK' _ _ ?_)).out
    cases hd:o.dst with
    | none=>
      have:=c3 hd;rw [hk] at this
      cases this
    | some d=>
      obtain ⟨g1,g2,g3,g4,g5⟩:=c2 d hd;refine ⟨_,jfc a0 ds v d u g1 g2,lsz,closed,hI.low.trans (hb.mono hI.low.size),fun j hj hl h1 h2=>?_,fun j t z hl hj=>?_,fun j j' t z t' z' hne hl hl' hj hj'=>?_⟩
      · rcases set_of_true hl with rfl | hl
        · show (fc Fs j).holds w' (if dd ix j=d then u else v (dd ix j))
          rw [if_pos g4];exact hf
        · show (fc Fs j).holds w' (if dd ix j=d then u else v (dd ix j))
          rw [stay d hd j hl (has j hj h1) u];exact (fc Fs j).stab (hI.fo j hj hl h1 h2) (jau hb)
      · rcases set_of_true hl with rfl | hl
        · rw [hk] at hj
          cases hj
        · obtain ⟨g,cs,e1,e2,e3,e4,e5,e6⟩:=hI.fa j t z hl hj
          refine ⟨g,cs,?_,e2,e3.below hb e3.lt,e4,fun s hs hls=>?_,fun hs=>e6 fun s hks=>?_⟩
          · show (if dd ix j=d then u else v (dd ix j))=_
            rw [stay d hd j hl (has j (lt_of j hl) (by rw [hj];rfl)) u];exact e1
          · rcases set_of_true hls with rfl | hls
            · rw [hk] at hs
              cases hs
            · exact (fc Fs s).stab (e5 s hs hls) (jau hb)
          · have:=hs s hks
            cases hx:listed.getD s false with
            | false=>rfl
            | true=>rw [set_true hx] at this;cases this
      · show (if dd ix j=d then u else v (dd ix j))≠(if dd ix j'=d then u else v (dd ix j'))
        rcases set_of_true hl with rfl | hl
        · rw [hk] at hj
          cases hj
        rcases set_of_true hl' with rfl | hl'
        · rw [hk] at hj'
          cases hj'
        rw [stay d hd j hl (has j (lt_of j hl) (by rw [hj];rfl)) u,stay d hd j' hl' (has j' (lt_of j' hl') (by rw [hj'];rfl)) u];exact hI.ne j j' t z t' z' hne hl hl' hj hj'
  | al t0 z0=>
    rw [hk] at hK;refine wpOp_step ho (fun K' hK'=>?_);refine (hK.2 v w hI.low K' (hK' _ _ ?_)).out;have hb:Below w.heap.size w (w.alloc (.cells z0 t0)):=(Below.refl _ _).alloc (Nat.le_refl _) _
    cases hd:o.dst with
    | none=>
      have:=c3 hd;rw [hk] at this
      cases this
    | some d=>
      obtain ⟨g1,g2,g3,g4,g5⟩:=c2 d hd;refine ⟨_,jfc a0 ds v d _ g1 g2,lsz,closed,hI.low.trans (hb.mono hI.low.size),fun j hj hl h1 h2=>?_,fun j t z hl hj=>?_,fun j j' t z t' z' hne hl hl' hj hj'=>?_⟩
      · rcases set_of_true hl with rfl | hl
        · exact absurd hk (h2 t0 z0)
        · show (fc Fs j).holds _ (if dd ix j=d then _ else v (dd ix j))
          rw [stay d hd j hl (has j hj h1)];exact (fc Fs j).stab (hI.fo j hj hl h1 h2) (jau hb)
      · rcases set_of_true hl with rfl | hl
        · rw [hk] at hj
          cases hj
          refine ⟨w.heap.size,_,?_,hI.low.size,Blk.new w _ _,hK.1,fun s hs hls=>?_,fun _=>rfl⟩
          · show (if dd ix j=d then _ else v (dd ix j))=_
            rw [if_pos g4]
          · rcases set_of_true hls with rfl | hls
            · rw [hk] at hs
              cases hs
            · have hlt:=lt_of s hls
              have:=(chk_spec hc (Array.getElem?_eq_getElem hlt)).2.2.2 j hs;rw [hI.closed s _ (Array.getElem?_eq_getElem hlt) hls j this.1] at hun'
              cases hun'
        · obtain ⟨g,cs,e1,e2,e3,e4,e5,e6⟩:=hI.fa j t z hl hj
          refine ⟨g,cs,?_,e2,e3.below hb e3.lt,e4,fun s hs hls=>?_,fun hs=>e6 fun s hks=>?_⟩
          · show (if dd ix j=d then _ else v (dd ix j))=_
            rw [stay d hd j hl (has j (lt_of j hl) (by rw [hj];rfl))];exact e1
          · rcases set_of_true hls with rfl | hls
            · rw [hk] at hs
              cases hs
            · exact (fc Fs s).stab (e5 s hs hls) (jau hb)
          · have:=hs s hks
            cases hx:listed.getD s false with
            | false=>rfl
            | true=>rw [set_true hx] at this;cases this
      · have old:∀j t z,listed.getD j false=true→kd Ks j=.al t z→v (dd ix j)≠.pointer (some ⟨w.heap.size,0,none⟩):=fun j t z hl hj h=>by
          obtain ⟨g,cs,e1,e2,e3,-⟩:=hI.fa j t z hl hj;rw [h] at e1;have:w.heap.size=g:=by injection e1 with e1;injection e1 with e1;injection e1
          have:=e3.lt
          omega
        show (if dd ix j=d then _ else v (dd ix j))≠(if dd ix j'=d then _ else v (dd ix j'))
        rcases set_of_true hl with rfl | hl2
        · rcases set_of_true hl' with rfl | hl'
          · exact absurd rfl hne
          · rw [if_pos g4,stay d hd j' hl' (has j' (lt_of j' hl') (by rw [hj'];rfl))]
            exact fun h=>old j' t' z' hl' hj' h.symm
        · rcases set_of_true hl' with rfl | hl'
          · rw [if_pos g4,stay d hd j hl2 (has j (lt_of j hl2) (by rw [hj];rfl))]
            exact old j t z hl2 hj
          · rw [stay d hd j hl2 (has j (lt_of j hl2) (by rw [hj];rfl)),stay d hd j' hl' (has j' (lt_of j' hl') (by rw [hj'];rfl))]
            exact hI.ne j j' t z t' z' hne hl2 hl' hj hj'
  | st k=>
    obtain ⟨d1,d2,⟨t0,z0,d3⟩,d4⟩:=c4 k hk;rw [hk] at hK;simp only [StepK,d3] at hK;have hlk:=hdep k d1;obtain ⟨g,cs,e1,e2,e3,e4,e5,e6⟩:=hI.fa k t0 z0 hlk d3
    have hcs:cs=z0:=e6 fun s hs=>by
      have hsi:s=i∨¬ s<ops.size:=by
        rcases Nat.lt_or_ge s ops.size with h | h
        · exact .inl (d4 s h hs).symm
        · exact .inr (by omega)
      rcases hsi with rfl | h
      · exact hun'
      · rw [Array.getD_eq_getD_getElem?,Array.getElem?_eq_none (by rw [hI.lsz];omega)]
        rfl
    subst hcs;refine wpOp_step ho (fun K' hK'=>?_);refine (hK v w g hI.low hfd e1 e2 e3 K' (fun w' hfar ⟨cs',f1,f2,f3⟩=>hK' _ _ ?_)).out;have hext:=hfar.ext ⟨_,_,e3,e4⟩;refine ⟨v,rfl,lsz,closed,hI.low.trans (hfar.below e2),fun j hj hl h1 h2=>?_,fun j t z hl hj=>?_,fun j j' t z t' z' hne hl hl' hj hj'=>?_⟩
    · rcases set_of_true hl with rfl | hl
      · rw [hk] at h1
        cases h1
      · exact (fc Fs j).stab (hI.fo j hj hl h1 h2) hext
    · rcases set_of_true hl with rfl | hl
      · rw [hk] at hj
        cases hj
      · by_cases hjk:j=k
        · subst hjk
          rw [d3] at hj
          cases hj
          refine ⟨g,cs',e1,e2,f1,f2,fun s hs hls=>?_,fun hs=>?_⟩
          · rcases set_of_true hls with rfl | hls
            · exact (fc Fs s).stab f3 hext
            · have:=d4 s (lt_of s hls) hs
              subst this;rw [hls] at hun'
              cases hun'
          · have:=hs i hk
            rw [set_self (by rw [hI.lsz];exact hi)] at this
            cases this
        · obtain ⟨g',cs2,b1,b2,b3,b4,b5,b6⟩:=hI.fa j t z hl hj
          have hgg:g'≠g:=fun h=>by
            subst h;exact hI.ne j k t z t0 cs hjk hl hlk hj d3 (b1.trans e1.symm)
          refine ⟨g',cs2,b1,b2,hfar.blk hgg b3,b4,fun s hs hls=>?_,fun hs=>b6 fun s hks=>?_⟩
          · rcases set_of_true hls with rfl | hls
            · rw [hk] at hs
              cases hs
              exact absurd rfl hjk
            · exact (fc Fs s).stab (b5 s hs hls) hext
          · have:=hs s hks
            cases hx:listed.getD s false with
            | false=>rfl
            | true=>rw [set_true hx] at this;cases this
    · rcases set_of_true hl with rfl | hl
      · rw [hk] at hj
        cases hj
      rcases set_of_true hl' with rfl | hl'
      · rw [hk] at hj'
        cases hj'
      exact hI.ne j j' t z t' z' hne hl hl' hj hj'
end
theorem jr3 {k:Nat} {x y:Int} (hx:x.natAbs<W^k) (hy:y.natAbs<W^k):(x+y).natAbs<W^(k+1):=by
  have h:W^(k+1)=W^k*W:=Nat.pow_succ _ _;have h2:W^k*2≤W^k*W:=Nat.mul_le_mul_left _ (by unfold W;omega);have h3:(x+y).natAbs≤x.natAbs+y.natAbs:=Int.natAbs_add_le _ _
  omega
theorem jzj {k:Nat} {x y:Int} (hx:x.natAbs<W^k) (hy:y.natAbs<W^k):(x - y).natAbs<W^(k+1):=by
  have:=jr3 (x:=x) (y := -y) hx (by rw [Int.natAbs_neg];exact hy)
  rwa [show x + -y=x - y by omega] at this
theorem jvf {w:World} {k k':Nat} {n m:Bool} {A A':Option Addr} {len cap len' cap':Nat} {z y:Int} (h:Q w k n A len cap z) (h':Q w k' m A' len' cap' y) (hk:k≤30000) (hk':k'≤30000) :
    Calls Tryz.prog 37 #[.agg #[.bool n,.slice A len cap],.agg #[.bool m,.slice A' len' cap']] w fun e w'=>Below w.heap.size w w'∧RetZ w.heap.size (z - y) e w':=by
  obtain ⟨d,h1,h2,rfl⟩:=h;obtain ⟨d',h1',h2',rfl⟩:=h';exact jiz w n m 0 0 _ _ d d' h1 h1' (by omega) (by omega)
theorem intV {w:World} {B k:Nat} {u:Value} {z:Int} {d:List Nat} (hu:Nums w B u d) (hd:Canon d z.natAbs) (hz:z.natAbs<W^k):IntV B k z w (.agg #[.bool (decide (z<0)),u]):=by
  obtain ⟨A,c,rfl⟩:=hu.form;exact ⟨_,_,_,_,rfl,RetZ.qb hu hd hz⟩
end
end
section
section
open Go.RowKit
theorem Ext.trans {a b c:World} (h:Ext a b) (k:Ext b c):Ext a c:=by
  refine ⟨Nat.le_trans h.size k.size,fun i hi=>?_⟩
  rcases h.same i hi with h1 | h1
  · rcases k.same i (Nat.lt_of_lt_of_le hi h.size) with h2 | ⟨cs,t,h2,h3⟩
    · exact .inl (h2.trans h1)
    · exact .inr ⟨cs,t,h1.symm.trans h2,h3⟩
  · exact .inr h1
structure Low (X:List Nat) (w w':World):Prop where
  os:w'.os=w.os
  tape:w'.tape=w.tape
  output:w'.output=w.output
  size:w.heap.size≤w'.heap.size
  block:∀k,k<w.heap.size→k∉X→w'.heap[k]? = w.heap[k]?
  ext:Ext w w'
theorem Low.refl (X:List Nat) (w:World):Low X w w:=⟨rfl,rfl,rfl,Nat.le_refl _,fun _ _ _=>rfl,Ext.refl w⟩
theorem Low.grow {X:List Nat} {a b c:World} (h:Low X a b) (k:Below b.heap.size b c):Low X a c:=
  ⟨k.os.trans h.os,k.tape.trans h.tape,k.output.trans h.output,Nat.le_trans h.size k.size,fun i hi hX=>(k.block i (Nat.lt_of_lt_of_le hi h.size)).trans (h.block i hi hX),h.ext.trans (jau k)⟩
theorem Low.far {X:List Nat} {a b c:World} {g:Nat} (h:Low X a b) (k:Far g b c) (hb:BoxAt b g) (hg:g∈X∨a.heap.size≤g):Low X a c:=by
  refine ⟨k.os.trans h.os,k.tape.trans h.tape,k.output.trans h.output,Nat.le_trans h.size (Nat.le_of_eq k.size.symm),fun i hi hX=>(k.block i ?_).trans (h.block i hi hX),h.ext.trans (k.ext hb)⟩;rintro rfl
  rcases hg with h | h
  · exact hX h
  · omega
theorem Low.blk {X:List Nat} {w w':World} {g:Nat} {t:TypeId} {cs:Array Value} (h:Low X w w') (hb:Blk w g t cs) (hg:g∉X):Blk w' g t cs:=(h.block g hb.lt hg).trans hb
theorem Low.below {X:List Nat} {w w':World} {B:Nat} (h:Low X w w') (hB:B≤w.heap.size) (hX:∀g∈X,B≤g):Below B w w':=
  ⟨h.os,h.tape,h.output,h.size,fun k hk=>h.block k (by omega) (fun hm=>by have:=hX k hm;omega)⟩
theorem Low.drew {X:List Nat} {w w':World} (h:Low X w.drew w'):Low X w w':=⟨h.os,h.tape,h.output,h.size,h.block,⟨h.ext.size,h.ext.same⟩⟩
theorem jbg {w w':World} (h:Ext w.drew w'):Ext w w':=⟨h.size,h.same⟩
namespace F2
inductive Kd
  | o
  | al (t:TypeId) (z:Array Value)
  | st (j:Nat)
  | so (g:Nat) (t:TypeId) (z:Array Value)
  | t
  | l
def olds (Ks:List Kd):List Nat:=Ks.filterMap fun | .so g _ _=>some g | _=>none
section
variable (P:Program) (md:Region.Mode) (ops:Array Oper) (Q:Exit→Act→World→Prop) (Ks:List Kd) (Fs:List Fact) (ds ix:List Nat) (a0:Act) (w0:World)
def depB (o:Oper) (j:Nat):Bool:=o.after.any fun e=>Region.binds md e && e.on == j
def kd (i:Nat):Kd:=Ks.getD i .o
def fc (i:Nat):Fact:=Fs.getD i Fact.any
def dd (i:Nat):Nat:=ix.getD i 0
def isSt:Kd→Bool | .st _=>true | .so _ _ _=>true | _=>false
def isT:Kd→Bool | .t=>true | _=>false
def isL:Kd→Bool | .l=>true | _=>false
def chk:Bool:=
  (List.range ops.size).all fun i=>match ops[i]? with
    | none=>false
    | some o=>(o.after.all fun e=>!Region.binds md e || decide (e.on<i)) &&
      (match o.dst with
        | none=>isSt (kd Ks i) || isT (kd Ks i)
        | some d=>isT (kd Ks i) || isL (kd Ks i) || (ds.contains d && decide (d<a0.tmps.size) && (ix.getD i 0 == d) && !isSt (kd Ks i) && (List.range ops.size).all fun j=>i == j || dd ix j != d || (ops[j]?).bind (·.dst) == none)) &&
      (match kd Ks i with | .st j=>depB md o j && decide (j<ops.size) && (match kd Ks j with | .al _ _=>true | _=>false) && (List.range ops.size).all (fun i'=>i == i' || (match kd Ks i' with | .st j'=>j' != j | _=>true)) | _=>true)
def Wp (o:Oper) (a:Act) (w:World) (K:Act→World→Prop):Prop:=
  if Region.wanted o (yielded ops a.tmps)=true then Oper.wp P o a w K Q else K (a.put o.dst undef) w
def StepO (i:Nat) (o:Oper):Prop:=
  ∀(v:Nat→Value) (w:World),Low (olds Ks) w0 w→(∀j,depB md o j=true→kd Ks j=.o→(fc Fs j).holds w (v (dd ix j)))→
    (∀s o' g t z,ops[s]? = some o'→kd Ks s=.so g t z→depB md o' i=true→Blk w g t z)→
    ∀K:Act→World→Prop,Shut (∀u w',Below w.heap.size w w'→(fc Fs i).holds w' u→K ((actv a0 ds v).put o.dst u) w')→Kept (Wp P ops Q o (actv a0 ds v) w K)
def StepA (i:Nat) (o:Oper) (t:TypeId) (z:Array Value):Prop:=
  NoU z∧∀(v:Nat→Value) (w:World),Low (olds Ks) w0 w→
    ∀K:Act→World→Prop,Shut (K ((actv a0 ds v).put o.dst (.pointer (some ⟨w.heap.size,0,none⟩))) (w.alloc (.cells z t)))→Kept (Wp P ops Q o (actv a0 ds v) w K)
def StepS (i:Nat) (o:Oper) (j:Nat) (t:TypeId) (z:Array Value):Prop:=
  ∀(v:Nat→Value) (w:World) (g:Nat),Low (olds Ks) w0 w→(∀j,depB md o j=true→kd Ks j=.o→(fc Fs j).holds w (v (dd ix j)))→
    v (dd ix j)=.pointer (some ⟨g,0,none⟩)→w0.heap.size≤g→Blk w g t z→
    ∀K:Act→World→Prop,Shut (∀w',Far g w w'→(∃cs,Blk w' g t cs∧NoU cs∧(fc Fs i).holds w (.agg cs))→K (actv a0 ds v) w')→Kept (Wp P ops Q o (actv a0 ds v) w K)
def StepT (i:Nat) (o:Oper) (g:Nat) (t:TypeId) (z:Array Value):Prop:=
  ∀(v:Nat→Value) (w:World),Low (olds Ks) w0 w→(∀j,depB md o j=true→kd Ks j=.o→(fc Fs j).holds w (v (dd ix j)))→Blk w g t z→
    ∀K:Act→World→Prop,Shut (∀w',Far g w w'→(∃cs,Blk w' g t cs∧NoU cs∧(fc Fs i).holds w (.agg cs))→K (actv a0 ds v) w')→Kept (Wp P ops Q o (actv a0 ds v) w K)
def StepK (i:Nat) (o:Oper):Kd→Prop
  | .o=>StepO P md ops Q Ks Fs ds ix a0 w0 i o
  | .al t z=>StepA P ops Q Ks ds a0 w0 i o t z
  | .st j=>match kd Ks j with | .al t z=>StepS P md ops Q Ks Fs ds ix a0 w0 i o j t z | _=>True
  | .so g t z=>StepT P md ops Q Ks Fs ds ix a0 w0 i o g t z
  | .t=>True
  | .l=>True
def Steps:Nat→List Oper→Prop
  | _,[]=>True
  | i,o::os=>StepK P md ops Q Ks Fs ds ix a0 w0 i o (kd Ks i)∧Steps (i+1) os
variable {P md ops Q Ks Fs ds ix a0 w0}
theorem Steps.at_:∀{os:List Oper} {n:Nat},Steps P md ops Q Ks Fs ds ix a0 w0 n os→∀(i:Nat) (o:Oper),os[i]? = some o→StepK P md ops Q Ks Fs ds ix a0 w0 (n+i) o (kd Ks (n+i))
  | [],_,_,i,o,h=>by simp at h
  | o'::os,n,hs,0,o,h=>by
    simp at h;subst h;exact hs.1
  | o'::os,n,hs,i+1,o,h=>by
    have:=Steps.at_ hs.2 i o (by simpa using h);rw [show n+(i+1)=n+1+i by omega];exact this
theorem Steps.nil {n:Nat}:Steps P md ops Q Ks Fs ds ix a0 w0 n []:=trivial
theorem Steps.consO {n:Nat} {o:Oper} {os:List Oper} (hk:kd Ks n=.o) (h:StepO P md ops Q Ks Fs ds ix a0 w0 n o) (hs:Steps P md ops Q Ks Fs ds ix a0 w0 (n+1) os):Steps P md ops Q Ks Fs ds ix a0 w0 n (o::os):=
  ⟨by rw [hk];exact h,hs⟩
theorem Steps.consA {n:Nat} {o:Oper} {os:List Oper} {t:TypeId} {z:Array Value} (hk:kd Ks n=.al t z) (h:StepA P ops Q Ks ds a0 w0 n o t z) (hs:Steps P md ops Q Ks Fs ds ix a0 w0 (n+1) os):Steps P md ops Q Ks Fs ds ix a0 w0 n (o::os):=
  ⟨by rw [hk];exact h,hs⟩
theorem Steps.consS {n j:Nat} {o:Oper} {os:List Oper} {t:TypeId} {z:Array Value} (hk:kd Ks n=.st j) (hj:kd Ks j=.al t z) (h:StepS P md ops Q Ks Fs ds ix a0 w0 n o j t z) (hs:Steps P md ops Q Ks Fs ds ix a0 w0 (n+1) os):Steps P md ops Q Ks Fs ds ix a0 w0 n (o::os):=
  ⟨by rw [hk];simp only [StepK,hj];exact h,hs⟩
theorem Steps.consT {n:Nat} {o:Oper} {os:List Oper} {g:Nat} {t:TypeId} {z:Array Value} (hk:kd Ks n=.so g t z) (h:StepT P md ops Q Ks Fs ds ix a0 w0 n o g t z) (hs:Steps P md ops Q Ks Fs ds ix a0 w0 (n+1) os):Steps P md ops Q Ks Fs ds ix a0 w0 n (o::os):=
  ⟨by rw [hk];exact h,hs⟩
structure Inv (listed:Array Bool) (v:Nat→Value) (w:World):Prop where
  lsz:listed.size=ops.size
  closed:∀i o,ops[i]? = some o→listed.getD i false=true→∀j,depB md o j=true→listed.getD j false=true
  nt:∀i,listed.getD i false=true→isT (kd Ks i)=false
  low:Low (olds Ks) w0 w
  fs:∀s g t z,kd Ks s=.so g t z→s<ops.size→∃cs,Blk w g t cs∧NoU cs∧(listed.getD s false=true→(fc Fs s).holds w (.agg cs))∧(listed.getD s false=false→cs=z)
  fo:∀i,i<ops.size→listed.getD i false=true→isSt (kd Ks i)=false→(∀t z,kd Ks i≠.al t z)→(fc Fs i).holds w (v (dd ix i))
  fa:∀i t z,listed.getD i false=true→kd Ks i=.al t z→∃g cs,v (dd ix i)=.pointer (some ⟨g,0,none⟩)∧w0.heap.size≤g∧Blk w g t cs∧NoU cs∧
    (∀s,kd Ks s=.st i→listed.getD s false=true→(fc Fs s).holds w (.agg cs))∧((∀s,kd Ks s=.st i→listed.getD s false=false)→cs=z)
  ne:∀i j t z t' z',i≠j→listed.getD i false=true→listed.getD j false=true→kd Ks i=.al t z→kd Ks j=.al t' z'→v (dd ix i)≠v (dd ix j)
theorem chk_spec (h:chk md ops Ks ds ix a0=true) {i:Nat} {o:Oper} (ho:ops[i]? = some o) :
    (∀j,depB md o j=true→j<i)∧
    (∀d,o.dst=some d→isT (kd Ks i)=false→isL (kd Ks i)=false→d∈ds∧d<a0.tmps.size∧isSt (kd Ks i)=false∧dd ix i=d∧∀j o',ops[j]? = some o'→i≠j→∀d',o'.dst=some d'→dd ix j≠d)∧
    (o.dst=none→isSt (kd Ks i)=true∨isT (kd Ks i)=true)∧
    (∀j,kd Ks i=.st j→depB md o j=true∧j<ops.size∧(∃t z,kd Ks j=.al t z)∧∀i',i'<ops.size→kd Ks i'=.st j→i=i'):=by
  have hi:i<ops.size:=(Array.getElem?_eq_some_iff.1 ho).1;have h0:=List.all_eq_true.1 h i (List.mem_range.2 hi);rw [ho] at h0;simp only [Bool.and_eq_true] at h0;obtain ⟨⟨h1,h2⟩,h3⟩:=h0;refine ⟨fun j hj=>?_,fun d hd hT hLL=>?_,fun hd=>?_,fun j hj=>?_⟩
  · obtain ⟨e,he,hb⟩:=Array.any_eq_true'.1 hj
    simp only [Bool.and_eq_true,beq_iff_eq] at hb;have:=Array.all_eq_true'.1 h1 e he;simp only [hb.1,Bool.not_true,Bool.false_or,decide_eq_true_eq] at this
    omega
  · rw [hd] at h2
    simp only [hT,hLL,Bool.false_or,Bool.and_eq_true,decide_eq_true_eq,Bool.not_eq_true'] at h2;obtain ⟨⟨⟨⟨g1,g2⟩,g5⟩,g3⟩,g4⟩:=h2;refine ⟨by simpa using g1,g2,g3,by simpa [dd] using g5,fun j o' hj hne d' hd'=>?_⟩;have:=List.all_eq_true.1 g4 j (List.mem_range.2 (Array.getElem?_eq_some_iff.1 hj).1);simp only [Bool.or_eq_true,beq_iff_eq,bne_iff_ne,hj,Option.bind_some,hd'] at this
    rcases this with (h5 | h5) | h5
    · exact absurd h5 hne
    · exact h5
    · cases h5
  · rw [hd] at h2
    simpa using h2
  · rw [hj] at h3
    simp only [Bool.and_eq_true,decide_eq_true_eq] at h3;obtain ⟨⟨⟨g1,g2⟩,g3⟩,g4⟩:=h3;refine ⟨g1,g2,?_,fun i' hi' hk=>?_⟩
    · cases hk:kd Ks j with
      | al t z=>exact ⟨t,z,rfl⟩
      | o=>rw [hk] at g3;cases g3
      | st _=>rw [hk] at g3;cases g3
      | so _ _ _=>rw [hk] at g3;cases g3
      | t=>rw [hk] at g3;cases g3
      | l=>rw [hk] at g3;cases g3
    · have:=List.all_eq_true.1 g4 i' (List.mem_range.2 hi')
      simp only [hk,Bool.or_eq_true,beq_iff_eq,bne_iff_ne] at this
      rcases this with h5 | h5
      · exact h5
      · exact absurd rfl h5
theorem set_true {listed:Array Bool} {i j:Nat} (h:listed.getD j false=true):(listed.setIfInBounds i true).getD j false=true:=by
  simp only [Array.getD_eq_getD_getElem?,Array.getElem?_setIfInBounds] at h ⊢
  split
  · rename_i e
    subst e
    split
    · rfl
    · rename_i hlt
      rw [Array.getElem?_eq_none (by omega)] at h;exact h
  · exact h
theorem set_of_true {listed:Array Bool} {i j:Nat} (h:(listed.setIfInBounds i true).getD j false=true):j=i∨listed.getD j false=true:=by
  simp only [Array.getD_eq_getD_getElem?,Array.getElem?_setIfInBounds] at h ⊢
  split at h
  · rename_i e
    exact .inl e.symm
  · exact .inr h
theorem set_self {listed:Array Bool} {i:Nat} (h:i<listed.size):(listed.setIfInBounds i true).getD i false=true:=by
  simp [h]
theorem notlisted {listed:Array Bool} {i:Nat} (h:listed.getD i true=false):listed.getD i false=false:=by
  simp only [Array.getD_eq_getD_getElem?] at h ⊢
  cases hx:listed[i]? with
  | none=>rfl
  | some b=>rw [hx] at h;exact h
theorem Inv.step (hso:∀s g t z,kd Ks s=.so g t z→s<ops.size→Blk w0 g t z∧NoU z) (hso2:∀s s' g g' t t' z z',s≠s'→s<ops.size→s'<ops.size→kd Ks s=.so g t z→kd Ks s'=.so g' t' z'→g≠g') (hc:chk md ops Ks ds ix a0=true) {listed:Array Bool} {v:Nat→Value} {w:World} (hI:Inv (md:=md) (ops:=ops) (Ks:=Ks) (Fs:=Fs) (ix:=ix) (w0:=w0) listed v w)
    (hs:∀i o,ops[i]? = some o→listed.getD i false=false→StepK P md ops Q Ks Fs ds ix a0 w0 i o (kd Ks i)) {i:Nat} (hr:i∈Region.ready md ops listed) (hiT:isT (kd Ks i)=false) (hiL:isL (kd Ks i)=false) :
    wpOp P ops Q i (fun a' w'=>∃v',a'=actv a0 ds v'∧Inv (md:=md) (ops:=ops) (Ks:=Ks) (Fs:=Fs) (ix:=ix) (w0:=w0) (listed.setIfInBounds i true) v' w') (actv a0 ds v) w:=by
  obtain ⟨hun,o,ho,hall⟩:=mem_ready.1 hr;have hi:i<ops.size:=(Array.getElem?_eq_some_iff.1 ho).1;have hun':=notlisted hun;obtain ⟨c1,c2,c3,c4⟩:=chk_spec hc ho
  have hdep:∀j,depB md o j=true→listed.getD j false=true:=fun j hj=>by
    obtain ⟨e,he,hb⟩:=Array.any_eq_true'.1 hj;simp only [Bool.and_eq_true,beq_iff_eq] at hb;have:=hall e he hb.1;rw [hb.2] at this;exact this
  have hK:StepK P md ops Q Ks Fs ds ix a0 w0 i o (kd Ks i):=hs i o ho hun'
  have hold:∀s o' g t z,ops[s]? = some o'→kd Ks s=.so g t z→depB md o' i=true→Blk w g t z:=fun s o' g t z hs hk hd=>by
    obtain ⟨cs,e1,-,-,e4⟩:=hI.fs s g t z hk (Array.getElem?_eq_some_iff.1 hs).1
    have:listed.getD s false=false:=by
      cases hx:listed.getD s false with
      | false=>rfl
      | true=>rw [hI.closed s o' hs hx i hd] at hun';cases hun'
    exact e4 this ▸ e1
  have still:∀s,s≠i→(listed.setIfInBounds i true).getD s false=listed.getD s false:=fun s hs=>by
    cases hx:listed.getD s false with
    | true=>exact set_true hx
    | false=>
      cases hy:(listed.setIfInBounds i true).getD s false with
      | false=>rfl
      | true=>
        rcases set_of_true hy with h | h
        · exact absurd h hs
        · rw [hx] at h;cases h
  have hfd:∀j,depB md o j=true→kd Ks j=.o→(fc Fs j).holds w (v (dd ix j)):=fun j hj h1=>
    hI.fo j (Nat.lt_trans (c1 j hj) hi) (hdep j hj) (by rw [h1];rfl) (by rw [h1];intro _ _ h;cases h)
  have lsz:(listed.setIfInBounds i true).size=ops.size:=by simpa using hI.lsz
  have closed:∀i' o',ops[i']? = some o'→(listed.setIfInBounds i true).getD i' false=true→∀j,depB md o' j=true→(listed.setIfInBounds i true).getD j false=true:=fun i' o' ho' hl j hj=>by
    rcases set_of_true hl with rfl | hl
    · rw [ho] at ho'
      cases ho'
      exact set_true (hdep j hj)
    · exact set_true (hI.closed i' o' ho' hl j hj)
  have nt:∀j,(listed.setIfInBounds i true).getD j false=true→isT (kd Ks j)=false:=fun j hj=>by
    rcases set_of_true hj with rfl | hj
    · exact hiT
    · exact hI.nt j hj
  -- slots of the others stay
  have stay:∀d,o.dst=some d→∀j,listed.getD j false=true→(∃o' d',ops[j]? = some o'∧o'.dst=some d')→∀u,(if dd ix j=d then u else v (dd ix j))=v (dd ix j):=fun d hd j hj ⟨o',d',ho',hd'⟩ u=>by
    rw [if_neg];obtain ⟨-,-,-,-,g⟩:=c2 d hd hiT hiL;refine g j o' ho' (fun e=>?_) d' hd';rw [←e,hun'] at hj
    cases hj
  have has:∀j,j<ops.size→isSt (kd Ks j)=false→listed.getD j false=true→∃o' d',ops[j]? = some o'∧o'.dst=some d':=fun j hj h hlj=>by
    refine ⟨ops[j],?_⟩;have ho':ops[j]? = some ops[j]:=Array.getElem?_eq_getElem hj
    cases hd:ops[j].dst with
    | none=>
      have:=(chk_spec hc ho').2.2.1 hd;rw [h,hI.nt j hlj] at this
      rcases this with h | h <;> cases h
    | some d'=>exact ⟨d',ho',rfl⟩
  have lt_of:∀j,listed.getD j false=true→j<ops.size:=fun j hj=>by
    rcases Nat.lt_or_ge j ops.size with h | h
    · exact h
    · rw [Array.getD_eq_getD_getElem?,Array.getElem?_eq_none (by rw [hI.lsz];exact h)] at hj
      cases hj
  cases hk:kd Ks i with
  | o=>
    rw [hk] at hK;refine wpOp_step ho (fun K' hK'=>?_);refine (hK v w hI.low hfd hold K' (fun u w' hb hf=>hK' _ _ ?_)).out
    cases hd:o.dst with
    | none=>
      have:=c3 hd;rw [hk] at this
      rcases this with h | h <;> cases h
    | some d=>
      obtain ⟨g1,g2,g3,g4,g5⟩:=c2 d hd hiT hiL;refine ⟨_,jfc a0 ds v d u g1 g2,lsz,closed,nt,hI.low.grow hb,fun s g t z hs hlt=>?_,fun j hj hl h1 h2=>?_,fun j t z hl hj=>?_,fun j j' t z t' z' hne hl hl' hj hj'=>?_⟩
      · obtain ⟨cs,e1,e2,e3,e4⟩:=hI.fs s g t z hs hlt
        rw [still s (fun e=>by rw [e,hk] at hs;cases hs)];exact ⟨cs,e1.below hb e1.lt,e2,fun h=>(fc Fs s).stab (e3 h) (jau hb),e4⟩
      · rcases set_of_true hl with rfl | hl
        · show (fc Fs j).holds w' (if dd ix j=d then u else v (dd ix j))
          rw [if_pos g4];exact hf
        · show (fc Fs j).holds w' (if dd ix j=d then u else v (dd ix j))
          rw [stay d hd j hl (has j hj h1 hl) u];exact (fc Fs j).stab (hI.fo j hj hl h1 h2) (jau hb)
      · rcases set_of_true hl with rfl | hl
        · rw [hk] at hj
          cases hj
        · obtain ⟨g,cs,e1,e2,e3,e4,e5,e6⟩:=hI.fa j t z hl hj
          refine ⟨g,cs,?_,e2,e3.below hb e3.lt,e4,fun s hs hls=>?_,fun hs=>e6 fun s hks=>?_⟩
          · show (if dd ix j=d then u else v (dd ix j))=_
            rw [stay d hd j hl (has j (lt_of j hl) (by rw [hj];rfl) hl) u];exact e1
          · rcases set_of_true hls with rfl | hls
            · rw [hk] at hs
              cases hs
            · exact (fc Fs s).stab (e5 s hs hls) (jau hb)
          · have:=hs s hks
            cases hx:listed.getD s false with
            | false=>rfl
            | true=>rw [set_true hx] at this;cases this
      · show (if dd ix j=d then u else v (dd ix j))≠(if dd ix j'=d then u else v (dd ix j'))
        rcases set_of_true hl with rfl | hl
        · rw [hk] at hj
          cases hj
        rcases set_of_true hl' with rfl | hl'
        · rw [hk] at hj'
          cases hj'
        rw [stay d hd j hl (has j (lt_of j hl) (by rw [hj];rfl) hl) u,stay d hd j' hl' (has j' (lt_of j' hl') (by rw [hj'];rfl) hl') u];exact hI.ne j j' t z t' z' hne hl hl' hj hj'
  | al t0 z0=>
    rw [hk] at hK;refine wpOp_step ho (fun K' hK'=>?_);refine (hK.2 v w hI.low K' (hK' _ _ ?_)).out;have hb:Below w.heap.size w (w.alloc (.cells z0 t0)):=(Below.refl _ _).alloc (Nat.le_refl _) _
    cases hd:o.dst with
    | none=>
      have:=c3 hd;rw [hk] at this
      rcases this with h | h <;> cases h
    | some d=>
      obtain ⟨g1,g2,g3,g4,g5⟩:=c2 d hd hiT hiL;refine ⟨_,jfc a0 ds v d _ g1 g2,lsz,closed,nt,hI.low.grow hb,fun s g t z hs hlt=>?_,fun j hj hl h1 h2=>?_,fun j t z hl hj=>?_,fun j j' t z t' z' hne hl hl' hj hj'=>?_⟩
      · obtain ⟨cs,e1,e2,e3,e4⟩:=hI.fs s g t z hs hlt
        rw [still s (fun e=>by rw [e,hk] at hs;cases hs)];exact ⟨cs,e1.below hb e1.lt,e2,fun h=>(fc Fs s).stab (e3 h) (jau hb),e4⟩
      · rcases set_of_true hl with rfl | hl
        · exact absurd hk (h2 t0 z0)
        · show (fc Fs j).holds _ (if dd ix j=d then _ else v (dd ix j))
          rw [stay d hd j hl (has j hj h1 hl)];exact (fc Fs j).stab (hI.fo j hj hl h1 h2) (jau hb)
      · rcases set_of_true hl with rfl | hl
        · rw [hk] at hj
          cases hj
          refine ⟨w.heap.size,_,?_,hI.low.size,Blk.new w _ _,hK.1,fun s hs hls=>?_,fun _=>rfl⟩
          · show (if dd ix j=d then _ else v (dd ix j))=_
            rw [if_pos g4]
          · rcases set_of_true hls with rfl | hls
            · rw [hk] at hs
              cases hs
            · have hlt:=lt_of s hls
              have:=(chk_spec hc (Array.getElem?_eq_getElem hlt)).2.2.2 j hs;rw [hI.closed s _ (Array.getElem?_eq_getElem hlt) hls j this.1] at hun'
              cases hun'
        · obtain ⟨g,cs,e1,e2,e3,e4,e5,e6⟩:=hI.fa j t z hl hj
          refine ⟨g,cs,?_,e2,e3.below hb e3.lt,e4,fun s hs hls=>?_,fun hs=>e6 fun s hks=>?_⟩
          · show (if dd ix j=d then _ else v (dd ix j))=_
            rw [stay d hd j hl (has j (lt_of j hl) (by rw [hj];rfl) hl)];exact e1
          · rcases set_of_true hls with rfl | hls
            · rw [hk] at hs
              cases hs
            · exact (fc Fs s).stab (e5 s hs hls) (jau hb)
          · have:=hs s hks
            cases hx:listed.getD s false with
            | false=>rfl
            | true=>rw [set_true hx] at this;cases this
      · have old:∀j t z,listed.getD j false=true→kd Ks j=.al t z→v (dd ix j)≠.pointer (some ⟨w.heap.size,0,none⟩):=fun j t z hl hj h=>by
          obtain ⟨g,cs,e1,e2,e3,-⟩:=hI.fa j t z hl hj;rw [h] at e1;have:w.heap.size=g:=by injection e1 with e1;injection e1 with e1;injection e1
          have:=e3.lt
          omega
        show (if dd ix j=d then _ else v (dd ix j))≠(if dd ix j'=d then _ else v (dd ix j'))
        rcases set_of_true hl with rfl | hl2
        · rcases set_of_true hl' with rfl | hl'
          · exact absurd rfl hne
          · rw [if_pos g4,stay d hd j' hl' (has j' (lt_of j' hl') (by rw [hj'];rfl) hl')]
            exact fun h=>old j' t' z' hl' hj' h.symm
        · rcases set_of_true hl' with rfl | hl'
          · rw [if_pos g4,stay d hd j hl2 (has j (lt_of j hl2) (by rw [hj];rfl) hl2)]
            exact old j t z hl2 hj
          · rw [stay d hd j hl2 (has j (lt_of j hl2) (by rw [hj];rfl) hl2),stay d hd j' hl' (has j' (lt_of j' hl') (by rw [hj'];rfl) hl')]
            exact hI.ne j j' t z t' z' hne hl2 hl' hj hj'
  | st k=>
    obtain ⟨d1,d2,⟨t0,z0,d3⟩,d4⟩:=c4 k hk;rw [hk] at hK;simp only [StepK,d3] at hK;have hlk:=hdep k d1;obtain ⟨g,cs,e1,e2,e3,e4,e5,e6⟩:=hI.fa k t0 z0 hlk d3
    have hcs:cs=z0:=e6 fun s hs=>by
      have hsi:s=i∨¬ s<ops.size:=by
        rcases Nat.lt_or_ge s ops.size with h | h
        · exact .inl (d4 s h hs).symm
        · exact .inr (by omega)
      rcases hsi with rfl | h
      · exact hun'
      · rw [Array.getD_eq_getD_getElem?,Array.getElem?_eq_none (by rw [hI.lsz];omega)]
        rfl
    subst hcs;refine wpOp_step ho (fun K' hK'=>?_);refine (hK v w g hI.low hfd e1 e2 e3 K' (fun w' hfar ⟨cs',f1,f2,f3⟩=>hK' _ _ ?_)).out;have hext:=hfar.ext ⟨_,_,e3,e4⟩;refine ⟨v,rfl,lsz,closed,nt,hI.low.far hfar ⟨_,_,e3,e4⟩ (.inr e2),fun s g' t z hs hlt=>?_,fun j hj hl h1 h2=>?_,fun j t z hl hj=>?_,fun j j' t z t' z' hne hl hl' hj hj'=>?_⟩
    · obtain ⟨cs2,b1,b2,b3,b4⟩:=hI.fs s g' t z hs hlt
      rw [still s (fun e=>by rw [e,hk] at hs;cases hs)];have hgg:g'≠g:=by have:=(hso s g' t z hs hlt).1.lt;omega
      exact ⟨cs2,hfar.blk hgg b1,b2,fun h=>(fc Fs s).stab (b3 h) hext,b4⟩
    · rcases set_of_true hl with rfl | hl
      · rw [hk] at h1
        cases h1
      · exact (fc Fs j).stab (hI.fo j hj hl h1 h2) hext
    · rcases set_of_true hl with rfl | hl
      · rw [hk] at hj
        cases hj
      · by_cases hjk:j=k
        · subst hjk
          rw [d3] at hj
          cases hj
          refine ⟨g,cs',e1,e2,f1,f2,fun s hs hls=>?_,fun hs=>?_⟩
          · rcases set_of_true hls with rfl | hls
            · exact (fc Fs s).stab f3 hext
            · have:=d4 s (lt_of s hls) hs
              subst this;rw [hls] at hun'
              cases hun'
          · have:=hs i hk
            rw [set_self (by rw [hI.lsz];exact hi)] at this
            cases this
        · obtain ⟨g',cs2,b1,b2,b3,b4,b5,b6⟩:=hI.fa j t z hl hj
          have hgg:g'≠g:=fun h=>by
            subst h;exact hI.ne j k t z t0 cs hjk hl hlk hj d3 (b1.trans e1.symm)
          refine ⟨g',cs2,b1,b2,hfar.blk hgg b3,b4,fun s hs hls=>?_,fun hs=>b6 fun s hks=>?_⟩
          · rcases set_of_true hls with rfl | hls
            · rw [hk] at hs
              cases hs
              exact absurd rfl hjk
            · exact (fc Fs s).stab (b5 s hs hls) hext
          · have:=hs s hks
            cases hx:listed.getD s false with
            | false=>rfl
            | true=>rw [set_true hx] at this;cases this
    · rcases set_of_true hl with rfl | hl
      · rw [hk] at hj
        cases hj
      rcases set_of_true hl' with rfl | hl'
      · rw [hk] at hj'
        cases hj'
      exact hI.ne j j' t z t' z' hne hl hl' hj hj'
  | t=>
    rw [hk] at hiT
    cases hiT
  | l=>
    rw [hk] at hiL
    cases hiL
  | so g0 t0 z0=>
    rw [hk] at hK;obtain ⟨cs,e3,e4,-,e6⟩:=hI.fs i g0 t0 z0 hk hi;have hcs:cs=z0:=e6 hun';subst hcs;refine wpOp_step ho (fun K' hK'=>?_);refine (hK v w hI.low hfd e3 K' (fun w' hfar ⟨cs',f1,f2,f3⟩=>hK' _ _ ?_)).out;have hext:=hfar.ext ⟨_,_,e3,e4⟩;have hg0:=(hso i g0 t0 cs hk hi).1.lt
    have hmem:g0∈olds Ks:=by
      unfold olds;rw [List.mem_filterMap]
      have hlk:i<Ks.length:=by
        rcases Nat.lt_or_ge i Ks.length with h | h
        · exact h
        · unfold kd at hk
          rw [List.getD_eq_getElem?_getD,List.getElem?_eq_none h] at hk
          cases hk
      refine ⟨Ks[i],List.getElem_mem hlk,?_⟩;unfold kd at hk;rw [List.getD_eq_getElem?_getD,List.getElem?_eq_getElem hlk] at hk;rw [show Ks[i]=Kd.so g0 t0 cs from hk]
    refine ⟨v,rfl,lsz,closed,nt,hI.low.far hfar ⟨_,_,e3,e4⟩ (.inl hmem),fun s g' t z hs hlt=>?_,fun j hj hl h1 h2=>?_,fun j t z hl hj=>?_,fun j j' t z t' z' hne hl hl' hj hj'=>?_⟩
    · by_cases hsi:s=i
      · subst hsi
        rw [hk] at hs
        cases hs
        exact ⟨cs',f1,f2,fun _=>(fc Fs s).stab f3 hext,fun h=>by rw [set_self (by rw [hI.lsz];exact hi)] at h;cases h⟩
      · obtain ⟨cs2,b1,b2,b3,b4⟩:=hI.fs s g' t z hs hlt
        rw [still s hsi];exact ⟨cs2,hfar.blk (hso2 s i g' g0 t t0 z cs hsi hlt hi hs hk) b1,b2,fun h=>(fc Fs s).stab (b3 h) hext,b4⟩
    · rcases set_of_true hl with rfl | hl
      · rw [hk] at h1
        cases h1
      · exact (fc Fs j).stab (hI.fo j hj hl h1 h2) hext
    · rcases set_of_true hl with rfl | hl
      · rw [hk] at hj
        cases hj
      · obtain ⟨g',cs2,b1,b2,b3,b4,b5,b6⟩:=hI.fa j t z hl hj
        refine ⟨g',cs2,b1,b2,hfar.blk (by omega) b3,b4,fun s hs hls=>?_,fun hs=>b6 fun s hks=>?_⟩
        · rcases set_of_true hls with rfl | hls
          · rw [hk] at hs
            cases hs
          · exact (fc Fs s).stab (b5 s hs hls) hext
        · have:=hs s hks
          cases hx:listed.getD s false with
          | false=>rfl
          | true=>rw [set_true hx] at this;cases this
    · rcases set_of_true hl with rfl | hl
      · rw [hk] at hj
        cases hj
      rcases set_of_true hl' with rfl | hl'
      · rw [hk] at hj'
        cases hj'
      exact hI.ne j j' t z t' z' hne hl hl' hj hj'
theorem all_listed (hc:chk md ops Ks ds ix a0=true) {listed:Array Bool} (hsz:listed.size=ops.size) (hr:Region.ready md ops listed=[]):∀(i:Nat),i<ops.size→listed.getD i false=true:=by
  intro i
  induction i using Nat.strongRecOn with
  | _ i ih=>
    intro hi
    cases hl:listed.getD i false with
    | true=>rfl
    | false=>
      have ho:ops[i]? = some ops[i]:=Array.getElem?_eq_getElem hi
      have:i∈Region.ready md ops listed:=by
        refine mem_ready.2 ⟨?_,_,ho,fun e he hb=>?_⟩
        · have hlt:i<listed.size:=by omega
          simp [hlt] at hl ⊢;exact hl
        · have hd:depB md ops[i] e.on=true:=Array.any_eq_true'.2 ⟨e,he,by simp [hb]⟩
          have hlt:=(chk_spec hc ho).1 e.on hd;exact ih e.on hlt (by omega)
      rw [hr] at this
      cases this
def Done (v:Nat→Value) (w:World):Prop:=
  (∀i,i<ops.size→kd Ks i=.o→(fc Fs i).holds w (v (dd ix i)))∧
  (∀i t z,i<ops.size→kd Ks i=.al t z→∃g cs,v (dd ix i)=.pointer (some ⟨g,0,none⟩)∧w0.heap.size≤g∧Blk w g t cs∧(∀s,s<ops.size→kd Ks s=.st i→(fc Fs s).holds w (.agg cs))∧((∀s,kd Ks s≠.st i)→cs=z))∧
  (∀i j t z t' z',i≠j→i<ops.size→j<ops.size→kd Ks i=.al t z→kd Ks j=.al t' z'→v (dd ix i)≠v (dd ix j))∧
  (∀s g t z,s<ops.size→kd Ks s=.so g t z→∃cs,Blk w g t cs∧(fc Fs s).holds w (.agg cs))
theorem jii (L:Array Bool) (hL0:∀i,isL (kd Ks i)=true→L.getD i false=true) (hT0:∀i,isT (kd Ks i)=false) (hso:∀s g t z,kd Ks s=.so g t z→s<ops.size→Blk w0 g t z∧NoU z) (hso2:∀s s' g g' t t' z z',s≠s'→s<ops.size→s'<ops.size→kd Ks s=.so g t z→kd Ks s'=.so g' t' z'→g≠g') (hc:chk md ops Ks ds ix a0=true) (hs:∀i o,ops[i]? = some o→L.getD i false=false→StepK P md ops Q Ks Fs ds ix a0 w0 i o (kd Ks i))
    (fin:∀v w,Low (olds Ks) w0 w→Done (ops:=ops) (Ks:=Ks) (Fs:=Fs) (ix:=ix) (w0:=w0) v w→Q .normal (actv a0 ds v) w) :
    ∀(fuel:Nat) (listed:Array Bool) (v:Nat→Value) (w:World),(∀j,L.getD j false=true→listed.getD j false=true)→(listed.toList.filter (! ·)).length≤fuel→Inv (md:=md) (ops:=ops) (Ks:=Ks) (Fs:=Fs) (ix:=ix) (w0:=w0) listed v w→wpAny P md ops Q fuel listed (actv a0 ds v) w:=by
  have end_:∀(listed:Array Bool) (v:Nat→Value) (w:World),Inv (md:=md) (ops:=ops) (Ks:=Ks) (Fs:=Fs) (ix:=ix) (w0:=w0) listed v w→Region.ready md ops listed=[]→Q .normal (actv a0 ds v) w:=fun listed v w hI hr=>by
    have hl:=all_listed hc hI.lsz hr
    refine fin v w hI.low ⟨fun i hi h1=>hI.fo i hi (hl i hi) (by rw [h1];rfl) (by rw [h1];intro _ _ h;cases h),fun i t z hi hk=>?_,fun i j t z t' z' hne hi hj hk hk'=>hI.ne i j t z t' z' hne (hl i hi) (hl j hj) hk hk',fun s g t z hs hk=>by
      obtain ⟨cs,b1,-,b3,-⟩:=hI.fs s g t z hk hs;exact ⟨cs,b1,b3 (hl s hs)⟩⟩
    obtain ⟨g,cs,e1,e2,e3,e4,e5,e6⟩:=hI.fa i t z (hl i hi) hk;exact ⟨g,cs,e1,e2,e3,fun s hs hks=>e5 s hks (hl s hs),fun h=>e6 fun s hks=>absurd hks (h s)⟩
  have lenset:∀(l:List Bool) (i:Nat),l[i]? = some false→((l.set i true).filter (! ·)).length+1=(l.filter (! ·)).length:=by
    intro l
    induction l with
    | nil=>intro i h;simp at h
    | cons b l ih=>
      intro i h
      match i with
      | 0=>
        simp at h;subst h;simp
      | n+1=>
        have:=ih n (by simpa using h)
        cases b <;> simp [List.set] <;> omega
  intro fuel
  induction fuel with
  | zero=>
    intro listed v w hLs hf hI
    have hno:Region.ready md ops listed=[]:=by
      cases hr:Region.ready md ops listed with
      | nil=>rfl
      | cons i rs=>
        have hi:i∈Region.ready md ops listed:=by rw [hr];exact List.mem_cons_self
        have hun:=(mem_ready.1 hi).1
        have:listed.toList[i]? = some false:=by
          rw [Array.getElem?_toList];simp only [Array.getD_eq_getD_getElem?] at hun
          cases hx:listed[i]? with
          | none=>rw [hx] at hun;cases hun
          | some b=>rw [hx] at hun;simp at hun;rw [hun]
        have:=lenset _ _ this
        omega
    exact ⟨hno,end_ listed v w hI hno⟩
  | succ fuel ih=>
    intro listed v w hLs hf hI;refine ⟨fun hno=>end_ listed v w hI hno,fun i hi=>?_⟩
    refine wpOp_mono ?_ (hI.step hso hso2 hc (fun i o ho hl=>hs i o ho (by
      cases hx:L.getD i false with
      | false=>rfl
      | true=>rw [hLs i hx] at hl;cases hl)) hi (hT0 i) (by
      cases hx:isL (kd Ks i) with
      | false=>rfl
      | true=>
        have h1:=hLs i (hL0 i hx);have h2:=notlisted (mem_ready.1 hi).1;rw [h1] at h2;cases h2))
    rintro a' w' ⟨v',rfl,hI'⟩;refine ih _ v' w' (fun j hj=>set_true (hLs j hj)) ?_ hI';have hun:=(mem_ready.1 hi).1
    have:listed.toList[i]? = some false:=by
      rw [Array.getElem?_toList];simp only [Array.getD_eq_getD_getElem?] at hun
      cases hx:listed[i]? with
      | none=>rw [hx] at hun;cases hun
      | some b=>rw [hx] at hun;simp at hun;rw [hun]
    have:=lenset _ _ this;rw [Array.toList_setIfInBounds]
    omega
theorem Steps.all (hs:Steps P md ops Q Ks Fs ds ix a0 w0 0 ops.toList) (i:Nat) (o:Oper) (ho:ops[i]? = some o):StepK P md ops Q Ks Fs ds ix a0 w0 i o (kd Ks i):=by
  have:=hs.at_ i o (by rw [Array.getElem?_toList];exact ho);rw [Nat.zero_add] at this;exact this
theorem jij (hT0:∀i,isT (kd Ks i)=false) (hL0:∀i,isL (kd Ks i)=false) (hso:∀s g t z,kd Ks s=.so g t z→s<ops.size→Blk w0 g t z∧NoU z) (hso2:∀s s' g g' t t' z z',s≠s'→s<ops.size→s'<ops.size→kd Ks s=.so g t z→kd Ks s'=.so g' t' z'→g≠g') (hc:chk md ops Ks ds ix a0=true) (hs:Steps P md ops Q Ks Fs ds ix a0 w0 0 ops.toList)
    (fin:∀v w,Low (olds Ks) w0 w→Done (ops:=ops) (Ks:=Ks) (Fs:=Fs) (ix:=ix) (w0:=w0) v w→Q .normal (actv a0 ds v) w) :
    ∀(fuel:Nat) (listed:Array Bool) (v:Nat→Value) (w:World),(listed.toList.filter (! ·)).length≤fuel→Inv (md:=md) (ops:=ops) (Ks:=Ks) (Fs:=Fs) (ix:=ix) (w0:=w0) listed v w→wpAny P md ops Q fuel listed (actv a0 ds v) w:=
  fun fuel listed v w hf hI=>jii #[] (fun i h=>by rw [hL0 i] at h;cases h) hT0 hso hso2 hc (fun i o ho _=>hs.all i o ho) fin fuel listed v w (fun j hj=>by simp at hj) hf hI
end
theorem jhb {P:Program} {id:Nat} {ops:Array Oper} {Q:Exit→Act→World→Prop} {a0:Act} {w:World} (Ks:List Kd) (Fs:List Fact) (ds ix:List Nat) (hm:P.follows .mixedOrders=true) (hT0:∀i,isT (kd Ks i)=false) (hL0:∀i,isL (kd Ks i)=false)
    (hso:∀s g t z,kd Ks s=.so g t z→s<ops.size→Blk w g t z∧NoU z) (hso2:∀s s' g g' t t' z z',s≠s'→s<ops.size→s'<ops.size→kd Ks s=.so g t z→kd Ks s'=.so g' t' z'→g≠g')
    (hc:chk .any ops Ks ds ix a0=true) (hs:Steps P .any ops Q Ks Fs ds ix a0 w.drew 0 ops.toList)
    (fin:∀v w',Low (olds Ks) w w'→Done (ops:=ops) (Ks:=Ks) (Fs:=Fs) (ix:=ix) (w0:=w.drew) v w'→Q .normal (actv a0 ds v) w'):(Code.region id ops true).wp P Q a0 w:=by
  refine wp_region_any hm ?_
  have h:=jij (w0:=w.drew) hT0 hL0 (fun s g t z a b=>hso s g t z a b) hso2 hc hs (fun v w' hl hd=>fin v w' hl.drew hd) ops.size (Array.replicate ops.size false) (fun d=>a0.tmps.getD d undef) w.drew (by simp)
    ⟨by simp,fun i o ho hl=>?_,fun i hl=>?_,Low.refl _ _,fun s g t z hk hlt=>?fs,fun i hi hl=>?_,fun i t z hl=>?_,fun i j t z t' z' hne hl=>?_⟩
  · unfold actv at h
    rw [jfd] at h;exact h
  case fs=>
    obtain ⟨h1,h2⟩:=hso s g t z hk hlt;refine ⟨z,h1,h2,fun h=>?_,fun _=>rfl⟩
    exfalso
    simp only [Array.getD_eq_getD_getElem?,Array.getElem?_replicate] at h
    split at h <;> cases h
  all_goals
    exfalso
    simp only [Array.getD_eq_getD_getElem?,Array.getElem?_replicate] at hl
    split at hl <;> cases hl
def sos (Ks:List Kd):List (Nat×TypeId×Array Value):=Ks.filterMap fun | .so g t z=>some (g,t,z) | _=>none
theorem jfx {Ks:List Kd} {s g:Nat} {t:TypeId} {z:Array Value} (h:kd Ks s=.so g t z):(g,t,z)∈sos Ks:=by
  have hlk:s<Ks.length:=by
    rcases Nat.lt_or_ge s Ks.length with h1 | h1
    · exact h1
    · unfold kd at h
      rw [List.getD_eq_getElem?_getD,List.getElem?_eq_none h1] at h
      cases h
  unfold kd at h;rw [List.getD_eq_getElem?_getD,List.getElem?_eq_getElem hlk] at h;unfold sos;rw [List.mem_filterMap];exact ⟨Ks[s],List.getElem_mem hlk,by rw [show Ks[s]=Kd.so g t z from h]⟩
theorem jn3:∀(Ks:List Kd),(sos Ks).Pairwise (fun x y=>x.1≠y.1)→∀(s s' g g':Nat) (t t':TypeId) (z z':Array Value),s≠s'→kd Ks s=.so g t z→kd Ks s'=.so g' t' z'→g≠g'
  | [],_,s,s',g,g',t,t',z,z',_,h,_=>by simp [kd] at h
  | k::Ks,hp,0,0,g,g',t,t',z,z',hne,_,_=>absurd rfl hne
  | k::Ks,hp,0,s'+1,g,g',t,t',z,z',hne,h,h'=>by
    have h1:k=.so g t z:=h;subst h1;have h2:kd Ks s'=.so g' t' z':=h';have hp':((g,t,z)::sos Ks).Pairwise (fun x y=>x.1≠y.1):=hp;exact (List.pairwise_cons.1 hp').1 _ (jfx h2)
  | k::Ks,hp,s+1,0,g,g',t,t',z,z',hne,h,h'=>by
    have h1:k=.so g' t' z':=h';subst h1;have h2:kd Ks s=.so g t z:=h;have hp':((g',t',z')::sos Ks).Pairwise (fun x y=>x.1≠y.1):=hp;exact fun e=>(List.pairwise_cons.1 hp').1 _ (jfx h2) e.symm
  | k::Ks,hp,s+1,s'+1,g,g',t,t',z,z',hne,h,h'=>by
    have hp':(sos Ks).Pairwise (fun x y=>x.1≠y.1):=by
      cases k with
      | so _ _ _=>exact (List.pairwise_cons.1 (show (_::sos Ks).Pairwise _ from hp)).2
      | o=>exact hp
      | al _ _=>exact hp
      | st _=>exact hp
      | t=>exact hp
      | l=>exact hp
    exact jn3 Ks hp' s s' g g' t t' z z' (by omega) h h'
theorem noL (Ks:List Kd) (h:(Ks.all fun k=>!isT k && !isL k)=true) (i:Nat):isL (kd Ks i)=false:=by
  unfold kd;rw [List.getD_eq_getElem?_getD]
  cases hx:Ks[i]? with
  | none=>rfl
  | some k=>
    have:=List.all_eq_true.1 h k (List.mem_of_getElem? hx);rw [Bool.and_eq_true] at this
    simpa using this.2
theorem noT (Ks:List Kd) (h:(Ks.all fun k=>!isT k && !isL k)=true) (i:Nat):isT (kd Ks i)=false:=by
  unfold kd;rw [List.getD_eq_getElem?_getD]
  cases hx:Ks[i]? with
  | none=>rfl
  | some k=>
    have:=List.all_eq_true.1 h k (List.mem_of_getElem? hx);rw [Bool.and_eq_true] at this
    simpa using this.1
theorem region {P:Program} {id:Nat} {ops:Array Oper} {Q:Exit→Act→World→Prop} {a0:Act} {w:World} (Ks:List Kd) (Fs:List Fact) (ds ix:List Nat) (hm:P.follows .mixedOrders=true)
    (hso:∀x∈sos Ks,Blk w x.1 x.2.1 x.2.2∧NoU x.2.2) (hso2:(sos Ks).Pairwise (fun x y=>x.1≠y.1))
    (hc:(chk .any ops Ks ds ix a0 && Ks.all fun k=>!isT k && !isL k)=true) (hs:Steps P .any ops Q Ks Fs ds ix a0 w.drew 0 ops.toList)
    (fin:∀v w',Low (olds Ks) w w'→Done (ops:=ops) (Ks:=Ks) (Fs:=Fs) (ix:=ix) (w0:=w.drew) v w'→Q .normal (actv a0 ds v) w'):(Code.region id ops true).wp P Q a0 w:=by
  rw [Bool.and_eq_true] at hc;exact jhb Ks Fs ds ix hm (noT Ks hc.2) (noL Ks hc.2) (fun s g t z hk _=>hso _ (jfx hk)) (fun s s' g g' t t' z z' hne _ _ h h'=>jn3 Ks hso2 s s' g g' t t' z z' hne h h') hc.1 hs fin
def ancB (md:Region.Mode) (ops:Array Oper):Nat→Nat→Nat→Bool
  | 0,_,_=>false
  | f+1,i,j=>match ops[i]? with
    | none=>false
    | some o=>depB md o j || (List.range ops.size).any fun k=>depB md o k && ancB md ops f k j
section
variable {P:Program} {md:Region.Mode} {ops:Array Oper} {Q:Exit→Act→World→Prop} {Ks:List Kd} {Fs:List Fact} {ds ix:List Nat} {a0:Act} {w0:World}
theorem anc_listed {listed:Array Bool} (hcl:∀i o,ops[i]? = some o→listed.getD i false=true→∀j,depB md o j=true→listed.getD j false=true) :
    ∀(f i j:Nat),(∀o,ops[i]? = some o→∀k,depB md o k=true→listed.getD k false=true)→ancB md ops f i j=true→listed.getD j false=true
  | 0,i,j,_,h=>by simp [ancB] at h
  | f+1,i,j,hd,h=>by
    unfold ancB at h
    cases ho:ops[i]? with
    | none=>rw [ho] at h;cases h
    | some o=>
      rw [ho] at h;simp only [Bool.or_eq_true] at h
      rcases h with h | h
      · exact hd o ho j h
      · obtain ⟨k,-,hk⟩:=List.any_eq_true.1 h
        rw [Bool.and_eq_true] at hk;exact anc_listed hcl f k j (fun o' ho' k' hk'=>hcl k o' ho' (hd o ho k hk.1) k' hk') hk.2
end
def StepsL (P:Program) (ops:Array Oper) (Q:Exit→Act→World→Prop) (L:Array Bool) (Ks:List Kd) (Fs:List Fact) (ds ix:List Nat) (a0:Act) (w0:World):Nat→List Oper→Prop
  | _,[]=>True
  | i,o::os=>(L.getD i false=false→StepK P .any ops Q Ks Fs ds ix a0 w0 i o (kd Ks i))∧StepsL P ops Q L Ks Fs ds ix a0 w0 (i+1) os
section
variable {P:Program} {ops:Array Oper} {Q:Exit→Act→World→Prop} {L:Array Bool} {Ks:List Kd} {Fs:List Fact} {ds ix:List Nat} {a0:Act} {w0:World}
theorem StepsL.at_:∀{os:List Oper} {n:Nat},StepsL P ops Q L Ks Fs ds ix a0 w0 n os→∀(i:Nat) (o:Oper),os[i]? = some o→L.getD (n+i) false=false→StepK P .any ops Q Ks Fs ds ix a0 w0 (n+i) o (kd Ks (n+i))
  | [],_,_,i,o,h=>by simp at h
  | o'::os,n,hs,0,o,h=>by
    simp at h;subst h;exact hs.1
  | o'::os,n,hs,i+1,o,h=>by
    have:=StepsL.at_ hs.2 i o (by simpa using h);rw [show n+(i+1)=n+1+i by omega];exact this
theorem StepsL.nil {n:Nat}:StepsL P ops Q L Ks Fs ds ix a0 w0 n []:=trivial
theorem StepsL.skip {n:Nat} {o:Oper} {os:List Oper} (hn:L.getD n false=true) (hs:StepsL P ops Q L Ks Fs ds ix a0 w0 (n+1) os):StepsL P ops Q L Ks Fs ds ix a0 w0 n (o::os):=⟨fun h=>(by rw [hn] at h;cases h),hs⟩
theorem StepsL.consO {n:Nat} {o:Oper} {os:List Oper} (hk:kd Ks n=.o) (h:StepO P .any ops Q Ks Fs ds ix a0 w0 n o) (hs:StepsL P ops Q L Ks Fs ds ix a0 w0 (n+1) os):StepsL P ops Q L Ks Fs ds ix a0 w0 n (o::os):=
  ⟨fun _=>by rw [hk];exact h,hs⟩
theorem StepsL.consT {n:Nat} {o:Oper} {os:List Oper} {g:Nat} {t:TypeId} {z:Array Value} (hk:kd Ks n=.so g t z) (h:StepT P .any ops Q Ks Fs ds ix a0 w0 n o g t z) (hs:StepsL P ops Q L Ks Fs ds ix a0 w0 (n+1) os):StepsL P ops Q L Ks Fs ds ix a0 w0 n (o::os):=
  ⟨fun _=>by rw [hk];exact h,hs⟩
def okL (ops:Array Oper) (L:Array Bool) (Ks:List Kd):Bool:=
  (L.size == ops.size) && (Ks.all fun k=>!isT k) && (List.range ops.size).all fun i=>(L.getD i false == isL (kd Ks i)) && (!L.getD i false || (match ops[i]? with | none=>false | some o=>o.after.all fun e=>!Region.binds .any e || L.getD e.on false)) && decide (i<Ks.length)
theorem rest {w:World} (hso:∀x∈sos Ks,Blk w x.1 x.2.1 x.2.2∧NoU x.2.2) (hso2:(sos Ks).Pairwise (fun x y=>x.1≠y.1))
    (hc:(chk .any ops Ks ds ix a0 && okL ops L Ks && decide (Ks.length≤ops.size))=true) (hF:∀i,isL (kd Ks i)=true→fc Fs i=Fact.any) (hs:StepsL P ops Q L Ks Fs ds ix a0 w 0 ops.toList)
    (fin:∀v w',Low (olds Ks) w w'→Done (ops:=ops) (Ks:=Ks) (Fs:=Fs) (ix:=ix) (w0:=w) v w'→Q .normal (actv a0 ds v) w') (fuel:Nat) (hf:(L.toList.filter (! ·)).length≤fuel):wpAny P .any ops Q fuel L a0 w:=by
  simp only [Bool.and_eq_true,okL,decide_eq_true_eq,beq_iff_eq] at hc;obtain ⟨⟨hc,⟨hsz,hT⟩,hL⟩,hlen⟩:=hc
  have hL':∀i,i<ops.size→L.getD i false=isL (kd Ks i)∧(L.getD i false=true→∀o,ops[i]? = some o→∀j,depB .any o j=true→L.getD j false=true):=fun i hi=>by
    have:=List.all_eq_true.1 hL i (List.mem_range.2 hi);simp only [Bool.and_eq_true,beq_iff_eq,decide_eq_true_eq] at this;refine ⟨this.1.1,fun hl o ho j hj=>?_⟩;have h2:=this.1.2;rw [hl,ho,Bool.not_true,Bool.false_or] at h2;obtain ⟨e,he,hb⟩:=Array.any_eq_true'.1 hj;simp only [Bool.and_eq_true,beq_iff_eq] at hb;have h3:=Array.all_eq_true'.1 h2 e he;rw [hb.1,hb.2] at h3
    simpa using h3
  have big:∀i,ops.size≤i→kd Ks i=.o:=fun i hi=>by
    unfold kd;rw [List.getD_eq_getElem?_getD,List.getElem?_eq_none (by omega)]
    rfl
  have hLi:∀i,L.getD i false=true→i<ops.size:=fun i h=>by
    rcases Nat.lt_or_ge i ops.size with h1 | h1
    · exact h1
    · rw [Array.getD_eq_getD_getElem?,Array.getElem?_eq_none (by omega)] at h;cases h
  have hT0:∀i,isT (kd Ks i)=false:=fun i=>by
    unfold kd;rw [List.getD_eq_getElem?_getD]
    cases hx:Ks[i]? with
    | none=>rfl
    | some k=>
      have:=List.all_eq_true.1 hT k (List.mem_of_getElem? hx)
      simpa using this
  have hk:∀i,L.getD i false=true→kd Ks i=.l:=fun i h=>by
    have h1:=(hL' i (hLi i h)).1;rw [h] at h1
    cases hx:kd Ks i with
    | l=>rfl
    | o=>rw [hx] at h1;cases h1
    | al _ _=>rw [hx] at h1;cases h1
    | st _=>rw [hx] at h1;cases h1
    | so _ _ _=>rw [hx] at h1;cases h1
    | t=>rw [hx] at h1;cases h1
  have h:=jii (w0:=w) L (fun i hi=>by
      rcases Nat.lt_or_ge i ops.size with h1 | h1
      · rw [(hL' i h1).1];exact hi
      · rw [big i h1] at hi;cases hi) hT0 (fun s g t z hk _=>hso _ (jfx hk)) (fun s s' g g' t t' z z' hne _ _ h h'=>jn3 Ks hso2 s s' g g' t t' z z' hne h h') hc
    (fun i o ho hl=>by
      have:=hs.at_ i o (by rw [Array.getElem?_toList];exact ho) (by rw [Nat.zero_add];exact hl);rw [Nat.zero_add] at this;exact this) fin fuel L (fun d=>a0.tmps.getD d undef) w (fun j hj=>hj) hf
    ⟨hsz,fun i o ho hl j hj=>(hL' i (hLi i hl)).2 hl o ho j hj,fun i hl=>by rw [hk i hl];rfl,Low.refl _ _,fun s g t z hks hlt=>?_,fun i hi hl _ _=>?_,fun i t z hl hks=>?_,fun i j t z t' z' hne hl hl' hks hks'=>?_⟩
  · unfold actv at h
    rw [jfd] at h;exact h
  · obtain ⟨h1,h2⟩:=hso _ (jfx hks)
    refine ⟨z,h1,h2,fun h=>?_,fun _=>rfl⟩;rw [hk s h] at hks
    cases hks
  · rw [hF i (by rw [hk i hl];rfl)]
    trivial
  · rw [hk i hl] at hks
    cases hks
  · rw [hk i hl] at hks
    cases hks
end
end F2
end
end
end Go.Proofs.YtllgjggkchgpbaaGreat