/- Walks by values: each region, drawn or not, each operation once; contracts in one form. Contracts in one form: zed and hairlineref02. Shapes of structs; boxes of so many cells. A part of a region's operations, each looked at once, by facts that stand as long as no box is stored into; what is left is walked by hand, or by 'rest'. rows: the plain laws of the sums. -/
import Derived.Test.YtllgjggkchgpbaaGreatDz
import Derived.Test.YtllgjggkchgpbaaGreatFree
import Derived.Test.YtllgjggkchgpbaaGreatZe
set_option linter.unusedVariables false
set_option linter.unusedSimpArgs false
namespace Go.Proofs.YtllgjggkchgpbaaGreat
section
section
open Go.RowKit
open L (val dig nth)
namespace F2
section
variable {P:Program} {md:Region.Mode} {ops:Array Oper} {Q:Exit→Act→World→Prop}
theorem jng (hb:∀i o,ops[i]? = some o→∀j,depB md o j=true→j<i) :
    ∀(n i f:Nat) (listed:Array Bool) (a:Act) (w:World),i+n=ops.size→n≤f→listed.size=ops.size→(∀j,j<i→listed.getD j false=true)→(∀j,i≤j→listed.getD j false=false)→wpAny P md ops Q f listed a w→wpOps P ops Q (List.range' i n) a w:=by
  intro n
  induction n with
  | zero=>
    intro i f listed a w hn hf hsz h1 h2 h
    have hr:Region.ready md ops listed=[]:=by
      cases hr:Region.ready md ops listed with
      | nil=>rfl
      | cons x xs=>
        exfalso
        obtain ⟨hun,o,ho,-⟩:=mem_ready.1 (show x∈Region.ready md ops listed by rw [hr];exact List.mem_cons_self);have hx:x<ops.size:=(Array.getElem?_eq_some_iff.1 ho).1;have h3:=h1 x (by omega);have h4:=notlisted hun;rw [h3] at h4
        cases h4
    show Q .normal a w
    cases f with
    | zero=>exact h.2
    | succ f=>exact h.1 hr
  | succ n ih=>
    intro i f listed a w hn hf hsz h1 h2 h
    cases f with
    | zero=>omega
    | succ f=>
      rw [List.range'_succ,wpOps_cons];have hi:i<ops.size:=by omega
      have ho:ops[i]? = some ops[i]:=Array.getElem?_eq_getElem hi
      have hr:i∈Region.ready md ops listed:=by
        refine mem_ready.2 ⟨?_,_,ho,fun e he hbd=>?_⟩
        · have h3:=h2 i (Nat.le_refl _)
          have hlt:i<listed.size:=by omega
          simp [hlt] at h3 ⊢;exact h3
        · exact h1 _ (hb i _ ho e.on (Array.any_eq_true'.2 ⟨e,he,by simp [hbd]⟩))
      refine wpOp_mono (fun a' w' h'=>?_) (h.2 i hr);refine ih (i+1) f _ a' w' (by omega) (by omega) (by simpa using hsz) (fun j hj=>?_) (fun j hj=>?_) h'
      · rcases Nat.lt_or_ge j i with h3 | h3
        · exact set_true (h1 j h3)
        · obtain rfl:j=i:=by omega
          exact set_self (by omega)
      · cases hx:(listed.setIfInBounds i true).getD j false with
        | false=>rfl
        | true=>
          rcases set_of_true hx with h3 | h3
          · omega
          · rw [h2 j (by omega)] at h3;cases h3
end
theorem regionS {P:Program} {id:Nat} {ops:Array Oper} {Q:Exit→Act→World→Prop} {a0:Act} {w:World} (Ks:List Kd) (Fs:List Fact) (ds ix:List Nat) (hm:P.follows .mixedOrders=true)
    (hso:∀x∈sos Ks,Blk w x.1 x.2.1 x.2.2∧NoU x.2.2) (hso2:(sos Ks).Pairwise (fun x y=>x.1≠y.1))
    (hc:(chk .any ops Ks ds ix a0 && Ks.all fun k=>!isT k && !isL k)=true) (hs:Steps P .any ops Q Ks Fs ds ix a0 w 0 ops.toList)
    (fin:∀v w',Low (olds Ks) w w'→Done (ops:=ops) (Ks:=Ks) (Fs:=Fs) (ix:=ix) (w0:=w) v w'→Q .normal (actv a0 ds v) w'):(Code.region id ops false).wp P Q a0 w:=by
  rw [Bool.and_eq_true] at hc;obtain ⟨hc,hT⟩:=hc;have hT0:=noT Ks hT;have hL0:=noL Ks hT;have hso':∀s g t z,kd Ks s=.so g t z→s<ops.size→Blk w g t z∧NoU z:=fun s g t z hk _=>hso _ (jfx hk)
  have hso2':∀s s' g g' t t' z z',s≠s'→s<ops.size→s'<ops.size→kd Ks s=.so g t z→kd Ks s'=.so g' t' z'→g≠g':=fun s s' g g' t t' z z' hne _ _ h h'=>jn3 Ks hso2 s s' g g' t t' z z' hne h h'
  refine wp_region ?_;rw [List.range_eq_range'];refine jng (fun i o ho=>(chk_spec hc ho).1) ops.size 0 ops.size (Array.replicate ops.size false) a0 w (by simp) (Nat.le_refl _) (by simp) (fun j hj=>by omega) (fun j _=>?_) ?_
  · simp only [Array.getD_eq_getD_getElem?,Array.getElem?_replicate]
    split <;> rfl
  have h:=jij (w0:=w) hT0 hL0 hso' hso2' hc hs fin ops.size (Array.replicate ops.size false) (fun d=>a0.tmps.getD d undef) w (by simp)
    ⟨by simp,fun i o ho hl=>?_,fun i hl=>?_,Low.refl _ _,fun s g t z hk hlt=>?fs,fun i hi hl=>?_,fun i t z hl=>?_,fun i j t z t' z' hne hl=>?_⟩
  · unfold actv at h
    rw [jfd] at h;exact h
  case fs=>
    obtain ⟨h1,h2⟩:=hso' s g t z hk hlt;refine ⟨z,h1,h2,fun h=>?_,fun _=>rfl⟩
    exfalso
    simp only [Array.getD_eq_getD_getElem?,Array.getElem?_replicate] at h
    split at h <;> cases h
  all_goals
    exfalso
    simp only [Array.getD_eq_getD_getElem?,Array.getElem?_replicate] at hl
    split at hl <;> cases hl
end F2
def VF (F:Fact) (e:Ending) (w:World):Prop:=∃u,e=.returned u∧F.holds w u
theorem VF.mk {F:Fact} {u:Value} {w:World} (h:F.holds w u):VF F (.returned u) w:=⟨u,rfl,h⟩
theorem VF.eq {v:Value} {e:Ending} {w:World} (h:e=.returned v):VF (Fact.eq v) e w:=⟨v,h,rfl⟩
def Fact.z (k:Nat) (x:Int):Fact:=Fact.int 0 k x
def Fact.t2 (F G:Fact):Fact:=⟨fun w u=>∃a b,u=.tuple #[a,b]∧F.holds w a∧G.holds w b,fun ⟨a,b,h,h1,h2⟩ he=>⟨a,b,h,F.stab h1 he,G.stab h2 he⟩⟩
def Fact.t3 (F G H:Fact):Fact:=⟨fun w u=>∃a b c,u=.tuple #[a,b,c]∧F.holds w a∧G.holds w b∧H.holds w c,fun ⟨a,b,c,h,h1,h2,h3⟩ he=>⟨a,b,c,h,F.stab h1 he,G.stab h2 he,H.stab h3 he⟩⟩
def Fact.b (k:Nat) (x y q:Int):Fact:=Fact.ball 0 k x y q
theorem Fact.eq_of {c:Value} {w:World} {u:Value} (h:(Fact.eq c).holds w u):u=c:=h
theorem QB.fit {w:World} {B k k':Nat} {n:Bool} {A:Option Addr} {len cap:Nat} {z:Int} (h:QB w B k n A len cap z) (hz:z.natAbs<W^k'):QB w B k' n A len cap z:=by
  obtain ⟨d,h1,h2,h3,h4⟩:=h;exact ⟨d,h1,by rw [h3.len];exact hz,h3,h4⟩
theorem QB.lt {w:World} {B k:Nat} {n:Bool} {A:Option Addr} {len cap:Nat} {z:Int} (h:QB w B k n A len cap z):z.natAbs<W^k:=by
  obtain ⟨d,h1,h2,h3,h4⟩:=h;exact h3.len.1 h2
theorem VF.z {B k:Nat} {z:Int} {e:Ending} {w:World} (h:RetZ B z e w) (hz:z.natAbs<W^k):VF (Fact.z k z) e w:=by
  obtain ⟨u,d,rfl,hu,hd⟩:=h;exact ⟨_,rfl,intV (hu.mono (Nat.zero_le _)) hd hz⟩
theorem VF.zt {B k:Nat} {z:Int} {e:Ending} {w:World} (h:RetZT B z e w) (hz:z.natAbs<W^k):VF (Fact.t2 (Fact.z k z) (Fact.eq (.bool true))) e w:=by
  obtain ⟨u,d,rfl,hu,hd⟩:=h;exact ⟨_,rfl,_,_,rfl,intV (hu.mono (Nat.zero_le _)) hd hz,rfl⟩
theorem VF.zzt {B k k':Nat} {z y:Int} {e:Ending} {w:World} (h:RetZZ B z y e w) (hz:z.natAbs<W^k) (hy:y.natAbs<W^k'):VF (Fact.t3 (Fact.z k z) (Fact.z k' y) (Fact.eq (.bool true))) e w:=by
  obtain ⟨u,d,u',d',rfl,hu,hd,hu',hd'⟩:=h;exact ⟨_,rfl,_,_,_,rfl,intV (hu.mono (Nat.zero_le _)) hd hz,intV (hu'.mono (Nat.zero_le _)) hd' hy,rfl⟩
theorem VF.mono {F G:Fact} {e:Ending} {w:World} (h:VF F e w) (hg:∀u,F.holds w u→G.holds w u):VF G e w:=by
  obtain ⟨u,h1,h2⟩:=h;exact ⟨u,h1,hg u h2⟩
section
variable {w:World} {k k':Nat} {n m:Bool} {A A':Option Addr} {len cap len' cap':Nat} {z y:Int}
theorem jdc {a b:Nat} (h:a≤b):W^a≤W^b:=Nat.pow_le_pow_right (by unfold W;omega) h
theorem j0v (hz:z.natAbs<W^k) (hy:y.natAbs<W^k'):(z+y).natAbs<W^(max k k'+1):=
  jr3 (Nat.lt_of_lt_of_le hz (jdc (by omega))) (Nat.lt_of_lt_of_le hy (jdc (by omega)))
theorem j0w (hz:z.natAbs<W^k) (hy:y.natAbs<W^k'):(z - y).natAbs<W^(max k k'+1):=
  jzj (Nat.lt_of_lt_of_le hz (jdc (by omega))) (Nat.lt_of_lt_of_le hy (jdc (by omega)))
theorem j0x (hz:z.natAbs<W^k) (hy:y.natAbs<W^k'):(z*y).natAbs<W^(k+k'):=by
  rw [Int.natAbs_mul,Nat.pow_add];exact Nat.mul_lt_mul'' hz hy
theorem j0y (c:Nat) (hz:z.natAbs<W^k):(z / 2^c).natAbs<W^k:=by
  have h2:(0:Int)<2^c:=Int.pow_pos (by omega);have:=jdj (z:=z) (y:=2^c) (k:=k) (by omega) hz;unfold vDown at this
  rwa [if_neg (by omega)] at this
theorem jt7 (h:0<y):(z / y).natAbs≤z.natAbs:=by
  have h3:=Int.mul_ediv_add_emod z y;have h4:=Int.emod_nonneg z (show y≠0 by omega);have h5:=Int.emod_lt_of_pos z h
  generalize z / y=q at *
  rcases Int.lt_or_le q 0 with h6 | h6
  · have:y*(q+1)≤1*(q+1):=Int.mul_le_mul_of_nonpos_right (by omega) (by omega)
    rw [Int.mul_add] at this
    omega
  · have:1*q≤y*q:=Int.mul_le_mul_of_nonneg_right (by omega) (by omega)
    omega
theorem j0z (hy:y≠0) (hz:z.natAbs<W^k):(z / y).natAbs<W^k:=by
  have h1:(z / y).natAbs≤z.natAbs:=by
    rcases Int.lt_or_gt_of_ne hy with h | h
    · rw [←Int.neg_neg (z / y),Int.natAbs_neg,←Int.ediv_neg]
      exact jt7 (by omega)
    · exact jt7 h
  omega
theorem j00 (hy:y≠0) (h:y.natAbs<W^k):(z%y).natAbs<W^k:=by
  have h4:=Int.emod_nonneg z hy;have h5:=Int.emod_lt z hy
  omega
theorem j01 (c:Nat) (hz:z.natAbs<W^k):(z*2^c).natAbs<W^(k+(c / 64+1)):=jel hz (by omega)
theorem j02 {x:Int} (h0 : -9223372036854775808≤x) (h1:x≤9223372036854775807):x.natAbs<W^1:=by
  rw [Nat.pow_one];unfold W;omega
end
end
end
section
section
open Go.RowKit
open L (val dig nth)
section
variable {w:World} {k k':Nat} {n m:Bool} {A A':Option Addr} {len cap len' cap':Nat} {z y x:Int}
theorem v_of (hx0 : -9223372036854775808≤x) (hx1:x≤9223372036854775807):Calls Tryz.prog 35 #[.int .i64 x] w fun e w'=>Below w.heap.size w w'∧VF (Fact.z 1 x) e w':=by
  refine (jun w x hx0 hx1).mono ?_;rintro e w' ⟨hb,h9⟩;exact ⟨hb,VF.z h9 (j02 hx0 hx1)⟩
theorem j3t (h:Q w k n A len cap z) (hk:k≤29000):Calls Tryz.prog 74 #[.agg #[.bool n,.slice A len cap]] w fun e w'=>Below w.heap.size w w'∧VF (Fact.z k z) e w':=by
  have hlt:=h.lt;obtain ⟨d,h1,h2,rfl⟩:=h;refine (jh3 w n 0 _ d h1 (by omega)).mono ?_;rintro e w' ⟨hb,h9⟩;exact ⟨hb,VF.z h9 hlt⟩
theorem j4p (h:Q w k n A len cap z) (hk:k≤29000):Calls Tryz.prog 31 #[.agg #[.bool n,.slice A len cap]] w fun e w'=>Below w.heap.size w w'∧VF (Fact.z k (-z)) e w':=by
  refine (jdd h (by omega)).mono ?_;rintro e w' ⟨hb,h9⟩;exact ⟨hb,VF.z h9 (by rw [Int.natAbs_neg];exact h.lt)⟩
theorem j4q (h:Q w k n A len cap z) (h':Q w k' m A' len' cap' y) (hk:k≤29000) (hk':k'≤29000):Calls Tryz.prog 33 #[.agg #[.bool n,.slice A len cap],.agg #[.bool m,.slice A' len' cap']] w fun e w'=>Below w.heap.size w w'∧VF (Fact.z (max k k'+1) (z+y)) e w':=by
  refine (j3z h h' (by omega) (by omega)).mono ?_;rintro e w' ⟨hb,h9⟩;exact ⟨hb,VF.z h9 (j0v h.lt h'.lt)⟩
theorem j4r (h:Q w k n A len cap z) (h':Q w k' m A' len' cap' y) (hk:k≤29000) (hk':k'≤29000):Calls Tryz.prog 37 #[.agg #[.bool n,.slice A len cap],.agg #[.bool m,.slice A' len' cap']] w fun e w'=>Below w.heap.size w w'∧VF (Fact.z (max k k'+1) (z - y)) e w':=by
  refine (jvf h h' (by omega) (by omega)).mono ?_;rintro e w' ⟨hb,h9⟩;exact ⟨hb,VF.z h9 (j0w h.lt h'.lt)⟩
theorem j3u (h:Q w k n A len cap z) (h':Q w k' m A' len' cap' y) (hk:k≤29000) (hk':k'≤29000):Calls Tryz.prog 34 #[.agg #[.bool n,.slice A len cap],.agg #[.bool m,.slice A' len' cap']] w fun e w'=>Below w.heap.size w w'∧VF (Fact.z (k+k') (z*y)) e w':=by
  refine (jl3 h h' (by omega) (by omega)).mono ?_;rintro e w' ⟨hb,h9⟩;exact ⟨hb,VF.z h9 (j0x h.lt h'.lt)⟩
theorem j4s (h:Q w k n A len cap z) (hk:k≤29000) (hx0:0≤x) (hx1:x≤8000):Calls Tryz.prog 69 #[.agg #[.bool n,.slice A len cap],.int .i64 x] w fun e w'=>Below w.heap.size w w'∧VF (Fact.z (k+(x.toNat / 64+1)) (z*2^x.toNat)) e w':=by
  obtain ⟨c,rfl⟩:=Int.eq_ofNat_of_zero_le hx0;refine (jig h (by omega) c (by omega)).mono ?_;rintro e w' ⟨hb,h9⟩;exact ⟨hb,VF.z h9 (j01 c h.lt)⟩
theorem j4t (h:Q w k n A len cap z) (hk:k≤29000) (hx0:0≤x) (hx1:x≤8000):Calls Tryz.prog 99 #[.agg #[.bool n,.slice A len cap],.int .i64 x] w fun e w'=>Below w.heap.size w w'∧VF (Fact.z k (z / 2^x.toNat)) e w':=by
  obtain ⟨c,rfl⟩:=Int.eq_ofNat_of_zero_le hx0;refine (jyf h (by omega) c (by omega)).mono ?_;rintro e w' ⟨hb,h9⟩;exact ⟨hb,VF.z h9 (j0y c h.lt)⟩
theorem jwj (h:Q w k n A len cap z) (h':Q w k' m A' len' cap' y) (hk:k≤29000) (hk':k'≤29000) (hy:y≠0):Calls Tryz.prog 72 #[.agg #[.bool n,.slice A len cap],.agg #[.bool m,.slice A' len' cap']] w fun e w'=>Below w.heap.size w w'∧VF (Fact.t3 (Fact.z k (z / y)) (Fact.z k' (z%y)) (Fact.eq (.bool true))) e w':=by
  refine (jh2 h h' (by omega) (by omega) hy).mono ?_;rintro e w' ⟨hb,h9⟩;exact ⟨hb,VF.zzt h9 (j0z hy h.lt) (j00 hy h'.lt)⟩
theorem v_up (h:Q w k n A len cap z) (h':Q w k' m A' len' cap' y) (hk:k≤29000) (hk':k'≤29000) (hy:y≠0):Calls Tryz.prog 233 #[.agg #[.bool n,.slice A len cap],.agg #[.bool m,.slice A' len' cap']] w fun e w'=>Below w.heap.size w w'∧VF (Fact.t2 (Fact.z k (vUp z y)) (Fact.eq (.bool true))) e w':=by
  refine (jcb h h' (by omega) (by omega) hy (Nat.lt_of_lt_of_le (jdj hy (by rw [Int.natAbs_neg];exact h.lt)) (jdc (by omega)))).mono ?_;rintro e w' ⟨hb,h9⟩;exact ⟨hb,VF.zt h9 (j13 hy h.lt)⟩
theorem j3v (h:Q w k n A len cap z) (hk:k≤29000):Calls Tryz.prog 30 #[.agg #[.bool n,.slice A len cap]] w fun e w'=>Below w.heap.size w w'∧VF (Fact.eq (.int .i64 z.sign)) e w':=by
  refine (jmo h (by omega)).mono ?_;rintro e w' ⟨hb,h9⟩;exact ⟨hb,VF.eq h9⟩
theorem j4u (h:Q w k n A len cap z) (h':Q w k' m A' len' cap' y) (hk:k≤29000) (hk':k'≤29000):Calls Tryz.prog 36 #[.agg #[.bool n,.slice A len cap],.agg #[.bool m,.slice A' len' cap']] w fun e w'=>Below w.heap.size w w'∧VF (Fact.eq (.int .i64 (cmpZ z y))) e w':=by
  refine (jn2 h h' (by omega) (by omega)).mono ?_;rintro e w' ⟨hb,h9⟩;exact ⟨hb,VF.eq h9⟩
end
end
end
section
section
open Go.RowKit
open L (val dig nth)
theorem sZ {α:Type} {d x:α} {l:List α}:(x::l).getD 0 d=x:=List.getD_cons_zero
theorem sS {α:Type} {d x:α} {l:List α} {n:Nat}:(x::l).getD (n+1) d=l.getD n d:=List.getD_cons_succ
theorem fC {α β:Type} {f:β→α→β} {b:β} {a:α} {l:List α}:List.foldl f b (a::l)=List.foldl f (f b a) l:=List.foldl_cons ..
theorem fN {α β:Type} {f:β→α→β} {b:β}:List.foldl f b ([]:List α)=b:=List.foldl_nil ..
theorem tA {α:Type} {l:List α} {i:Nat} {a:α}:l.toArray.setIfInBounds i a=(l.set i a).toArray:=List.setIfInBounds_toArray ..
theorem cS {α:Type} {a b:α} {l:List α} {n:Nat}:(a::l).set (n+1) b=a::l.set n b:=List.set_cons_succ
theorem cZ {α:Type} {a b:α} {l:List α}:(a::l).set 0 b=b::l:=List.set_cons_zero
theorem zy:(∀p:Prop,Shut p=p)∧(∀p:Prop,Kept p=p)∧(∀(Fs:List Fact) (i:Nat),F2.fc Fs i=Fs.getD i Fact.any)∧
    (∀(a:Act) (ds:List Nat) (v:Nat→Value),actv a ds v={ a with tmps:=fill a.tmps ds v })∧(∀(t:Array Value) (ds:List Nat) (v:Nat→Value),fill t ds v=ds.foldl (fun t d=>t.setIfInBounds d (v d)) t)∧
    (∀(a:Act) (d:Tmp) (v:Value),a.put (some d) v={ a with tmps:=a.tmps.setIfInBounds d v })∧(∀(a:Act) (v:Value),a.put none v=a)∧
    (∀{α:Type} {d x:α} {l:List α},(x::l).getD 0 d=x)∧(∀{α:Type} {d x:α} {l:List α} {n:Nat},(x::l).getD (n+1) d=l.getD n d)∧
    (∀{α β:Type} {f:β→α→β} {b:β} {a:α} {l:List α},List.foldl f b (a::l)=List.foldl f (f b a) l)∧(∀{α β:Type} {f:β→α→β} {b:β},List.foldl f b ([]:List α)=b)∧
    (∀{α:Type} {l:List α} {i:Nat} {a:α},l.toArray.setIfInBounds i a=(l.set i a).toArray)∧(∀{α:Type} {a b:α} {l:List α} {n:Nat},(a::l).set (n+1) b=a::l.set n b)∧(∀{α:Type} {a b:α} {l:List α},(a::l).set 0 b=b::l):=
  ⟨fun p=>rfl,fun p=>propext ⟨fun h=>h.out,fun h=>⟨h⟩⟩,fun _ _=>rfl,fun _ _ _=>rfl,fun _ _ _=>rfl,fun _ _ _=>rfl,fun _ _=>rfl,sZ,sS,fC,fN,tA,cS,cZ⟩
theorem zB {B:Nat} {w:World}:Below B w w:=Below.refl _ _
theorem nB {b:Bool}:∀x:Int,Value.bool b≠.int .u64 x:=by intro x h;cases h
theorem nS {A:Option Addr} {l c:Nat}:∀x:Int,Value.slice A l c≠.int .u64 x:=by intro x h;cases h
theorem nI {y:Int}:∀x:Int,Value.int .i64 y≠.int .u64 x:=by intro x h;cases h
theorem zM {a b:Nat} {l:List Nat} (h:a≠b) (k:a∉l):a∉b::l:=List.not_mem_cons_of_ne_of_not_mem h k
theorem zN {a:Nat}:a∉([]:List Nat):=by simp
theorem zA {p:Nat→Prop} {a:Nat} {l:List Nat} (h:p a) (k:∀x∈l,p x):∀x∈a::l,p x:=List.forall_mem_cons.2 ⟨h,k⟩
theorem zE {p:Nat→Prop}:∀x∈([]:List Nat),p x:=by simp
theorem F2.nost {Ks:List F2.Kd} {j:Nat} (h:(Ks.all fun k=>match k with | .st i=>i != j | _=>true)=true):∀s,F2.kd Ks s≠.st j:=by
  intro s hs;unfold F2.kd at hs;rw [List.getD_eq_getElem?_getD] at hs
  cases hx:Ks[s]? with
  | none=>rw [hx] at hs;cases hs
  | some k=>
    rw [hx] at hs;have:k=.st j:=hs;subst this;have:=List.all_eq_true.1 h _ (List.mem_of_getElem? hx);simp at this
theorem Q.up {w:World} {k k':Nat} {n:Bool} {A:Option Addr} {len cap:Nat} {z:Int} (h:Q w k n A len cap z) (hk:k≤k'):Q w k' n A len cap z:=by
  obtain ⟨d,h1,h2,h3⟩:=h;exact ⟨d,h1,Nat.le_trans h2 hk,h3⟩
theorem Q.nil (w:World) (k:Nat) (n:Bool) (cap:Nat):Q w k false none 0 0 0:=by
  obtain ⟨d,h1,h2,h3⟩:=(QB.zero w 0 k).q;exact ⟨d,h1,h2,h3⟩
theorem Low.step {X Y:List Nat} {a b c:World} (h:Low X a b) (k:Low Y b c) (hY:∀g∈Y,g∈X∨a.heap.size≤g):Low X a c:=by
  refine ⟨k.os.trans h.os,k.tape.trans h.tape,k.output.trans h.output,Nat.le_trans h.size k.size,fun i hi hX=>(k.block i (Nat.lt_of_lt_of_le hi h.size) (fun hm=>?_)).trans (h.block i hi hX),h.ext.trans k.ext⟩
  rcases hY i hm with h1 | h1
  · exact hX h1
  · omega
theorem Fact.cast {F G:Fact} {w:World} {u:Value} (h:F.holds w u) (e:F=G):G.holds w u:=e ▸ h
theorem Fact.z_mk {w:World} {k:Nat} {z:Int} {n:Bool} {A:Option Addr} {l c:Nat} (h:QB w 0 k n A l c z):(Fact.z k z).holds w (.agg #[.bool n,.slice A l c]):=⟨_,_,_,_,rfl,h⟩
theorem Fact.t3_mk {F G H:Fact} {w:World} {a b c:Value} (h:F.holds w a) (h1:G.holds w b) (h2:H.holds w c):(Fact.t3 F G H).holds w (.tuple #[a,b,c]):=⟨_,_,_,rfl,h,h1,h2⟩
theorem Fact.eq_self (c:Value) (w:World):(Fact.eq c).holds w c:=rfl
def TV3 (F G H:Fact) (w:World) (u:Value):Prop:=∃a b c,u=.tuple #[a,b,c]∧F.holds w a∧G.holds w b∧H.holds w c
def jt8 (k0:Nat) (x0:Int) (k1:Nat) (x1:Int) (w:World) (u:Value):Prop:=∃n0 A0 l0 c0 n1 A1 l1 c1,u=.agg #[.bool n0,.slice A0 l0 c0,.bool n1,.slice A1 l1 c1]∧Q w k0 n0 A0 l0 c0 x0∧Q w k1 n1 A1 l1 c1 x1
def Fact.s_zz (k0:Nat) (x0:Int) (k1:Nat) (x1:Int):Fact:=⟨jt8 k0 x0 k1 x1,fun ⟨n0,A0,l0,c0,n1,A1,l1,c1,h,h0,h1⟩ he=>⟨n0,A0,l0,c0,n1,A1,l1,c1,h,h0.ext he,h1.ext he⟩⟩
theorem Fact.s_zz_mk {w:World} {k0:Nat} {x0:Int} {k1:Nat} {x1:Int} {n0:Bool} {A0:Option Addr} {l0 c0:Nat} {n1:Bool} {A1:Option Addr} {l1 c1:Nat} (h0:Q w k0 n0 A0 l0 c0 x0) (h1:Q w k1 n1 A1 l1 c1 x1):(Fact.s_zz k0 x0 k1 x1).holds w (.agg #[.bool n0,.slice A0 l0 c0,.bool n1,.slice A1 l1 c1]):=⟨_,_,_,_,_,_,_,_,rfl,h0,h1⟩
theorem Blk.one {w:World} {g:Nat} {t:TypeId} {a:Value} (h:Blk w g t #[a]) :
    w.cell? ⟨g,0,none⟩=some a∧w.frozen? ⟨g,0,none⟩=false:=
  ⟨h.cell 0,h.frozen 0⟩
theorem NoU.one {a:Value} (ha:∀x:Int,a≠.int .u64 x):NoU #[a]:=by
  intro i x h
  match i with
  | 0=>exact ha x (Option.some.inj h)
  | k+1=>simp at h
theorem Blk.four {w:World} {g:Nat} {t:TypeId} {a b c d:Value} (h:Blk w g t #[a,b,c,d]) :
    w.cell? ⟨g,0,none⟩=some a∧w.cell? ⟨g,1,none⟩=some b∧w.cell? ⟨g,2,none⟩=some c∧w.cell? ⟨g,3,none⟩=some d∧w.frozen? ⟨g,0,none⟩=false∧w.frozen? ⟨g,1,none⟩=false∧w.frozen? ⟨g,2,none⟩=false∧w.frozen? ⟨g,3,none⟩=false:=
  ⟨h.cell 0,h.cell 1,h.cell 2,h.cell 3,h.frozen 0,h.frozen 1,h.frozen 2,h.frozen 3⟩
theorem NoU.four {a b c d:Value} (ha:∀x:Int,a≠.int .u64 x) (hb:∀x:Int,b≠.int .u64 x) (hc:∀x:Int,c≠.int .u64 x) (hd:∀x:Int,d≠.int .u64 x):NoU #[a,b,c,d]:=by
  intro i x h
  match i with
  | 0=>exact ha x (Option.some.inj h)
  | 1=>exact hb x (Option.some.inj h)
  | 2=>exact hc x (Option.some.inj h)
  | 3=>exact hd x (Option.some.inj h)
  | k+4=>simp at h
end
end
section
section
open Go.RowKit
namespace F4
structure FactW where
  holds:World→Value→Prop
  stab:∀{w w':World} {u:Value},holds w u→Below w.heap.size w w'→holds w' u
def FactW.any:FactW:=⟨fun _ _=>True,fun _ _=>trivial⟩
def FactW.of (F:Fact):FactW:=⟨F.holds,fun h hb=>F.stab h (jau hb)⟩
theorem FactW.cast {F G:Fact} {w:World} {u:Value} (h:F.holds w u) (e:FactW.of F=FactW.of G):(FactW.of G).holds w u:=by
  have:(FactW.of F).holds w u:=h;rw [e] at this;exact this
section
variable (P:Program) (md:Region.Mode) (ops:Array Oper) (Q:Exit→Act→World→Prop) (N:List Bool) (Fs:List FactW) (ds ix:List Nat) (a0:Act) (w0:World)
def inN (i:Nat):Bool:=N.getD i false
def fw (i:Nat):FactW:=Fs.getD i FactW.any
def dd (i:Nat):Nat:=ix.getD i 0
def chk:Bool:=
  (List.range ops.size).all fun i=>match ops[i]? with
    | none=>false
    | some o=>!inN N i || (match o.dst with
        | none=>false
        | some d=>ds.contains d && decide (d<a0.tmps.size) && (ix.getD i 0 == d) && (List.range ops.size).all fun j=>i == j || !inN N j || dd ix j != d)
def StepN (i:Nat) (o:Oper):Prop:=
  ∀(v:Nat→Value) (w:World),Below w0.heap.size w0 w→(∀j,F2.depB md o j=true→inN N j=true→(fw Fs j).holds w (v (dd ix j)))→
    ∀K:Act→World→Prop,Shut (∀u w',Below w.heap.size w w'→(fw Fs i).holds w' u→K ((actv a0 ds v).put o.dst u) w')→Kept (F2.Wp P ops Q o (actv a0 ds v) w K)
def Steps:Nat→List Oper→Prop
  | _,[]=>True
  | i,o::os=>(inN N i=true→StepN P md ops Q N Fs ds ix a0 w0 i o)∧Steps (i+1) os
variable {P md ops Q N Fs ds ix a0 w0}
theorem Steps.at_:∀{os:List Oper} {n:Nat},Steps P md ops Q N Fs ds ix a0 w0 n os→∀(i:Nat) (o:Oper),os[i]? = some o→inN N (n+i)=true→StepN P md ops Q N Fs ds ix a0 w0 (n+i) o
  | [],_,_,i,o,h=>by simp at h
  | o'::os,n,hs,0,o,h=>by
    simp at h;subst h;exact hs.1
  | o'::os,n,hs,i+1,o,h=>by
    have:=Steps.at_ hs.2 i o (by simpa using h);rw [show n+(i+1)=n+1+i by omega];exact this
theorem Steps.nil {n:Nat}:Steps P md ops Q N Fs ds ix a0 w0 n []:=trivial
theorem Steps.yes {n:Nat} {o:Oper} {os:List Oper} (h:StepN P md ops Q N Fs ds ix a0 w0 n o) (hs:Steps P md ops Q N Fs ds ix a0 w0 (n+1) os):Steps P md ops Q N Fs ds ix a0 w0 n (o::os):=⟨fun _=>h,hs⟩
theorem Steps.no {n:Nat} {o:Oper} {os:List Oper} (hn:inN N n=false) (hs:Steps P md ops Q N Fs ds ix a0 w0 (n+1) os):Steps P md ops Q N Fs ds ix a0 w0 n (o::os):=⟨fun h=>(by rw [hn] at h;cases h),hs⟩
structure Inv (L0 listed:Array Bool) (v:Nat→Value) (w:World):Prop where
  lsz:listed.size=ops.size
  sub:∀i,listed.getD i false=true→L0.getD i false=true∨inN N i=true
  sup:∀i,L0.getD i false=true→listed.getD i false=true
  closed:∀i o,ops[i]? = some o→listed.getD i false=true→∀j,F2.depB md o j=true→listed.getD j false=true
  low:Below w0.heap.size w0 w
  fo:∀i,i<ops.size→listed.getD i false=true→inN N i=true→(fw Fs i).holds w (v (dd ix i))
def tailOk (md:Region.Mode) (ops:Array Oper) (N:List Bool) (L0:Array Bool):Bool:=
  (List.range ops.size).all fun i=>L0.getD i false || inN N i || (List.range ops.size).all fun j=>!inN N j || F2.ancB md ops ops.size i j
def apart (ops:Array Oper) (N:List Bool) (L0:Array Bool):Bool:=(List.range ops.size).all fun i=>!(L0.getD i false && inN N i)
def back (md:Region.Mode) (ops:Array Oper):Bool:=(List.range ops.size).all fun i=>match ops[i]? with | none=>false | some o=>o.after.all fun e=>!Region.binds md e || decide (e.on<i)
theorem jl0 {md:Region.Mode} {ops:Array Oper} (h:back md ops=true):∀i o,ops[i]? = some o→∀j,F2.depB md o j=true→j<i:=fun i o ho j hj=>by
  obtain ⟨e,he,hb⟩:=Array.any_eq_true'.1 hj;simp only [Bool.and_eq_true,beq_iff_eq] at hb;have h1:=List.all_eq_true.1 h i (List.mem_range.2 (Array.getElem?_eq_some_iff.1 ho).1);rw [ho] at h1;have h2:=Array.all_eq_true'.1 h1 e he;rw [hb.1,hb.2] at h2
  simpa using h2
theorem all_listed {md:Region.Mode} {ops:Array Oper} (hb:∀i o,ops[i]? = some o→∀j,F2.depB md o j=true→j<i) {listed:Array Bool} (hsz:listed.size=ops.size) (hr:Region.ready md ops listed=[]):∀(i:Nat),i<ops.size→listed.getD i false=true:=by
  intro i
  induction i using Nat.strongRecOn with
  | _ i ih=>
    intro hi
    cases hl:listed.getD i false with
    | true=>rfl
    | false=>
      have ho:ops[i]? = some ops[i]:=Array.getElem?_eq_getElem hi
      have:i∈Region.ready md ops listed:=by
        refine mem_ready.2 ⟨?_,_,ho,fun e he hbd=>?_⟩
        · have hlt:i<listed.size:=by omega
          simp [hlt] at hl ⊢;exact hl
        · have hd:F2.depB md ops[i] e.on=true:=Array.any_eq_true'.2 ⟨e,he,by simp [hbd]⟩
          have hlt:=hb i _ ho e.on hd;exact ih e.on hlt (by omega)
      rw [hr] at this
      cases this
def L1 (ops:Array Oper) (N:List Bool) (L0:Array Bool):Array Bool:=((List.range ops.size).map fun i=>L0.getD i false || inN N i).toArray
theorem step (hs:Steps P md ops Q N Fs ds ix a0 w0 0 ops.toList) (hc:chk ops N ds ix a0=true) {L0 listed:Array Bool} {v:Nat→Value} {w:World} (hd0:∀i,inN N i=true→L0.getD i false=false)
    (hI:Inv (md:=md) (ops:=ops) (N:=N) (Fs:=Fs) (ix:=ix) (w0:=w0) L0 listed v w) {i:Nat} (hr:i∈Region.ready md ops listed) (hN:inN N i=true) (hdepN:∀o,ops[i]? = some o→∀j,F2.depB md o j=true→j<ops.size) :
    wpOp P ops Q i (fun a' w'=>∃v',a'=actv a0 ds v'∧Inv (md:=md) (ops:=ops) (N:=N) (Fs:=Fs) (ix:=ix) (w0:=w0) L0 (listed.setIfInBounds i true) v' w') (actv a0 ds v) w:=by
  obtain ⟨hun,o,ho,hall⟩:=mem_ready.1 hr;have hi:i<ops.size:=(Array.getElem?_eq_some_iff.1 ho).1;have hun':=notlisted hun
  have hdep:∀j,F2.depB md o j=true→listed.getD j false=true:=fun j hj=>by
    obtain ⟨e,he,hb⟩:=Array.any_eq_true'.1 hj;simp only [Bool.and_eq_true,beq_iff_eq] at hb;have:=hall e he hb.1;rw [hb.2] at this;exact this
  have h0:=List.all_eq_true.1 hc i (List.mem_range.2 hi);rw [ho] at h0;simp only [hN,Bool.not_true,Bool.false_or] at h0
  cases hdst:o.dst with
  | none=>rw [hdst] at h0;cases h0
  | some d=>
    rw [hdst] at h0;simp only [Bool.and_eq_true,decide_eq_true_eq] at h0;obtain ⟨⟨⟨g1,g2⟩,g3⟩,g4⟩:=h0;have g1':d∈ds:=by simpa using g1
    have g3':dd ix i=d:=by simpa [dd] using g3
    have hK:StepN P md ops Q N Fs ds ix a0 w0 i o:=by
      have:=hs.at_ i o (by rw [Array.getElem?_toList];exact ho);rw [Nat.zero_add] at this;exact this hN
    refine wpOp_step ho (fun K' hK'=>?_);refine (hK v w hI.low (fun j hj hjN=>hI.fo j (hdepN o ho j hj) (hdep j hj) hjN) K' (fun u w' hb hf=>hK' _ _ ?_)).out;refine ⟨fun x=>if x=d then u else v x,?_,by simpa using hI.lsz,fun j hj=>?_,fun j hj=>set_true (hI.sup j hj),fun k o' hk hl j hj=>?_,hI.low.trans (hb.mono hI.low.size),fun j hj hl hjN=>?_⟩
    · rw [hdst];exact jfc a0 ds v d u g1' g2
    · rcases set_of_true hj with rfl | h
      · exact .inr hN
      · exact hI.sub j h
    · rcases set_of_true hl with rfl | h
      · rw [ho] at hk
        cases hk
        exact set_true (hdep j hj)
      · exact set_true (hI.closed k o' hk h j hj)
    · by_cases hji:j=i
      · subst hji
        show (fw Fs j).holds w' (if dd ix j=d then u else v (dd ix j))
        rw [if_pos g3'];exact hf
      · have hl':listed.getD j false=true:=by
          rcases set_of_true hl with h | h
          · exact absurd h hji
          · exact h
        have hne:dd ix j≠d:=by
          have:=List.all_eq_true.1 g4 j (List.mem_range.2 hj);simp only [hjN,Bool.not_true,Bool.or_false,Bool.or_eq_true,beq_iff_eq,bne_iff_ne] at this
          rcases this with h | h
          · exact absurd h.symm hji
          · exact h
        show (fw Fs j).holds w' (if dd ix j=d then u else v (dd ix j))
        rw [if_neg hne];exact (fw Fs j).stab (hI.fo j hj hl' hjN) hb
theorem phase (hs:Steps P md ops Q N Fs ds ix a0 w0 0 ops.toList) (hc:chk ops N ds ix a0=true) {L0:Array Bool} (hap:apart ops N L0=true) (ht:tailOk md ops N L0=true) (hbk:back md ops=true) (hNl:N.length≤ops.size) (m:Nat) (hm:((L1 ops N L0).toList.filter (! ·)).length=m)
    (fin:∀v w f,Below w0.heap.size w0 w→(∀i,i<ops.size→inN N i=true→(fw Fs i).holds w (v (dd ix i)))→wpAny P md ops Q (f+m) (L1 ops N L0) (actv a0 ds v) w) :
    ∀(fuel:Nat) (listed:Array Bool) (v:Nat→Value) (w:World),(listed.toList.filter (! ·)).length≤fuel→Inv (md:=md) (ops:=ops) (N:=N) (Fs:=Fs) (ix:=ix) (w0:=w0) L0 listed v w→wpAny P md ops Q fuel listed (actv a0 ds v) w:=by
  have hlt:∀i,inN N i=true→i<ops.size:=fun i h=>by
    unfold inN at h
    rcases Nat.lt_or_ge i N.length with h1 | h1
    · omega
    · rw [List.getD_eq_getElem?_getD,List.getElem?_eq_none h1] at h;cases h
  have hd0:∀i,inN N i=true→L0.getD i false=false:=fun i h=>by
    have:=List.all_eq_true.1 hap i (List.mem_range.2 (hlt i h));rw [h,Bool.and_true] at this
    cases hx:L0.getD i false with
    | false=>rfl
    | true=>rw [hx] at this;cases this
  have hdepN:∀i o,ops[i]? = some o→∀j,F2.depB md o j=true→j<ops.size:=fun i o ho j hj=>Nat.lt_trans (jl0 hbk i o ho j hj) (Array.getElem?_eq_some_iff.1 ho).1
  have lenset:∀(l:List Bool) (i:Nat),l[i]? = some false→((l.set i true).filter (! ·)).length+1=(l.filter (! ·)).length:=by
    intro l
    induction l with
    | nil=>intro i h;simp at h
    | cons b l ih=>
      intro i h
      match i with
      | 0=>
        simp at h;subst h;simp
      | n+1=>
        have:=ih n (by simpa using h)
        cases b <;> simp [List.set] <;> omega
  have full:∀(listed:Array Bool) (v:Nat→Value) (w:World) (fuel:Nat),Inv (md:=md) (ops:=ops) (N:=N) (Fs:=Fs) (ix:=ix) (w0:=w0) L0 listed v w→(listed.toList.filter (! ·)).length≤fuel→
      (∀i,i<ops.size→inN N i=true→listed.getD i false=true)→wpAny P md ops Q fuel listed (actv a0 ds v) w:=fun listed v w fuel hI hf hall=>by
    have e:listed=L1 ops N L0:=by
      apply Array.ext
      · rw [hI.lsz];simp [L1]
      · intro i h1 h2
        have h3:i<ops.size:=by rw [←hI.lsz];exact h1
        have h4:(L1 ops N L0)[i]=(L0.getD i false || inN N i):=by simp [L1]
        rw [h4];have h5:listed.getD i false=listed[i]:=by simp [h1]
        cases hx:(L0.getD i false || inN N i) with
        | true=>
          rw [Bool.or_eq_true] at hx;rw [←h5]
          rcases hx with hx | hx
          · exact hI.sup i hx
          · exact hall i h3 hx
        | false=>
          rw [Bool.or_eq_false_iff] at hx;rw [←h5]
          cases hy:listed.getD i false with
          | false=>rfl
          | true=>
            rcases hI.sub i hy with h | h
            · rw [hx.1] at h;cases h
            · rw [hx.2] at h;cases h
    subst e;obtain ⟨f,rfl⟩:∃f,fuel=f+m:=⟨fuel - m,by omega⟩;exact fin v w f hI.low fun i hi hN=>hI.fo i hi (hall i hi hN) hN
  intro fuel
  induction fuel with
  | zero=>
    intro listed v w hf hI;refine full listed v w 0 hI hf fun i hi _=>?_
    cases hx:listed.getD i false with
    | true=>rfl
    | false=>
      have h1:i<listed.size:=by rw [hI.lsz];exact hi
      have:listed.toList[i]? = some false:=by
        rw [Array.getElem?_toList,Array.getElem?_eq_getElem h1]
        simpa [h1] using hx
      have:=lenset _ _ this
      omega
  | succ fuel ih=>
    intro listed v w hf hI
    by_cases hall:∀i,i<ops.size→inN N i=true→listed.getD i false=true
    · exact full listed v w _ hI hf hall
    · refine ⟨fun h0=>absurd (fun i hi _=>all_listed (jl0 hbk) hI.lsz h0 i hi) hall,fun i hi=>?_⟩
      obtain ⟨hun,o,ho,hdl⟩:=mem_ready.1 hi
      have hdep:∀j,F2.depB md o j=true→listed.getD j false=true:=fun j hj=>by
        obtain ⟨e,he,hb⟩:=Array.any_eq_true'.1 hj;simp only [Bool.and_eq_true,beq_iff_eq] at hb;have:=hdl e he hb.1;rw [hb.2] at this;exact this
      have hiN:inN N i=true:=by
        cases hT:inN N i with
        | true=>rfl
        | false=>
          refine absurd (fun j hj hjN=>?_) hall;have h1:=List.all_eq_true.1 ht i (List.mem_range.2 (Array.getElem?_eq_some_iff.1 ho).1);rw [hT,Bool.or_false,Bool.or_eq_true] at h1
          rcases h1 with h1 | h1
          · have h2:=hI.sup i h1
            have h3:=notlisted hun;rw [h2] at h3;cases h3
          · have h2:=List.all_eq_true.1 h1 j (List.mem_range.2 hj)
            rw [hjN,Bool.not_true,Bool.false_or] at h2;exact F2.anc_listed hI.closed ops.size i j (fun o' ho' k hk=>by rw [ho] at ho';cases ho';exact hdep k hk) h2
      refine wpOp_mono ?_ (step hs hc hd0 hI hi hiN (fun o' ho' j hj=>hdepN i o' ho' j hj));rintro a' w' ⟨v',rfl,hI'⟩;refine ih _ v' w' ?_ hI'
      have:listed.toList[i]? = some false:=by
        rw [Array.getElem?_toList];simp only [Array.getD_eq_getD_getElem?] at hun
        cases hx:listed[i]? with
        | none=>rw [hx] at hun;cases hun
        | some b=>rw [hx] at hun;simp at hun;rw [hun]
      have:=lenset _ _ this;rw [Array.toList_setIfInBounds]
      omega
end
theorem region {P:Program} {id:Nat} {ops:Array Oper} {Q:Exit→Act→World→Prop} {a0:Act} {w:World} (N:List Bool) (Fs:List FactW) (ds ix:List Nat) (m:Nat) (hm:P.follows .mixedOrders=true)
    (hc:chk ops N ds ix a0=true) (ht:tailOk .any ops N #[]=true) (hbk:back .any ops=true) (hNl:N.length≤ops.size) (hml:((L1 ops N #[]).toList.filter (! ·)).length=m)
    (hs:Steps P .any ops Q N Fs ds ix a0 w.drew 0 ops.toList)
    (fin:∀v w' f,Below w.heap.size w w'→(∀i,i<ops.size→inN N i=true→(fw Fs i).holds w' (v (dd ix i)))→wpAny P .any ops Q (f+m) (L1 ops N #[]) (actv a0 ds v) w'):(Code.region id ops true).wp P Q a0 w:=by
  refine wp_region_any hm ?_
  have h:=phase (w0:=w.drew) (L0:=#[]) hs hc (by simp [apart]) ht hbk hNl m hml (fun v w' f hb hf=>fin v w' f ⟨hb.os,hb.tape,hb.output,hb.size,hb.block⟩ hf) ops.size (Array.replicate ops.size false) (fun d=>a0.tmps.getD d undef) w.drew (by simp)
    ⟨by simp,fun i hl=>?_,fun i hl=>?_,fun i o ho hl=>?_,Below.refl _ _,fun i hi hl=>?_⟩
  · unfold actv at h
    rw [jfd] at h;exact h
  all_goals
    exfalso
    first
      | (simp at hl;done)
      | (simp only [Array.getD_eq_getD_getElem?,Array.getElem?_replicate] at hl
         split at hl <;> cases hl)
end F4
end
end
section
section
def sq (f:Nat→Int→Int) (x:Int):Nat→Int
  | 0=>x
  | k+1=>f (k+1) (sq f x k)
def su (a:Nat→Int):Nat→Int
  | 0=>0
  | k+1=>su a k+a k
def tu (a b:Nat→Int):Nat→Int
  | 0=>0
  | k+1=>if k%2=1 then tu a b k - b k else tu a b k+a k
theorem jf8 {a b:Nat→Int} {k:Nat} (h:k%2=1):tu a b (k+1)=tu a b k - b k:=if_pos h
theorem jf9 {a b:Nat→Int} {k:Nat} (h:¬ k%2=1):tu a b (k+1)=tu a b k+a k:=if_neg h
theorem j03 (a b:Nat→Int) (n:Nat):tu a b (2*n+1)=tu a b (2*n)+a (2*n):=jf9 (by omega)
theorem j3w (a b:Nat→Int) (n:Nat):tu a b (2*n+2)=tu a b (2*n+1) - b (2*n+1):=jf8 (k:=2*n+1) (by omega)
theorem jt9 {z y:Int} (h:0<y):vUp z y = -((-z) / y):=by
  unfold vUp vDown;rw [if_neg (by omega)]
theorem jye {z y:Int} (h:0<y):z≤vUp z y*y:=by
  rw [jt9 h];have:=Int.ediv_mul_le (-z) (b:=y) (by omega);rw [Int.neg_mul]
  omega
theorem jua {z y c:Int} (h:0<y) (hz:z≤c*y):vUp z y≤c:=by
  rw [jt9 h]
  have : -c≤(-z) / y:=by
    rw [Int.le_ediv_iff_mul_le h,Int.neg_mul]
    omega
  omega
theorem j3x {z y c:Int} (h:0<y) (hz:c*y≤z):c≤vUp z y:=by
  have:=jye (z:=z) h;exact Int.le_of_mul_le_mul_right (Int.le_trans hz this) h
theorem jix {x z y:Int} (h:0<y) (hxz:x≤z):x / y≤vUp z y:=
  j3x h (Int.le_trans (Int.ediv_mul_le x (by omega)) hxz)
theorem jwk {d:Nat→Int} {T x:Int} (hd:∀k,0<d (k+1)) (hT:0≤T) (hx:0≤x):∀k,0≤sq (fun y x=>x*T / d y) x k∧sq (fun y x=>x*T / d y) x k≤sq (fun y x=>vUp (x*T) (d y)) x k
  | 0=>⟨hx,Int.le_refl _⟩
  | k+1=>by
    obtain ⟨e1,e2⟩:=jwk hd hT hx k;have e3:=hd k;refine ⟨?_,?_⟩
    · exact Int.ediv_nonneg (Int.mul_nonneg e1 hT) (by omega)
    · exact jix e3 (Int.mul_le_mul_of_nonneg_right e2 hT)
theorem jl1 {d:Nat→Int} {T x:Int} (hd:∀k,0<d (k+1)) (hT:∀k,T≤2*d (k+1)) (hT0:0≤T) (hx:0≤x):∀k,sq (fun y x=>vUp (x*T) (d y)) x k≤x*2^k
  | 0=>by show x≤x*2^0;omega
  | k+1=>by
    have e0:=jl1 hd hT hT0 hx k;obtain ⟨e1,e2⟩:=jwk hd hT0 hx k
    show vUp (sq _ x k*T) (d (k+1))≤_
    generalize sq (fun y x=>vUp (x*T) (d y)) x k=z at *
    have e3:=hd k;refine jua e3 ?_;have e5:z*T≤z*(2*d (k+1)):=Int.mul_le_mul_of_nonneg_left (hT k) (by omega);have e6:z*2*d (k+1)≤x*2^k*2*d (k+1):=Int.mul_le_mul_of_nonneg_right (by omega) (by omega);rw [show x*2^(k+1)=x*2^k*2 by rw [Int.pow_succ,Int.mul_assoc]];rw [←Int.mul_assoc] at e5
    omega
theorem jub {b:Nat→Int} {x:Int} (h0:∀k,0≤b k) (h:∀k,b k≤x*2^k) (hx:0≤x):∀n,0≤su b n∧su b n≤x*2^n
  | 0=>⟨Int.le_refl _,Int.mul_nonneg hx (Int.le_of_lt (Int.pow_pos (by omega)))⟩
  | n+1=>by
    obtain ⟨e1,e2⟩:=jub h0 h hx n;have e3:=h0 n;have e4:=h n;rw [Int.pow_succ,←Int.mul_assoc]
    show 0≤su b n+b n∧su b n+b n≤_
    omega
theorem juc {a b:Nat→Int} {x:Int} (h0:∀k,0≤a k) (h0':∀k,0≤b k) (h:∀k,a k≤x*2^k) (h':∀k,b k≤x*2^k) (hx:0≤x):∀n,-(x*2^n)≤tu a b n∧tu a b n≤x*2^n
  | 0=>by
    have:0≤x*2^0:=Int.mul_nonneg hx (Int.le_of_lt (Int.pow_pos (by omega)))
    show -(x*2^0)≤0∧0≤x*2^0
    omega
  | n+1=>by
    obtain ⟨e1,e2⟩:=juc h0 h0' h h' hx n;have e3:=h0 n;have e4:=h n;have e5:=h0' n;have e6:=h' n;rw [Int.pow_succ,←Int.mul_assoc]
    by_cases hp:n%2=1
    · rw [jf8 hp];omega
    · rw [jf9 hp];omega
structure Lim (x:Int) (a b:Nat→Int):Prop where
  pos:∀k,0≤a k
  le:∀k,a k≤b k
  lim:∀k,b k≤x*2^k
theorem Lim.of {d:Nat→Int} {T x:Int} (hd:∀k,0<d (k+1)) (hT:∀k,T≤2*d (k+1)) (hT0:0≤T) (hx:0≤x):Lim x (sq (fun y x=>x*T / d y) x) (sq (fun y x=>vUp (x*T) (d y)) x):=
  ⟨fun k=>(jwk hd hT0 hx k).1,fun k=>(jwk hd hT0 hx k).2,jl1 hd hT hT0 hx⟩
theorem Lim.odd {x:Int} {a b:Nat→Int} (h:Lim x a b) {m:Nat→Int} (hm:∀k,0<m k):Lim x (fun y=>a y*1 / m y) (fun y=>vUp (b y*1) (m y)):=by
  refine ⟨fun k=>?_,fun k=>?_,fun k=>?_⟩
  · exact Int.ediv_nonneg (by rw [Int.mul_one];exact h.pos k) (Int.le_of_lt (hm k))
  · exact jix (hm k) (by rw [Int.mul_one,Int.mul_one];exact h.le k)
  · refine jua (hm k) ?_
    rw [Int.mul_one];have e1:=h.pos k;have e2:=h.le k;have e3:=h.lim k;have e4:=hm k;have:x*2^k*1≤x*2^k*m k:=Int.mul_le_mul_of_nonneg_left (by omega) (by omega)
    omega
theorem Lim.x0 {x:Int} {a b:Nat→Int} (h:Lim x a b):0≤x:=by
  have e1:=h.pos 0;have e2:=h.le 0;have e3:=h.lim 0;rw [Int.pow_zero] at e3
  omega
theorem jl2 {a b:Nat} (_:(0:Int)<2) (h:a≤b):(2:Int)^a≤2^b:=by
  obtain ⟨d,rfl⟩:=Nat.exists_eq_add_of_le h;rw [Int.pow_add];have h1:(0:Int)<2^a:=Int.pow_pos (by omega);have h2:(0:Int)<2^d:=Int.pow_pos (by omega);have:(2:Int)^a*1≤2^a*2^d:=Int.mul_le_mul_of_nonneg_left (by omega) (by omega)
  omega
theorem jwl {n m:Nat} (h:n<64*m):2^n<W^m:=by
  rw [show W=2^64 from rfl,←Nat.pow_mul];exact Nat.pow_lt_pow_right (by omega) h
theorem jcq {x z:Int} {i a:Nat} (ha:a+i<2560) (hx:x≤2^a) (h1 : -(x*2^i)≤z) (h2:z≤x*2^i):z.natAbs<W^40:=by
  have e2:x*2^i≤2^a*2^i:=Int.mul_le_mul_of_nonneg_right hx (Int.le_of_lt (Int.pow_pos (by omega)));rw [←Int.pow_add] at e2
  have e3:z.natAbs≤2^(a+i):=by
    have:((z.natAbs:Nat):Int)≤((2^(a+i):Nat):Int):=by
      rw [Int.natCast_pow]
      show ((z.natAbs:Nat):Int)≤(2:Int)^(a+i)
      generalize (2:Int)^(a+i)=Y at *
      omega
    exact Int.ofNat_le.1 this
  exact Nat.lt_of_le_of_lt e3 (jwl (by omega))
section
variable {x:Int} {a b:Nat→Int} (h:Lim x a b) (hx:x≤2^1203)
include h hx
theorem Lim.la:∀i,i≤802→(a i).natAbs<W^40:=fun i hi=>by
  have e1:=h.pos i;have e2:=h.le i;have e3:=h.lim i;exact jcq (a:=1203) (i:=i) (by omega) hx (by omega) (by omega)
theorem Lim.lb:∀i,i≤802→(b i).natAbs<W^40:=fun i hi=>by
  have e1:=h.pos i;have e2:=h.le i;have e3:=h.lim i;exact jcq (a:=1203) (i:=i) (by omega) hx (by omega) (by omega)
theorem Lim.sa:∀i,i≤802→(su a i).natAbs<W^40:=fun i hi=>by
  obtain ⟨e1,e2⟩:=jub h.pos (fun k=>Int.le_trans (h.le k) (h.lim k)) h.x0 i;exact jcq (a:=1203) (i:=i) (by omega) hx (by omega) (by omega)
theorem Lim.sb:∀i,i≤802→(su b i).natAbs<W^40:=fun i hi=>by
  obtain ⟨e1,e2⟩:=jub (fun k=>Int.le_trans (h.pos k) (h.le k)) h.lim h.x0 i;exact jcq (a:=1203) (i:=i) (by omega) hx (by omega) (by omega)
theorem Lim.ta:∀i,i≤802→(tu a b i).natAbs<W^40:=fun i hi=>by
  obtain ⟨e1,e2⟩:=juc h.pos (fun k=>Int.le_trans (h.pos k) (h.le k)) (fun k=>Int.le_trans (h.le k) (h.lim k)) h.lim h.x0 i;exact jcq (a:=1203) (i:=i) (by omega) hx e1 e2
theorem Lim.tb:∀i,i≤802→(tu b a i).natAbs<W^40:=fun i hi=>by
  obtain ⟨e1,e2⟩:=juc (fun k=>Int.le_trans (h.pos k) (h.le k)) h.pos h.lim (fun k=>Int.le_trans (h.le k) (h.lim k)) h.x0 i;exact jcq (a:=1203) (i:=i) (by omega) hx e1 e2
end
theorem two_pow_pos (q:Int):(0:Int)<2^q.toNat:=Int.pow_pos (by omega)
def dExp (q:Int) (y:Nat):Int:=(y:Int)*2^q.toNat
def dPow (q:Int) (y:Nat):Int:=1*2^(2*q).toNat
def dSin (q:Int) (y:Nat):Int:=(2*(y:Int)*(2*(y:Int)+1))*2^(2*q).toNat
def dCos (q:Int) (y:Nat):Int:=((2*(y:Int) - 1)*2*(y:Int))*2^(2*q).toNat
theorem jud (q:Int) (k:Nat):2^q.toNat≤dExp q (k+1):=by
  unfold dExp;have:(1:Int)*2^q.toNat≤((k+1:Nat):Int)*2^q.toNat:=Int.mul_le_mul_of_nonneg_right (by omega) (Int.le_of_lt (two_pow_pos q))
  omega
theorem jue (q:Int) (k:Nat):2^(2*q).toNat≤dPow q (k+1):=by unfold dPow;omega
theorem juf (q:Int) (k:Nat):6*2^(2*q).toNat≤dSin q (k+1):=by
  unfold dSin;refine Int.mul_le_mul_of_nonneg_right ?_ (Int.le_of_lt (two_pow_pos _));have:(2:Int)*3≤2*((k+1:Nat):Int)*(2*((k+1:Nat):Int)+1):=Int.mul_le_mul (by omega) (by omega) (by omega) (by omega)
  omega
theorem jug (q:Int) (k:Nat):2*2^(2*q).toNat≤dCos q (k+1):=by
  unfold dCos;refine Int.mul_le_mul_of_nonneg_right ?_ (Int.le_of_lt (two_pow_pos _));have:(2:Int)*1≤(2*((k+1:Nat):Int) - 1)*2*((k+1:Nat):Int):=Int.mul_le_mul (by omega) (by omega) (by omega) (by omega)
  omega
theorem j3y {q:Int} (hq:0≤q):(2:Int)^(2*q).toNat=2^q.toNat*2^q.toNat:=by
  rw [show (2*q).toNat=q.toNat+q.toNat by omega,Int.pow_add]
theorem jkc {t q y:Int} (hq:0≤q) (h0:0≤t) (h:t*2≤y*2^q.toNat):4*(t*t)≤y*y*2^(2*q).toNat:=by
  rw [j3y hq];have e1:t*2*(t*2)≤y*2^q.toNat*(y*2^q.toNat):=Int.mul_le_mul h h (by omega) (by omega)
  have e2:t*2*(t*2)=4*(t*t):=by
    calc t*2*(t*2)=t*t*(2*2):=by ac_rfl
      _=4*(t*t):=by omega
  have e3:y*2^q.toNat*(y*2^q.toNat)=y*y*(2^q.toNat*2^q.toNat):=by ac_rfl
  omega
def rA (d:Nat→Int) (T x:Int):Nat→Int:=sq (fun y x=>x*T / d y) x
def rB (d:Nat→Int) (T x:Int):Nat→Int:=sq (fun y x=>vUp (x*T) (d y)) x
def oA (a:Nat→Int) (y:Nat):Int:=a y*1 / ((2*(y:Int)+1)*2^(0:Int).toNat)
def oB (b:Nat→Int) (y:Nat):Int:=vUp (b y*1) ((2*(y:Int)+1)*2^(0:Int).toNat)
theorem j04 (y:Nat):0<(2*(y:Int)+1)*2^(0:Int).toNat:=Int.mul_pos (by omega) (by decide)
section
variable {t q:Int} (hq:0≤q) (h0:0≤t)
include h0
theorem j05 (h:t*2≤2*2^q.toNat):Lim (1*2^q.toNat) (rA (dExp q) t (1*2^q.toNat)) (rB (dExp q) t (1*2^q.toNat)):=by
  have hp:=two_pow_pos q;refine Lim.of (fun k=>?_) (fun k=>?_) h0 (by omega)
  · have:=jud q k;omega
  · have:=jud q k;omega
include hq
theorem juh (h:t*2≤1*2^q.toNat):Lim t (rA (dPow q) (t*t) t) (rB (dPow q) (t*t) t):=by
  have hp:=two_pow_pos (2*q);have hb:=jkc hq h0 h;have h1:0≤t*t:=Int.mul_nonneg h0 h0;refine Lim.of (fun k=>?_) (fun k=>?_) h1 h0
  · have:=jue q k;omega
  · have:=jue q k;omega
theorem jh1 (h:t*2≤1*2^q.toNat):Lim t (oA (rA (dPow q) (t*t) t)) (oB (rB (dPow q) (t*t) t)):=
  (juh hq h0 h).odd j04
theorem j06 (h:t*2≤4*2^q.toNat):Lim t (rA (dSin q) (t*t) t) (rB (dSin q) (t*t) t):=by
  have hp:=two_pow_pos (2*q);have hb:=jkc hq h0 h;have h1:0≤t*t:=Int.mul_nonneg h0 h0;refine Lim.of (fun k=>?_) (fun k=>?_) h1 h0
  · have:=juf q k;omega
  · have:=juf q k;omega
theorem j07 (h:t*2≤4*2^q.toNat):Lim (1*2^q.toNat) (rA (dCos q) (t*t) (1*2^q.toNat)) (rB (dCos q) (t*t) (1*2^q.toNat)):=by
  have hp:=two_pow_pos (2*q);have hp1:=two_pow_pos q;have hb:=jkc hq h0 h;have h1:0≤t*t:=Int.mul_nonneg h0 h0;refine Lim.of (fun k=>?_) (fun k=>?_) h1 (by omega)
  · have:=jug q k;omega
  · have:=jug q k;omega
end
end
end
end Go.Proofs.YtllgjggkchgpbaaGreat