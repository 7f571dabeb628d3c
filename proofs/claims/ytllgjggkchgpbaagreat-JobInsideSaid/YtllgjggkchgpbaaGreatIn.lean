/- Plain: dyads as rational numbers: rounded, in their normal form, moved; between powers of two. V: a body that was run, its answer under other names. -/
import Derived.Test.YtllgjggkchgpbaaGreatAn2
import Derived.Test.YtllgjggkchgpbaaGreatVg
import Derived.Test.YtllgjggkchgpbaaGreatVf
set_option linter.unusedVariables false
set_option linter.unusedSimpArgs false
namespace Go.Proofs.YtllgjggkchgpbaaGreat
section
section
namespace An
def rv (V:Int):Rat:=(V:Rat)*(DD ((4000:Nat):Int))⁻¹
theorem j2f (K:Nat):DD (K:Int)=(((2:Int)^K:Int):Rat):=by unfold DD;rw [Int.toNat_natCast]
theorem j2g {K:Nat} {V w:Int} (h0:0≤w):(((V*2^w.toNat / 2^K:Int)):Rat)≤(V:Rat)*(DD (K:Int))⁻¹*DD w∧(V:Rat)*(DD (K:Int))⁻¹*DD w≤(((V*2^w.toNat / 2^K:Int)):Rat)+1:=by
  have f:=fl (n:=V*2^w.toNat) (d:=2^K) (Int.pow_pos (by omega));rw [←j2f,Rat.intCast_mul] at f;have e:(((2:Int)^w.toNat:Int):Rat)=DD w:=rfl;rw [e] at f;have d:=DD_pos (K:Int);have inv:=Rat.mul_inv_cancel (DD (K:Int)) (by grind);obtain ⟨f1,f2⟩:=f
  generalize (DD (K:Int))⁻¹=i at *
  have e2:(V:Rat)*i*DD w*DD (K:Int)=(V:Rat)*DD w:=by grind
  constructor
  · refine jap d (Rat.le_trans f1 ?_)
    rw [e2];exact Rat.le_refl
  · refine jap d ?_
    rw [e2]
    grind
theorem jkz {w:Int} (h0:0≤w) (h1:w≤4000):nearZ w=w:=by unfold nearZ;omega
theorem jem {V w:Int} (h0:0≤w) (h1:w≤4000):((vFloor 4000 V (nearZ w):Int):Rat)≤rv V*DD w∧rv V*DD w≤((vFloor 4000 V (nearZ w):Int):Rat)+1:=by
  unfold vFloor rv;rw [jkz h0 h1,if_pos h0];exact j2g h0
theorem jjq {V w:Int} (h0:0≤w) (h1:w≤4000):rv V*DD w≤((vCeil 4000 V (nearZ w):Int):Rat)∧vFloor 4000 V (nearZ w)≤vCeil 4000 V (nearZ w)∧vCeil 4000 V (nearZ w)≤vFloor 4000 V (nearZ w)+1:=by
  have k:=jem (V := -V) h0 h1;have en:rv (-V) = - rv V:=by unfold rv;rw [Rat.intCast_neg];grind
  rw [en] at k;refine ⟨?_,?_⟩
  · unfold vCeil
    rw [Rat.intCast_neg];have:=k.1
    grind
  · unfold vCeil vFloor
    rw [jkz h0 h1,if_pos h0,if_pos h0,Int.neg_mul];have hd:(0:Int)<2^4000:=Int.pow_pos (by omega)
    generalize (2:Int)^4000=d at *
    generalize V*2^w.toNat=n at *
    have a1:=Int.emod_add_mul_ediv n d;have a2:=Int.emod_nonneg n (Int.ne_of_gt hd);have a3:=Int.emod_lt_of_pos n hd;have b1:=Int.emod_add_mul_ediv (-n) d;have b2:=Int.emod_nonneg (-n) (Int.ne_of_gt hd);have b3:=Int.emod_lt_of_pos (-n) hd;have e:d*(n / d + -n / d) = -(n%d) - (-n%d):=by rw [Int.mul_add];omega
    have h1:n / d + -n / d≤0:=by
      by_cases c:n / d + -n / d≤0
      · exact c
      · have:=Int.mul_le_mul_of_nonneg_left (show 1≤n / d + -n / d by omega) (Int.le_of_lt hd);omega
    have h2 : -1≤n / d + -n / d:=by
      by_cases c : -1≤n / d + -n / d
      · exact c
      · have:=Int.mul_le_mul_of_nonneg_left (show n / d + -n / d≤-2 by omega) (Int.le_of_lt hd);omega
    omega
theorem two_add (a b:Int):two (a+b)=two a*two b:=by
  have key:∀a:Int,two a=(2:Rat)^a:=fun a=>by
    unfold two
    split
    · rename_i h
      obtain ⟨n,rfl⟩:∃n:Nat,a=n:=⟨a.toNat,by omega⟩;rw [Int.toNat_natCast,Rat.zpow_natCast]
    · rename_i h
      obtain ⟨n,rfl⟩:∃n:Nat,a = -(n:Int):=⟨(-a).toNat,by omega⟩;rw [Int.neg_neg,Int.toNat_natCast,Rat.zpow_neg,Rat.zpow_natCast]
  rw [key,key,key,Rat.zpow_add (by grind)]
theorem jcz:two 0=1:=rfl
theorem two_one:two 1=2:=by show (2:Rat)^1=2;rw [Rat.pow_one]
theorem two_DD {q:Int} (h:0≤q):two q=DD q:=by rw [jdy];unfold two;rw [if_pos h]
theorem two_le_two {a b:Int} (h:a≤b):two a≤two b:=by
  have e:two b=two a*two (b - a):=by rw [←two_add];congr 1;omega
  have p:=two_pos a
  have g:1≤two (b - a):=by
    rw [two_DD (by omega),jdy];exact exp_red.one_le_two_pow _
  have:=Rat.mul_le_mul_of_nonneg_left g (Rat.le_of_lt p)
  grind
theorem two_inv' (a:Int):two a*two (-a)=1:=by rw [←two_add,show a + -a=0 by omega];rfl
theorem jgi {z n:Int} (h:0≤n):((z*2^n.toNat:Int):Rat)=(z:Rat)*two n:=by
  rw [Rat.intCast_mul,two_DD h];rfl
theorem jhg (V:Int):rv V*two 4000=(V:Rat):=by
  unfold rv;have d:=DD_pos ((4000:Nat):Int);have inv:=Rat.inv_mul_cancel (DD ((4000:Nat):Int)) (by grind);have e:two 4000=DD ((4000:Nat):Int):=two_DD (by omega);rw [e]
  grind
theorem jxd {V:Int} {r:Rat} (h:(V:Rat)=r*two 4000):rv V=r:=by
  have e:=jhg V;have p:=two_pos 4000;rw [h] at e;exact Rat.le_antisymm (jap p (by grind)) (jap p (by grind))
theorem jd5 {z x:Int} (h0 : -4000≤x) (h1:x≤4000):rv (av 4000 z x)=(z:Rat)*two x:=by
  refine jxd ?_;unfold av sv cM cE
  by_cases hz:z=0
  · subst hz
    rw [if_pos (by omega),Int.zero_mul]
    show (0:Rat)=0*two x*two 4000
    grind
  · rw [if_neg (by omega),if_neg (by omega),jgi (by omega),show x+((4000:Nat):Int)=x+4000 from rfl,two_add]
    grind
theorem moved {V p:Int} (h0 : -4000≤pE V (p - 4000)) (h1:pE V (p - 4000)≤4000):rv (av 4000 (pM V) (pE V (p - 4000)))=rv V*two p:=by
  rw [jd5 h0 h1]
  by_cases hV:V=0
  · subst hV
    rw [jg8]
    show (0:Rat)*_=(0:Rat)*_*_
    grind
  · have e:=jez V
    have e2:(V:Rat)=(pM V:Rat)*two (tz V.natAbs:Int):=by
      rw [←jgi (by omega),Int.toNat_natCast,e]
    have e3:rv V=(pM V:Rat)*two ((tz V.natAbs:Int) - 4000):=by
      refine jxd ?_;rw [Rat.mul_assoc,←two_add,show (tz V.natAbs:Int) - 4000+4000=(tz V.natAbs:Int) by omega,e2]
    rw [e3,Rat.mul_assoc,←two_add];unfold pE;rw [if_neg hV]
    congr 2
    omega
theorem jzo {z x:Int} (h0 : -4000≤nE z x) (h1:nE z x≤4000):rv (av 4000 (nM z x) (nE z x))=rv (av 4000 z x):=by
  have e1:=ju9 4000 z x;have e2:nE z x=pE (av 4000 z x) (0 - 4000):=jrs (Nat.le_refl 4000) z x;rw [e2] at h0 h1;rw [e1,e2,moved h0 h1]
  show _*two 0=_
  rw [jcz];grind
theorem jms {z x:Int} (h0 : -4000≤x) (h1:x≤4000) (hz:0<z):two (lgN z x)≤rv (av 4000 z x)∧rv (av 4000 z x)≤two (lgN z x+1)∧rv (av 4000 z x)<two (lgN z x+1):=by
  rw [jd5 h0 h1];have ec:cM z x=z:=by unfold cM;rw [if_neg (by omega)]
  have ee:cE z x=x:=by unfold cE;rw [if_neg (by omega)]
  unfold lgN;rw [ec,ee,if_neg (by omega)];have n0:=jbq (n:=z.natAbs) (by omega);have g:=jdr (n:=z.natAbs) (by omega);have l:=jds z.natAbs
  have zc:(z:Rat)=((z.natAbs:Nat):Rat):=by
    rw [←Rat.intCast_natCast];congr 1;omega
  have p:=two_pos x
  have g':two (nbits z.natAbs - 1:Int)≤(z:Rat):=by
    rw [two_DD (by omega),jdy,zc,show (((nbits z.natAbs:Nat):Int) - 1).toNat=nbits z.natAbs - 1 by omega];have:=jbz g;rw [Rat.natCast_pow] at this;exact this
  have l':(z:Rat)<two (nbits z.natAbs:Int):=by
    rw [two_DD (by omega),jdy,zc,Int.toNat_natCast];have:=Rat.natCast_lt_natCast.2 l;rw [Rat.natCast_pow] at this;exact this
  rw [show x+((nbits z.natAbs:Nat):Int) - 1=(nbits z.natAbs - 1:Int)+x by omega,show (nbits z.natAbs - 1:Int)+x+1=(nbits z.natAbs:Int)+x by omega,two_add,two_add];have m1:=Rat.mul_le_mul_of_nonneg_right g' (Rat.le_of_lt p);have m2:=Rat.mul_lt_mul_of_pos_right l' p;exact ⟨m1,Rat.le_of_lt m2,m2⟩
end An
end
end
section
section
open Go.RowKit Go.Shelf
namespace V
def eqX (F:Nat→List Int→Int) (ρ:Nat→Int):X→X→Prop
  | .i k t,.i k' t'=>k=k'∧t.den F ρ=t'.den F ρ
  | .b t,.b t'=>t.bd F ρ=t'.bd F ρ
  | .z k c t,.z k' c' t'=>k≤k'∧c=c'∧t.den F ρ=t'.den F ρ
  | x,y=>x=y
def eqL (F:Nat→List Int→Int) (ρ:Nat→Int):List X→List X→Prop
  | [],[]=>True
  | x::xs,y::ys=>eqX F ρ x y∧eqL F ρ xs ys
  | _,_=>False
def eqV (F:Nat→List Int→Int) (ρ:Nat→Int):V1→V1→Prop
  | .sc x,.sc y=>eqX F ρ x y
  | .ag xs,.ag ys=>eqL F ρ xs ys
  | x,y=>x=y
def eqVs (F:Nat→List Int→Int) (ρ:Nat→Int):List V1→List V1→Prop
  | [],[]=>True
  | x::xs,y::ys=>eqV F ρ x y∧eqVs F ρ xs ys
  | _,_=>False
def eqA (F:Nat→List Int→Int) (ρ:Nat→Int):A→A→Prop
  | .one x,.one y=>eqV F ρ x y
  | .tup xs,.tup ys=>eqVs F ρ xs ys
  | x,y=>x=y
section
variable {F:Nat→List Int→Int} {ρ:Nat→Int} {β:Nat→Nat} {w:World}
theorem jxe {x y:X} {cs:List Value} (h:eqX F ρ x y) (k:x.has F ρ β w cs):y.has F ρ β w cs:=by
  cases x <;> cases y <;> simp only [eqX] at h <;> try (cases h;done)
  · show cs=_;rw [←h.2,←h.1];exact k
  · show cs=_;rw [←h];exact k
  · obtain ⟨n,A,l,cc,h1,h2,h3⟩:=k
    refine ⟨n,A,l,cc,h1,?_,fun hc=>?_⟩
    · rw [←h.2.2];exact h2.up h.1
    · rw [←h.2.2];exact (h3 (h.2.1.trans hc)).up h.1
  · cases h;exact k
  · exact k
  · cases h;exact k
theorem jxf:∀{x y:List X} {cs:List Value},eqL F ρ x y→hasL F ρ β w x cs→hasL F ρ β w y cs
  | [],[],_,_,k=>k
  | [],_::_,_,h,_=>h.elim
  | _::_,[],_,h,_=>h.elim
  | _::_,_::_,_,h,⟨c,d,h1,h2,h3⟩=>⟨c,d,h1,jxe h.1 h2,jxf h.2 h3⟩
theorem jxg {x y:V1} {v:Value} (h:eqV F ρ x y) (k:x.has F ρ β w v):y.has F ρ β w v:=by
  cases x <;> cases y <;> simp only [eqV] at h <;> try (cases h;done)
  · exact jxe h k
  · obtain ⟨cs,h1,h2⟩:=k;exact ⟨cs,h1,jxf h h2⟩
  · cases h;exact k
theorem jr9:∀{x y:List V1} {cs:List Value},eqVs F ρ x y→hasV F ρ β w x cs→hasV F ρ β w y cs
  | [],[],_,_,k=>k
  | [],_::_,_,h,_=>h.elim
  | _::_,[],_,h,_=>h.elim
  | _::_,_::_,_,h,⟨c,d,h1,h2,h3⟩=>⟨c,d,h1,jxg h.1 h2,jr9 h.2 h3⟩
theorem jxh {x y:A} {v:Value} (h:eqA F ρ x y) (k:x.has F ρ β w v):y.has F ρ β w v:=by
  cases x <;> cases y <;> simp only [eqA] at h <;> try (cases h;done)
  · exact jxg h k
  · obtain ⟨cs,h1,h2⟩:=k;exact ⟨cs,h1,jr9 h h2⟩
  · exact k
end
def in12:Option (List T×A×List T)→Option (List T×A)
  | some (p,x,_)=>some (p,x)
  | none=>none
theorem jzp {o:Option (List T×A×List T)} {p:List T} {x:A} (h:in12 o=some (p,x)):∃q,o=some (p,x,q):=by
  cases o with
  | none=>cases h
  | some r=>obtain ⟨a,b,c⟩:=r;cases h;exact ⟨c,rfl⟩
theorem jvk {P:Program} {F:Nat→List Int→Int} (hm:P.follows .mixedOrders=true) (tab:List (Ctr P F)) (f:FuncId) (he:Enters P f):(Ctr.inl hm tab f he).inst=inlX tab f∧(Ctr.inl hm tab f he).f=f:=⟨rfl,rfl⟩
theorem jvl {P:Program} {F:Nat→List Int→Int} (c:Ctr P F) {sp:Spec} (e:c.f=sp.f) {res:A} {ps:List T} (hx:c.inst sp.fs sp.st.bx sp.ps=some ([],res,ps)) (hp:sp.post=[])
    (hr:∀ρ,allT F ρ sp.fs→eqA F ρ res sp.res):SpecOK P F sp:=by
  intro ρ β w vs ha hb hf;obtain ⟨-,h⟩:=c.ok hf hb ha hx trivial;rw [e] at h;exact ⟨by rw [hp];trivial,h.mono fun e w' ⟨k1,u,k2,k3⟩=>⟨k1,u,k2,jxh (hr ρ hf) k3⟩⟩
theorem jaq {P:Program} {F:Nat→List Int→Int} {tab:List (Ctr P F)} {sp:Spec} (hm:P.follows .mixedOrders=true) (he:Enters P sp.f) {res:A} (hx:in12 (inlX tab sp.f sp.fs sp.st.bx sp.ps)=some ([],res)) (hp:sp.post=[])
    (hr:∀ρ,allT F ρ sp.fs→eqA F ρ res sp.res):SpecOK P F sp:=by
  obtain ⟨ps,hx'⟩:=jzp (o:=inlX tab sp.f sp.fs sp.st.bx sp.ps) hx;have hi:=jvk hm tab sp.f he;exact fun {ρ β w vs} ha hb hf=>jvl (Ctr.inl hm tab sp.f he) hi.2 (by rw [hi.1];exact hx') hp hr ha hb hf
end V
end
end
end Go.Proofs.YtllgjggkchgpbaaGreat