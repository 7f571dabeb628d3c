/- Plain facts about numbers written in limbs, the least first, in any base: no program in sight. Plain steps of sums, differences, products of limbs, in any base. Words for memory: a slice of limbs that reads as a list; a block known whole. Plain facts; no function of the program. math/bits: Add64, Sub64, Mul64, Len64 as numbers. -/
import Derived.Below
import Derived.Test.YtllgjggkchgpbaaGreatProg
import Derived.WalkKit
import Derived.Deep.Draws
import Derived.Deep.OwnRows
import Derived.OwnWalk
import Derived.Outline
import Derived.BigQuiet
import Derived.Deep.QuietTactic
import Derived.Deep.RegionHeld3
import Derived.WalkSpells
import Derived.Test.YtllgjggkchgpbaaGreatLen
import Derived.Lib.Mul64
import Derived.Laws.Externs
import Derived.Laws.MathBits
import Derived.Lib.BitFns
import Derived.Lib.ItoaNum
set_option linter.unusedVariables false
set_option linter.unusedSimpArgs false
namespace Go.Proofs.YtllgjggkchgpbaaGreat
section
namespace L
def val (b:Nat):List Nat→Nat
  | []=>0
  | x::xs=>x+b*val b xs
def dig (b n:Nat):List Nat:=if h:1<b∧n≠0 then n%b::dig b (n / b) else []
termination_by n
decreasing_by exact Nat.div_lt_self (by omega) h.1
def nth (l:List Nat) (i:Nat):Nat:=l.getD i 0
theorem nth_def (l:List Nat) (i:Nat):nth l i=l.getD i 0:=rfl
theorem dig_zero (b:Nat):dig b 0=[]:=by unfold dig;simp
theorem jhc {b n:Nat} (hb:1<b) (hn:n≠0):dig b n=n%b::dig b (n / b):=by rw [dig];simp [hb,hn]
theorem jzm (b:Nat):val b []=0:=rfl
theorem jcl (b x:Nat) (xs:List Nat):val b (x::xs)=x+b*val b xs:=rfl
theorem val_dig {b:Nat} (hb:1<b) (n:Nat):val b (dig b n)=n:=by
  induction n using Nat.strongRecOn with
  | _ n ih=>
    by_cases hn:n=0
    · subst hn;rw [dig_zero];rfl
    · rw [jhc hb hn,jcl,ih (n / b) (Nat.div_lt_self (by omega) hb)]
      exact Nat.mod_add_div n b
theorem dig_lt {b:Nat} (hb:1<b) (n:Nat):∀x∈dig b n,x<b:=by
  induction n using Nat.strongRecOn with
  | _ n ih=>
    intro x hx
    by_cases hn:n=0
    · subst hn;rw [dig_zero] at hx;cases hx
    · rw [jhc hb hn] at hx
      cases hx with
      | head=>exact Nat.mod_lt _ (by omega)
      | tail _ h=>exact ih (n / b) (Nat.div_lt_self (by omega) hb) x h
theorem dig_eq_nil {b:Nat} (hb:1<b) (n:Nat):dig b n=[]↔n=0:=by
  constructor
  · intro h
    by_cases hn:n=0
    · exact hn
    · rw [jhc hb hn] at h;cases h
  · rintro rfl;exact dig_zero b
theorem val_append (b:Nat) (l m:List Nat):val b (l ++ m)=val b l+b^l.length*val b m:=by
  induction l with
  | nil=>simp [val]
  | cons x xs ih=>
    simp only [List.cons_append,jcl,ih,List.length_cons,Nat.pow_succ]
    grind
theorem val_lt {b:Nat} (l:List Nat) (h:∀x∈l,x<b):val b l<b^l.length:=by
  induction l with
  | nil=>simp [val]
  | cons x xs ih=>
    have hx:=h x (by simp);have h1:=ih (fun y hy=>h y (by simp [hy]));rw [jcl,List.length_cons,Nat.pow_succ];have:b*(val b xs+1)≤b*b^xs.length:=Nat.mul_le_mul_left _ h1;rw [Nat.mul_add] at this;rw [Nat.mul_comm (b^xs.length)]
    omega
theorem jkw (b:Nat) (l:List Nat) (h:∀x∈l,x=0):val b l=0:=by
  induction l with
  | nil=>rfl
  | cons x xs ih=>rw [jcl,h x (by simp),ih (fun y hy=>h y (by simp [hy]))];simp
theorem val_replicate (b n:Nat):val b (List.replicate n 0)=0:=jkw b _ (fun x hx=>(List.mem_replicate.1 hx).2)
theorem dig_val {b:Nat} (hb:1<b) (l:List Nat) (h:∀x∈l,x<b) (ht:∀x,l.getLast? = some x→x≠0):dig b (val b l)=l:=by
  induction l with
  | nil=>exact dig_zero b
  | cons x xs ih=>
    have hx:=h x (by simp);have hxs:∀y∈xs,y<b:=fun y hy=>h y (by simp [hy])
    have hd:(x+b*val b xs) / b=val b xs:=by rw [Nat.add_mul_div_left _ _ (by omega),Nat.div_eq_of_lt hx];omega
    have hm:(x+b*val b xs)%b=x:=by rw [Nat.add_mul_mod_self_left,Nat.mod_eq_of_lt hx]
    have hn:val b (x::xs)≠0:=by
      rw [jcl]
      cases xs with
      | nil=>have:=ht x (by simp);simp [val];omega
      | cons y ys=>
        have hlast:∀z,(y::ys).getLast? = some z→z≠0:=fun z hz=>ht z (by rw [List.getLast?_cons_cons];exact hz)
        have:=ih hxs hlast;intro h0
        have hv:val b (y::ys)=0:=by
          have:b*val b (y::ys)=0:=by omega
          rcases Nat.mul_eq_zero.1 this with h | h
          · omega
          · exact h
        rw [hv,dig_zero] at this
        cases this
    rw [jhc hb hn,jcl,hm,hd]
    congr 1
    cases xs with
    | nil=>exact dig_zero b
    | cons y ys=>exact ih hxs (fun z hz=>ht z (by rw [List.getLast?_cons_cons];exact hz))
theorem dig_val_take {b:Nat} (hb:1<b) (l:List Nat) (h:∀x∈l,x<b) (n:Nat) (hn:n≤l.length)
    (hz:∀i,n≤i→i<l.length→nth l i=0) (ht:n=0∨nth l (n - 1)≠0):dig b (val b l)=l.take n:=by
  have e:val b l=val b (l.take n):=by
    conv=>lhs;rw [←List.take_append_drop n l]
    rw [val_append,jkw b (l.drop n)]
    · simp
    · intro x hx
      obtain ⟨i,hi,rfl⟩:=List.mem_iff_getElem.1 hx;rw [List.getElem_drop];rw [List.length_drop] at hi;have:=hz (n+i) (by omega) (by omega)
      rwa [nth_def,List.getD_eq_getElem?_getD,List.getElem?_eq_getElem (by omega),Option.getD_some] at this
  rw [e];refine dig_val hb _ (fun x hx=>h x (List.mem_of_mem_take hx)) ?_;intro x hx h0
  rcases ht with rfl | ht
  · simp at hx
  · apply ht
    rw [List.getLast?_eq_getElem?,List.length_take,Nat.min_eq_left hn] at hx
    by_cases h1:n=0
    · subst h1;simp at hx
    · rw [List.getElem?_take_of_lt (by omega)] at hx
      rw [nth_def,List.getD_eq_getElem?_getD,hx,h0];rfl
theorem take_succ' (l:List Nat) (i:Nat) (h:i<l.length):l.take (i+1)=l.take i ++ [nth l i]:=by
  rw [List.take_succ_eq_append_getElem h]
  congr
  rw [nth_def,List.getD_eq_getElem?_getD,List.getElem?_eq_getElem h];rfl
theorem jcm (b:Nat) (l:List Nat) (i:Nat) (h:i<l.length):val b (l.take (i+1))=val b (l.take i)+b^i*nth l i:=by
  rw [take_succ' l i h,val_append,List.length_take,Nat.min_eq_left (by omega)];simp [val]
theorem val_take_ge (b:Nat) (l:List Nat) (i:Nat) (h:l.length≤i):val b (l.take i)=val b l:=by rw [List.take_of_length_le h]
theorem getD_ge (l:List Nat) (i:Nat) (h:l.length≤i):nth l i=0:=by
  rw [nth_def,List.getD_eq_getElem?_getD,List.getElem?_eq_none h];rfl
theorem val_take_step (b:Nat) (l:List Nat) (i:Nat):val b (l.take (i+1))=val b (l.take i)+b^i*nth l i:=by
  by_cases h:i<l.length
  · exact jcm b l i h
  · rw [val_take_ge b l _ (by omega),val_take_ge b l _ (by omega),getD_ge l i (by omega)];simp
theorem take_set_self (l:List Nat) (i x:Nat):(l.set i x).take i=l.take i:=by
  rw [List.take_set_of_le (Nat.le_refl _)]
theorem getD_set_self (l:List Nat) (i x:Nat) (h:i<l.length):nth (l.set i x) i=x:=by
  rw [nth_def,List.getD_eq_getElem?_getD,List.getElem?_set_self h];rfl
theorem getD_set_ne (l:List Nat) (i j x:Nat) (h:i≠j):nth (l.set i x) j=nth l j:=by
  rw [nth_def,List.getD_eq_getElem?_getD,List.getElem?_set_ne h,←List.getD_eq_getElem?_getD,←nth_def]
theorem val_set_take (b:Nat) (l:List Nat) (i x:Nat) (h:i<l.length):val b ((l.set i x).take (i+1))=val b (l.take i)+b^i*x:=by
  rw [jcm b _ i (by simpa using h),take_set_self,getD_set_self l i x h]
theorem lt_of_getD {b:Nat} (hb:0<b) (l:List Nat) (h:∀x∈l,x<b) (i:Nat):nth l i<b:=by
  by_cases hi:i<l.length
  · rw [nth_def,List.getD_eq_getElem?_getD,List.getElem?_eq_getElem hi];exact h _ (List.getElem_mem hi)
  · rw [getD_ge l i (by omega)];exact hb
theorem mem_set_lt {b:Nat} (l:List Nat) (h:∀x∈l,x<b) (i x:Nat) (hx:x<b):∀y∈l.set i x,y<b:=by
  intro y hy
  rcases List.mem_or_eq_of_mem_set hy with h' | h'
  · exact h y h'
  · omega
theorem dig_len {b:Nat} (hb:1<b) (n m:Nat):(dig b n).length≤m↔n<b^m:=by
  induction m generalizing n with
  | zero=>
    rw [Nat.pow_zero,Nat.le_zero,List.length_eq_zero_iff,dig_eq_nil hb];omega
  | succ m ih=>
    by_cases hn:n=0
    · subst hn
      rw [dig_zero];simp;exact Nat.pow_pos (by omega)
    · rw [jhc hb hn,List.length_cons,Nat.add_le_add_iff_right,ih,Nat.pow_succ,Nat.div_lt_iff_lt_mul (by omega)]
theorem dig_len_val {b:Nat} (hb:1<b) (l:List Nat) (h:∀x∈l,x<b):(dig b (val b l)).length≤l.length:=(dig_len hb _ _).2 (val_lt l h)
theorem lt_of_dig_len {b:Nat} (hb:1<b) {m n:Nat} (h:(dig b m).length<(dig b n).length):m<n:=by
  have h1:¬ (dig b n).length≤(dig b m).length:=by omega
  rw [dig_len hb] at h1;have h2:=(dig_len hb m (dig b m).length).1 (Nat.le_refl _)
  omega
theorem dig_len_mono {b:Nat} (hb:1<b) {m n:Nat} (h:m≤n):(dig b m).length≤(dig b n).length:=by
  rcases Nat.lt_or_ge (dig b n).length (dig b m).length with h1 | h1
  · have:=lt_of_dig_len hb h1;omega
  · exact h1
theorem val_lt_of_top {b:Nat} (l m:List Nat) (hl:∀x∈l,x<b) (hlen:l.length=m.length) (i:Nat) (hi:i<l.length)
    (he:l.drop (i+1)=m.drop (i+1)) (hlt:nth l i<nth m i):val b l<val b m:=by
  have e1:val b l=val b (l.take (i+1))+b^(i+1)*val b (l.drop (i+1)):=by
    conv=>lhs;rw [←List.take_append_drop (i+1) l]
    rw [val_append,List.length_take,Nat.min_eq_left (by omega)]
  have e2:val b m=val b (m.take (i+1))+b^(i+1)*val b (m.drop (i+1)):=by
    conv=>lhs;rw [←List.take_append_drop (i+1) m]
    rw [val_append,List.length_take,Nat.min_eq_left (by omega)]
  rw [e1,e2,he,jcm b l i hi,jcm b m i (by omega)]
  have h1:val b (l.take i)<b^i:=by
    have:=val_lt (l.take i) (fun x hx=>hl x (List.mem_of_mem_take hx))
    rwa [List.length_take,Nat.min_eq_left (by omega)] at this
  have h2:b^i*(nth l i+1)≤b^i*nth m i:=Nat.mul_le_mul_left _ hlt;rw [Nat.mul_add] at h2
  omega
end L
end
section
namespace L
theorem add_step (b:Nat) (p q o:List Nat) (k c s d:Nat) (hk:k<o.length) (h:val b (o.take k)+b^k*c=val b (p.take k)+val b (q.take k))
    (hs:nth p k+nth q k+c=s+b*d) :
    val b ((o.set k s).take (k+1))+b^(k+1)*d=val b (p.take (k+1))+val b (q.take (k+1)):=by
  rw [val_set_take b o k s hk,val_take_step b p k,val_take_step b q k,Nat.pow_succ];have:b^k*(nth p k+nth q k+c)=b^k*(s+b*d):=by rw [hs]
  generalize b^k=X at *
  simp only [Nat.mul_add] at this;rw [Nat.mul_assoc]
  omega
theorem sub_step (b:Nat) (p q o:List Nat) (k c s d:Nat) (hk:k<o.length) (h:val b (o.take k)+val b (q.take k)=val b (p.take k)+b^k*c)
    (hs:nth p k+b*d=s+nth q k+c) :
    val b ((o.set k s).take (k+1))+val b (q.take (k+1))=val b (p.take (k+1))+b^(k+1)*d:=by
  rw [val_set_take b o k s hk,val_take_step b p k,val_take_step b q k,Nat.pow_succ];have:b^k*(nth p k+b*d)=b^k*(s+nth q k+c):=by rw [hs]
  generalize b^k=X at *
  simp only [Nat.mul_add] at this;rw [Nat.mul_assoc]
  omega
theorem val_last (b:Nat) (o:List Nat) (n:Nat) (h:o.length=n+1):val b o=val b (o.take n)+b^n*nth o n:=by
  have:=val_take_step b o n
  rwa [List.take_of_length_le (by omega)] at this
theorem jhd (b:Nat) (o:List Nat) (i x:Nat) (h:i<o.length):val b (o.set i x)+b^i*nth o i=val b o+b^i*x:=by
  have e1:val b o=val b (o.take (i+1))+b^(i+1)*val b (o.drop (i+1)):=by
    conv=>lhs;rw [←List.take_append_drop (i+1) o]
    rw [val_append,List.length_take,Nat.min_eq_left (by omega)]
  have e2:val b (o.set i x)=val b ((o.set i x).take (i+1))+b^(i+1)*val b (o.drop (i+1)):=by
    conv=>lhs;rw [←List.take_append_drop (i+1) (o.set i x)]
    rw [val_append,List.length_take,List.length_set,Nat.min_eq_left (by omega),List.drop_set_of_lt (by omega)]
  rw [e1,e2,val_set_take b o i x h,val_take_step b o i]
  omega
theorem mul_step (b:Nat) (q o:List Nat) (T x i k c s d:Nat) (hk:i+k<o.length) (h:val b o+b^(i+k)*c=T+b^i*(x*val b (q.take k)))
    (hs:x*nth q k+nth o (i+k)+c=s+b*d) :
    val b (o.set (i+k) s)+b^(i+(k+1))*d=T+b^i*(x*val b (q.take (k+1))):=by
  have h1:=jhd b o (i+k) s hk;rw [val_take_step b q k];have h2:b^(i+k)*(x*nth q k+nth o (i+k)+c)=b^(i+k)*(s+b*d):=by rw [hs]
  have e3:b^(i+(k+1))=b^(i+k)*b:=by rw [←Nat.add_assoc,Nat.pow_succ]
  have e4:b^i*(x*(val b (q.take k)+b^k*nth q k))=b^i*(x*val b (q.take k))+b^(i+k)*(x*nth q k):=by
    rw [Nat.pow_add];grind
  rw [e3,e4,Nat.mul_assoc]
  generalize b^(i+k)=X at *
  simp only [Nat.mul_add] at h2
  omega
theorem mul_row (b:Nat) (p q o:List Nat) (i c:Nat) (hk:i+q.length<o.length) (hz:nth o (i+q.length)=0)
    (h:val b o+b^(i+q.length)*c=val b (p.take i)*val b q+b^i*(nth p i*val b q)) :
    val b (o.set (i+q.length) c)=val b (p.take (i+1))*val b q:=by
  have h1:=jhd b o (i+q.length) c hk;rw [hz] at h1;rw [val_take_step b p i,Nat.add_mul,Nat.mul_assoc]
  omega
theorem shl_step (b:Nat) (o:List Nat) (k lo hi x:Nat) (hk:k+1<o.length) (hz:nth o (k+1)=0) (hx:lo+b*hi=x) :
    val b ((o.set k (nth o k+lo)).set (k+1) hi)=val b o+b^k*x:=by
  have h1:=jhd b o k (nth o k+lo) (by omega);have h2:=jhd b (o.set k (nth o k+lo)) (k+1) hi (by simpa using hk);rw [getD_set_ne _ _ _ _ (by omega),hz] at h2;rw [←hx,Nat.mul_add,←Nat.mul_assoc,show b^k*b=b^(k+1) from (Nat.pow_succ ..).symm];rw [Nat.mul_add] at h1
  omega
theorem shl_step0 (b:Nat) (o:List Nat) (k lo:Nat) (hk:k<o.length) :
    val b (o.set k (nth o k+lo))=val b o+b^k*lo:=by
  have h1:=jhd b o k (nth o k+lo) (by omega);rw [Nat.mul_add] at h1
  omega
theorem shr_step (b X Y:Nat) (hb:b=X*Y) (hX:0<X) (P o:List Nat) (k:Nat) (hk:k<o.length)
    (h:val b (o.take k)*X+nth P 0%X=val b (P.take k)+b^k*(nth P k%X)) :
    val b ((o.set k (nth P k / X+nth P (k+1)%X*Y)).take (k+1))*X+nth P 0%X=val b (P.take (k+1))+b^(k+1)*(nth P (k+1)%X):=by
  rw [val_set_take b o k _ hk,val_take_step b P k,Nat.pow_succ];have e:nth P k=nth P k%X+X*(nth P k / X):=(Nat.mod_add_div _ _).symm
  generalize nth P (k+1)%X=r at *
  generalize nth P k%X=s at *
  generalize nth P k / X=t at *
  rw [e]
  generalize b^k=Z at *
  have e1:Z*(t+r*Y)*X=Z*(X*t)+Z*b*r:=by
    rw [hb];simp only [Nat.mul_add,Nat.add_mul];congr 1
    · simp only [Nat.mul_assoc,Nat.mul_comm X t]
    · simp only [Nat.mul_assoc,Nat.mul_left_comm,Nat.mul_comm]
  have e2:Z*(s+X*t)=Z*s+Z*(X*t):=Nat.mul_add _ _ _;rw [Nat.add_mul,e1,e2]
  omega
theorem shr_end (b X:Nat) (hX:0<X) (P o:List Nat) (n:Nat) (ho:o.length=n) (hP:P.length=n)
    (h:val b (o.take n)*X+nth P 0%X=val b (P.take n)+b^n*(nth P n%X)):val b o=val b P / X:=by
  rw [List.take_of_length_le (by omega),List.take_of_length_le (by omega),getD_ge P n (by omega),Nat.zero_mod,Nat.mul_zero] at h;have:=Nat.mod_lt (nth P 0) hX;rw [Nat.add_zero] at h;rw [←h,Nat.add_comm,Nat.add_mul_div_right _ _ hX,Nat.div_eq_of_lt this,Nat.zero_add]
theorem val_drop (b:Nat) (hb:0<b) (l:List Nat) (hl:∀x∈l,x<b) (k:Nat):val b (l.drop k)=val b l / b^k:=by
  by_cases hk:k≤l.length
  · have e:val b l=val b (l.take k)+b^k*val b (l.drop k):=by
      conv=>lhs;rw [←List.take_append_drop k l]
      rw [val_append,List.length_take,Nat.min_eq_left hk]
    have h1:=val_lt (l.take k) (fun x hx=>hl x (List.mem_of_mem_take hx));rw [List.length_take,Nat.min_eq_left hk] at h1;rw [e,Nat.add_mul_div_left _ _ (Nat.pow_pos hb),Nat.div_eq_of_lt h1,Nat.zero_add]
  · have h1:=val_lt l hl
    rw [List.drop_of_length_le (by omega),jzm,Nat.div_eq_of_lt];exact Nat.lt_of_lt_of_le h1 (Nat.pow_le_pow_right hb (by omega))
theorem nth_drop (l:List Nat) (k i:Nat):nth (l.drop k) i=nth l (k+i):=by
  rw [nth_def,nth_def,List.getD_eq_getElem?_getD,List.getD_eq_getElem?_getD,List.getElem?_drop]
theorem jb7 (b:Nat) (l:List Nat) (m:Nat) (h:m<l.length):val b (l.drop m)=nth l m+b*val b (l.drop (m+1)):=by
  rw [List.drop_eq_getElem_cons h,jcl,nth_def,List.getD_eq_getElem?_getD,List.getElem?_eq_getElem h];rfl
theorem jfe (o:List Nat) (m q:Nat) (h:m<o.length):(o.set m q).drop m=q::o.drop (m+1):=by
  rw [List.drop_eq_getElem_cons (by simpa using h),List.getElem_set_self,List.drop_set_of_lt (by omega)]
theorem divD_step (b y:Nat) (P o:List Nat) (m r:Nat) (hm:m<P.length) (hm':m<o.length) (h:val b (P.drop (m+1))=y*val b (o.drop (m+1))+r) :
    val b (P.drop m)=y*val b ((o.set m ((r*b+nth P m) / y)).drop m)+(r*b+nth P m)%y:=by
  rw [jb7 b P m hm,jfe o m _ hm',jcl,h];have e:=Nat.mod_add_div (r*b+nth P m) y
  generalize (r*b+nth P m)%y=s at *
  generalize (r*b+nth P m) / y=q at *
  rw [Nat.mul_add,Nat.mul_add,←Nat.mul_assoc,←Nat.mul_assoc,Nat.mul_comm b y,Nat.mul_comm b r]
  omega
end L
end
section
section
open Go.RowKit
open L (val dig)
theorem hide {p:Prop} (h:p):Hid p:=h
theorem jb0 {k:IntKind} {a b:Int} (h:a=b):Ending.returned (.int k a)=.returned (.int k b):=by rw [h]
def Dr (w w':World):Prop:=∃n,w'=w.drewN n
theorem Dr.refl (w:World):Dr w w:=⟨0,rfl⟩
theorem Dr.next {w w':World} (h:Dr w w') (n:Nat):Dr w (w'.drewN n):=by
  obtain ⟨k,rfl⟩:=h;exact ⟨k+n,by rw [World.drewN_drewN]⟩
theorem Dr.drew {w w':World} (h:Dr w w'):Dr w w'.drew:=h.next 1
theorem Dr.trans {a b c:World} (h:Dr a b) (k:Dr b c):Dr a c:=by
  obtain ⟨n,rfl⟩:=k;exact h.next n
theorem Dr.below {w w':World} (h:Dr w w') (B:Nat):Below B w w':=by
  obtain ⟨k,rfl⟩:=h;exact ⟨rfl,rfl,rfl,Nat.le_refl _,fun _ _=>rfl⟩
def W:Nat:=18446744073709551616
theorem W_gt:1<W:=by unfold W;omega
theorem ja5:0<W:=by unfold W;omega
def Live (w:World) (B:Nat) (A:Option Addr) (n:Nat):Prop:=0<B→∀a,A=some a→∀i,i<n→w.frozen? ⟨a.block,a.off+i,none⟩=false
theorem jcg {w w':World} {b:Nat} (h:w'.heap[b]? = w.heap[b]?) (o:Nat):w'.frozen? ⟨b,o,none⟩=w.frozen? ⟨b,o,none⟩:=by
  unfold World.frozen?;rw [h]
def Nums (w:World) (B:Nat) (v:Value) (l:List Nat):Prop:=
  ∃A cap,v=.slice A l.length cap∧(l.length≤cap∧Live w B A l.length)∧cap≤9223372036854775807∧(∀x∈l,x<W)∧
    (0<l.length→∃b off,A=some ⟨b,off,none⟩∧B≤b∧b<w.heap.size∧∀i,i<l.length→w.cell? ⟨b,off+i,none⟩=some (.int .u64 (L.nth l i:Nat)))
def lenOf:Value→Nat | .slice _ n _=>n | _=>0
section
variable {w w':World} {B:Nat} {v:Value} {l:List Nat}
theorem Nums.keep (h:Nums w B v l) (hs:w.heap.size≤w'.heap.size) (hk:∀b,b<w.heap.size→w'.heap[b]? = w.heap[b]?):Nums w' B v l:=by
  obtain ⟨A,cap,h1,h2,h3,h4,h5⟩:=h;refine ⟨A,cap,h1,⟨h2.1,fun hB a ha i hi=>?_⟩,h3,h4,fun hp=>?_⟩
  · obtain ⟨b,off,a1,a2,a3,a4⟩:=h5 (by omega)
    have:=h2.2 hB a ha i hi;rw [a1] at ha
    cases ha
    exact (jcg (hk b a3) _).trans this
  · obtain ⟨b,off,a1,a2,a3,a4⟩:=h5 hp
    exact ⟨b,off,a1,a2,by omega,fun i hi=>(World.cell?_of_block (hk b a3)).trans (a4 i hi)⟩
theorem Nums.below (h:Nums w B v l) (hb:Below w.heap.size w w'):Nums w' B v l:=
  h.keep hb.size fun b hlt=>hb.block b hlt
theorem Nums.drew (h:Nums w B v l):Nums w.drew B v l:=h
theorem Nums.drewN (h:Nums w B v l) (n:Nat):Nums (w.drewN n) B v l:=h
theorem Nums.mono {B':Nat} (h:Nums w B v l) (hB:B'≤B):Nums w B' v l:=by
  obtain ⟨A,cap,h1,h2,h3,h4,h5⟩:=h;refine ⟨A,cap,h1,⟨h2.1,fun hB=>h2.2 (by omega)⟩,h3,h4,fun hp=>?_⟩;obtain ⟨b,off,a1,a2,a3,a4⟩:=h5 hp;exact ⟨b,off,a1,by omega,a3,a4⟩
theorem Nums.lt (h:Nums w B v l):∀x∈l,x<W:=by
  obtain ⟨A,cap,h1,h2,h3,h4,h5⟩:=h;exact h4
theorem Nums.nil (w:World) (B:Nat):Nums w B (.slice none 0 0) []:=⟨none,0,rfl,⟨by simp,fun _ a ha=>by cases ha⟩,by omega,by simp,by simp⟩
theorem Nums.first {A:Option Addr} {cap n:Nat} (h:Nums w B (.slice A l.length cap) l) (hn:n≤l.length):Nums w B (.slice A n cap) (l.take n):=by
  obtain ⟨A',cap',h1,h2,h3,h4,h5⟩:=h;injection h1 with e1 e2 e3
  subst e1;subst e3;have hlen:(l.take n).length=n:=by simp;omega
  refine ⟨A,cap,by rw [hlen],⟨by omega,fun hB a ha i hi=>h2.2 hB a ha i (by omega)⟩,h3,fun x hx=>h4 x (List.mem_of_mem_take hx),fun hp=>?_⟩;obtain ⟨b,off,a1,a2,a3,a4⟩:=h5 (by omega);refine ⟨b,off,a1,a2,a3,fun i hi=>?_⟩;rw [a4 i (by omega)]
  congr 2
  rw [L.nth_def,L.nth_def,List.getD_eq_getElem?_getD,List.getD_eq_getElem?_getD,List.getElem?_take_of_lt (by omega)]
end
def Canon (d:List Nat) (N:Nat):Prop:=d=dig W N
theorem Canon.val {d:List Nat} {N:Nat} (h:Canon d N):L.val W d=N:=by rw [show d=dig W N from h,L.val_dig W_gt]
theorem Canon.len {d:List Nat} {N m:Nat} (h:Canon d N):d.length≤m↔N<W^m:=by rw [show d=dig W N from h];exact L.dig_len W_gt N m
theorem Canon.nil_iff {d:List Nat} {N:Nat} (h:Canon d N):d=[]↔N=0:=by rw [show d=dig W N from h];exact L.dig_eq_nil W_gt N
theorem Canon.last {d:List Nat} {N:Nat} (h:Canon d N) (hd:0<d.length):L.nth d (d.length - 1)≠0:=by
  intro h0
  have hz:L.val W d=L.val W (d.take (d.length - 1)):=by
    have e:d.take (d.length - 1+1)=d:=List.take_of_length_le (by omega);have:=L.val_take_step W d (d.length - 1);rw [h0,e] at this
    omega
  have hlt:L.val W (d.take (d.length - 1))<W^(d.length - 1):=by
    have:=L.val_lt (b:=W) (d.take (d.length - 1)) (fun x hx=>L.dig_lt W_gt N x (by rw [←show d=dig W N from h];exact List.mem_of_mem_take hx))
    rwa [List.length_take,Nat.min_eq_left (by omega)] at this
  rw [←hz,h.val] at hlt;have:=(h.len (m:=d.length - 1)).2 hlt
  omega
def toU (n:Nat):Value:=.int .u64 (n:Nat)
def cellsU (l:List Nat):Array Value:=(l.map toU).toArray
theorem jmp (l:List Nat):(cellsU l).size=l.length:=by simp [cellsU]
theorem jp7 (l:List Nat) (i:Nat) (h:i<l.length):(cellsU l)[i]? = some (.int .u64 (L.nth l i:Nat)):=by
  simp [cellsU,toU,L.nth_def,List.getD_eq_getElem?_getD,List.getElem?_eq_getElem h]
theorem and63 (m:Nat) (hm:m<18446744073709551616):bits .and .u64 (m:Int) 63=((m%64:Nat):Int):=by
  have h:=bits_and_u64_nat m 63 hm (by omega);have e:m &&& 63=m%64:=Nat.and_two_pow_sub_one_eq_mod m 6;rw [e] at h;exact h
theorem div64 (m:Nat):(m:Int) / 64=((m / 64:Nat):Int):=by omega
def Out (w:World) (g:Nat) (l:List Nat):Prop:=w.heap[g]? = some (.cells (cellsU l) 22 (0,0))
section
variable {w w':World} {g:Nat} {l:List Nat}
theorem Out.lt (h:Out w g l):g<w.heap.size:=by
  rcases Nat.lt_or_ge g w.heap.size with hlt | hge
  · exact hlt
  · unfold Out at h;rw [Array.getElem?_eq_none hge] at h;cases h
theorem Out.cell (h:Out w g l) {i:Nat} (hi:i<l.length):w.cell? ⟨g,i,none⟩=some (.int .u64 (L.nth l i:Nat)):=by
  rw [cell_of_row w g i (cellsU l) 22 (0,0) h,jp7 l i hi]
theorem Out.frozen (h:Out w g l) (i:Nat):w.frozen? ⟨g,i,none⟩=false:=by
  unfold Out at h;simp [World.frozen?,h]
theorem Out.drew (h:Out w g l):Out w.drew g l:=h
theorem Out.drewN (h:Out w g l) (n:Nat):Out (w.drewN n) g l:=h
theorem Out.new (w:World) (l:List Nat):Out (w.alloc (.cells (cellsU l) 22)) w.heap.size l:=heap_alloc_new w _
theorem Out.alloc (h:Out w g l) (o:Obj):Out (w.alloc o) g l:=(Below.heap_alloc w o g h.lt).trans h
theorem Out.set (h:Out w g l) (i x:Nat):Out (w.setCell ⟨g,i,none⟩ (.int .u64 (x:Nat))) g (l.set i x):=by
  unfold Out at h ⊢;simp only [World.setCell,Array.getElem?_modify,h];simp [cellsU,toU,List.map_set]
theorem Out.set_of (h:Out w g l) (i x:Nat) {z:Int} (hz:z=x):Out (w.setCell ⟨g,i,none⟩ (.int .u64 z)) g (l.set i x):=by rw [hz];exact h.set i x
theorem Out.far (h:Out w g l) {p:Addr} (hp:g≠p.block) (u:Value):Out (w.setCell p u) g l:=(Below.heap_setCell w p u g hp).trans h
theorem Out.below {B:Nat} (h:Out w g l) (hb:Below B w w') (hg:g<B):Out w' g l:=(hb.block g hg).trans h
theorem Out.nums (h:Out w g l) {B:Nat} (hB:B≤g) (hl:l.length≤9223372036854775807) (hlt:∀x∈l,x<W):Nums w B (.slice (some ⟨g,0,none⟩) l.length l.length) l:=
  ⟨_,_,rfl,⟨Nat.le_refl _,fun _ a ha i _=>by cases ha;exact h.frozen _⟩,hl,hlt,fun _=>⟨g,0,rfl,hB,h.lt,fun i hi=>by rw [Nat.zero_add];exact h.cell hi⟩⟩
end
theorem Nums.of_own {w:World} {B c:Nat} {v:Value} {l:List Nat} (h:w.ownsRow B 22 1 v l.length (l.map toU)) (hlt:∀x∈l,x<W):Nums w B v l:=by
  rcases h.2 with ⟨rfl,h0⟩ | ⟨g,cap,cur,rfl,hB,hg,hn,hm,hcs,htake⟩
  · refine ⟨none,0,by rw [h0],⟨by omega,fun _ a ha=>by cases ha⟩,by omega,hlt,fun hp=>by omega⟩
  · refine ⟨_,cap,rfl,⟨hn,fun _ a ha i _=>by cases ha;exact World.ownsRow.frozenAt h _⟩,by simp only [maxLen] at hm;omega,hlt,fun _=>⟨g,0,rfl,hB,(Array.getElem?_eq_some_iff.1 hg).1,fun i hi=>?_⟩⟩
    have hc:=h.cells (g:=g) rfl i (toU (L.nth l i)) (by
      rw [List.getElem?_map,List.getElem?_eq_getElem hi,L.nth_def,List.getD_eq_getElem?_getD,List.getElem?_eq_getElem hi];rfl)
    have hadd:(⟨g,0,none⟩:Addr).add i=⟨g,i,none⟩:=by unfold Addr.add;split <;> simp_all
    rw [hadd] at hc;rw [Nat.zero_add];exact hc
theorem infoU:(Tryz.prog.info? 22).map (fun i=>(i.zero,i.size,i.bytes))=some (some (.int .u64 0),1,8):=by kernel_rfl
def zer (n:Nat):Array Value:=cellsU (List.replicate n 0)
theorem j2e (n:Nat):madeCells #[.int .u64 0] n=zer n:=by
  apply Array.ext';simp [madeCells,zer,cellsU,toU,List.range_eq_range',Nat.mod_one];apply List.ext_getElem
  · simp
  · intro i h1 h2;simp
set_option maxRecDepth 100000 in
theorem je3 (m:Int) (n:Nat) (hmn:m=n) (hn:n≤1000000) (w:World) :
    (Instr.makeSlice 24 (.int .i64 m) (.int .i64 m)).run Tryz.prog w=.ok (.slice (some ⟨w.heap.size,0,none⟩) n n) (w.alloc (.cells (zer n) 22)):=by
  obtain ⟨i0,hi,hz0,hz1,hz2⟩:=info_parts infoU;subst hmn;have hr:=run_make (P:=Tryz.prog) w 24 22 i0 _ Tryz.underlying24 hi hz0 .i64 .i64 n n (by omega) (by omega) (by rw [hz2];omega) (by omega);simp only [Int.toNat_natCast,hz1,Nat.mul_one] at hr;rw [hr]
  congr 3
  exact j2e n
theorem Out.made (w:World) (n:Nat):Out (w.alloc (.cells (zer n) 22)) w.heap.size (List.replicate n 0):=Out.new w _
def OwnU (w:World) (base:Nat) (v:Value) (l:List Nat):Prop:=w.ownsRow base 22 1 v l.length (l.map toU)
section
variable {w w':World} {base:Nat} {v:Value} {l:List Nat}
theorem OwnU.form (h:OwnU w base v l):∃A cap,v=.slice A l.length cap:=by
  rcases h.2 with ⟨rfl,h0⟩ | ⟨g,cap,cur,rfl,_⟩
  · exact ⟨none,0,by rw [h0]⟩
  · exact ⟨_,cap,rfl⟩
theorem OwnU.nums (h:OwnU w base v l) (hlt:∀x∈l,x<W):Nums w base v l:=Nums.of_own (c:=0) h hlt
theorem OwnU.nil (w:World) (base:Nat):OwnU w base (.slice none 0 0) []:=World.ownsRow_nil w base _ 1
theorem OwnU.empty (w:World) {base:Nat} (hb:base≤w.heap.size):OwnU (w.alloc (.cells #[] 22)) base (.slice (some ⟨w.heap.size,0,none⟩) 0 0) []:=
  World.ownsRow_made w #[] 0 hb (by simp only [maxLen];omega) rfl
theorem OwnU.alloc (h:OwnU w base v l) (o:Obj):OwnU (w.alloc o) base v l:=World.ownsRow.alloc h o
theorem OwnU.drew (h:OwnU w base v l):OwnU w.drew base v l:=h
theorem OwnU.below (h:OwnU w base v l) (hb:Below w.heap.size w w'):OwnU w' base v l:=
  World.ownsRow.kept (row:=none) h ⟨hb.os,hb.tape,hb.output,hb.size,fun k hk _=>hb.block k hk⟩ (by cases v.ownBlock <;> simp)
end
set_option maxRecDepth 100000 in
theorem jff {P:Program} (w:World) (base:Nat) (t ty e:TypeId) (i:TypeInfo) (size:Nat) (ht:P.underlying t=some (.slice e)) (hi:P.info? e=some i)
    (v:Value) (n:Nat) (xs:List Value) (hown:w.ownsRow base e size v n xs) (c:Nat):(Builtin.append_ #[t,t] ty #[v,.slice none 0 c]).run P w=.ok v w:=by
  rcases hown.2 with ⟨rfl,rfl⟩ | ⟨g,cap,cur,rfl,_,_,hnc,_⟩
  · simp [Builtin.append_,run_underlying ht,sizeOf,typeInfo,hi,Builtin.lenOf,Builtin.firstCells]
  · simp [Builtin.append_,run_underlying ht,sizeOf,typeInfo,hi,Builtin.lenOf,Builtin.firstCells,hnc,storeCells]
set_option maxRecDepth 100000 in
theorem jmq (w:World) (base:Nat) (v:Value) (lx:List Nat) (hown:OwnU w base v lx) (B:Nat) (vs:Value) (ls:List Nat) (h:Nums w B vs ls)
    (hn:lx.length+ls.length≤1000000) (hbase:base≤w.heap.size) (ty:TypeId) :
    ∃v' w',(Builtin.append_ #[24,24] ty #[v,vs]).run Tryz.prog w=.ok v' w'∧OwnU w' base v' (lx ++ ls)∧w.grownBy w' v.ownBlock:=by
  obtain ⟨i0,hi,hz0,hz1,hz2⟩:=info_parts infoU;obtain ⟨A,cap,rfl,hcap,hmax,hlt,hc⟩:=h
  rcases A with _ | ad
  · have h0:ls=[]:=by
      rcases Nat.eq_zero_or_pos ls.length with h0 | h0
      · exact List.eq_nil_of_length_eq_zero h0
      · obtain ⟨b,off,he,_⟩:=hc h0;cases he
    subst h0;exact ⟨v,w,jff w base _ _ _ i0 1 Tryz.underlying24 hi v _ _ hown cap,by simpa using hown,World.grownBy.refl w _⟩
  · obtain ⟨v',w',h1,h2,h3,_⟩:=run_append_own (P:=Tryz.prog) w base 24 ty 22 i0 _ 1 8 Tryz.underlying24 hi hz0 hz1 hz2 rfl (by omega) v lx.length (lx.map toU) hown ad ls.length cap (ls.map toU) (by simp)
      (by
        intro j u hu
        have hj:j<ls.length:=by
          rcases Nat.lt_or_ge j ls.length with hj | hj
          · exact hj
          · rw [List.getElem?_eq_none (by simpa using hj)] at hu;cases hu
        obtain ⟨b,off,he,_,_,hcell⟩:=hc (by omega);injection he with he
        subst he;rw [List.getElem?_map,List.getElem?_eq_getElem hj] at hu;have hadd:(⟨b,off,none⟩:Addr).add j=⟨b,off+j,none⟩:=by unfold Addr.add;split <;> simp_all
        rw [hadd,hcell j hj,←hu,L.nth_def,List.getD_eq_getElem?_getD,List.getElem?_eq_getElem hj];rfl)
      (by intro u hu;obtain ⟨x,_,rfl⟩:=List.mem_map.1 hu;rfl) (by simp only [maxLen];omega) (by omega) hbase
    refine ⟨v',w',h1,?_,h3⟩;unfold OwnU;rw [List.length_append,List.map_append];exact h2
theorem jh9 {ops:Array Oper} {rest:List Oper} {o:Oper} {a:Act} {Q:Exit→Act→World→Prop} (w:World) (hgd:o.guard=none) (s x:Operand)
    (ho:o.op=.call { callee:=.builtin .append,args:=#[s,x],argTypes:=#[24,24] })
    (base:Nat) (v:Value) (lx:List Nat) (hs:a.eval s=v) (hown:OwnU w base v lx) (B:Nat) (vs:Value) (ls:List Nat) (hx:a.eval x=vs) (h:Nums w B vs ls)
    (hn:lx.length+ls.length≤1000000) (hbase:base≤w.heap.size)
    (hk:∀v' w',OwnU w' base v' (lx ++ ls)→w.grownBy w' v.ownBlock→wpList Tryz.prog ops Q rest (a.put o.dst v') w'):wpList Tryz.prog ops Q (o::rest) a w:=
  wpList_plain hgd fun _ hK=>by
    obtain ⟨v',w',hrun,h2,h3⟩:=jmq w base v lx hown B vs ls h hn hbase o.type;unfold Oper.wp execOp;simp only [ho,resolve,invoke,builtin,Sem.run_bind,Sem.run_pure,Result.andThen_ok,List.map_toArray,List.map_cons,List.map_nil,hs,hx,hrun];exact hK _ _ (hk v' w' h2 h3)
def OwnN (w:World) (base g n cap:Nat) (l:List Nat):Prop:=w.ownsRow base 22 1 (.slice (some ⟨g,0,none⟩) n cap) n (l.map toU)
section
variable {w w':World} {base g n cap:Nat} {l:List Nat}
theorem OwnN.len (h:OwnN w base g n cap l):l.length=n:=by have:=h.1;simpa using this
theorem OwnN.ge (h:OwnN w base g n cap l):base≤g∧g<w.heap.size:=World.ownsRow.lt h g rfl
theorem OwnN.cell (h:OwnN w base g n cap l) {i:Nat} (hi:i<n):w.cell? ⟨g,i,none⟩=some (.int .u64 (L.nth l i:Nat)):=by
  have hl:=h.len;rw [World.ownsRow.cellAt h i (by omega),List.getElem?_map,List.getElem?_eq_getElem (by omega),L.nth_def,List.getD_eq_getElem?_getD,List.getElem?_eq_getElem (by omega)];rfl
theorem OwnN.frozen (h:OwnN w base g n cap l) (i:Nat):w.frozen? ⟨g,i,none⟩=false:=World.ownsRow.frozenAt h i
theorem OwnN.set_of (h:OwnN w base g n cap l) (i x:Nat) {z:Int} (hz:z=x):OwnN (w.setCell ⟨g,i,none⟩ (.int .u64 z)) base g n cap (l.set i x):=by
  have:=(World.ownsRow.stored h i (.int .u64 (x:Nat))).1;unfold OwnN;rw [hz,List.map_set];exact this
theorem OwnN.drew (h:OwnN w base g n cap l):OwnN w.drew base g n cap l:=h
theorem OwnN.drewN (h:OwnN w base g n cap l) (k:Nat):OwnN (w.drewN k) base g n cap l:=h
theorem OwnN.nums (h:OwnN w base g n cap l) (hlt:∀x∈l,x<W):Nums w base (.slice (some ⟨g,0,none⟩) n cap) l:=by
  have hl:=h.len;subst hl;exact Nums.of_own (c:=0) h hlt
theorem OwnU.toN {v:Value} (h:OwnU w base v l) (hl:0<l.length):∃g cap,v=.slice (some ⟨g,0,none⟩) l.length cap∧OwnN w base g l.length cap l:=by
  rcases h.2 with ⟨rfl,h0⟩ | ⟨g,cap,cur,rfl,r⟩
  · omega
  · exact ⟨g,cap,rfl,h⟩
end
theorem Nums.from_ {w:World} {B b off cap k:Nat} {l:List Nat} (h:Nums w B (.slice (some ⟨b,off,none⟩) l.length cap) l) (hk:k≤l.length) :
    Nums w B (.slice (some ⟨b,off+k,none⟩) (l.length - k) (cap - k)) (l.drop k):=by
  obtain ⟨A',cap',h1,h2,h3,h4,h5⟩:=h;injection h1 with e1 e2 e3
  subst e1;subst e3;have hlen:(l.drop k).length=l.length - k:=List.length_drop;refine ⟨_,cap - k,by rw [hlen],⟨by omega,fun hB a ha i hi=>by cases ha;have:=h2.2 hB _ rfl (k+i) (by omega);rwa [←Nat.add_assoc] at this⟩,by omega,fun x hx=>h4 x (List.mem_of_mem_drop hx),fun hp=>?_⟩;obtain ⟨b',off',a1,a2,a3,a4⟩:=h5 (by omega);injection a1 with a1
  injection a1 with e1 e2 _
  subst e1;subst e2;refine ⟨b,off+k,rfl,a2,a3,fun i hi=>?_⟩;rw [Nat.add_assoc,a4 (k+i) (by omega)]
  congr 2
  rw [L.nth_def,L.nth_def,List.getD_eq_getElem?_getD,List.getD_eq_getElem?_getD,List.getElem?_drop]
theorem OwnU.made (w:World) {base:Nat} (hb:base≤w.heap.size) (n:Nat) (hn:n≤1000000) :
    OwnU (w.alloc (.cells (zer n) 22)) base (.slice (some ⟨w.heap.size,0,none⟩) n n) (List.replicate n 0):=by
  unfold OwnU;rw [List.length_replicate];refine ⟨by simp,.inr ⟨w.heap.size,n,zer n,rfl,hb,heap_alloc_new w _,Nat.le_refl _,by simp only [maxLen];omega,by simp [zer,jmp],?_⟩⟩;simp [zer,cellsU]
theorem Nums.one (w:World) (z:Int) (x:Nat) (hz:z=x) (hx:x<W):Nums (w.alloc (.cells #[.int .u64 z] 22)) 0 (.slice (some ⟨w.heap.size,0,none⟩) 1 1) [x]:=by
  subst hz;have h:Out (w.alloc (.cells (cellsU [x]) 22)) w.heap.size [x]:=Out.new w [x];exact h.nums (Nat.zero_le _) (by simp) (by simpa using hx)
end
end
section
section
open Go.RowKit
open L (val dig)
theorem jd4 (x y c s d:Nat) (hc:c≤1) (h:x+y+c=s+18446744073709551616*d) (hs:s<18446744073709551616) (w:World) :
    (callFunc 165 #[.int .u64 x,.int .u64 y,.int .u64 c]).run Tryz.prog w=.ok (.value (.tuple #[.int .u64 s,.int .u64 d])) w:=by
  rw [run_callFunc_extern Tryz.func165 (by kernel_rfl) (by kernel_rfl) (by kernel_rfl) (e:=add64Entry) (by kernel_rfl),run_add64 x y c (by omega) (by omega) (by omega) (by omega)];simp only [Result.andThen];have e1:((x:Int)+y+c)%18446744073709551616=s:=by omega
  have e2:((x:Int)+y+c) / 18446744073709551616=d:=by omega
  rw [e1,e2]
def sub64Entry:Array Value→Sem Value:=fun args=>do
  let (x,y,b) ← Extern.MathBitsCarry.three "Sub64" args
  pure (Extern.MathBitsCarry.pair ((x+Extern.MathBitsCarry.m64 - y - b)%Extern.MathBitsCarry.m64) (if x<y+b then 1 else 0))
theorem jr7 {P:Program} (x y b:Nat) (hb:b≤1) (w:World) :
    (sub64Entry #[.int .u64 x,.int .u64 y,.int .u64 b]).run P w =
      .ok (.tuple #[.int .u64 (((x+18446744073709551616 - y - b)%18446744073709551616:Nat):Int),.int .u64 ((if x<y+b then 1 else 0:Nat):Int)]) w:=by
  have:b=0∨b=1:=by omega
  rcases this with rfl | rfl <;> rfl
theorem jhe (x y c s d:Nat) (hc:c≤1) (h:x+18446744073709551616*d=s+y+c) (hx:x<18446744073709551616) (hy:y<18446744073709551616) (hs:s<18446744073709551616) (w:World) :
    (callFunc 211 #[.int .u64 x,.int .u64 y,.int .u64 c]).run Tryz.prog w=.ok (.value (.tuple #[.int .u64 s,.int .u64 d])) w:=by
  rw [run_callFunc_extern Tryz.func211 (by kernel_rfl) (by kernel_rfl) (by kernel_rfl) (e:=sub64Entry) (by kernel_rfl),jr7 x y c hc];simp only [Result.andThen];have hd:d=if x<y+c then 1 else 0:=by split <;> omega
  have hs':(x+18446744073709551616 - y - c)%18446744073709551616=s:=by
    by_cases h1:x<y+c
    · simp [h1] at hd;omega
    · simp [h1] at hd;omega
  rw [hs',←hd]
namespace M64
theorem maskN (a:Nat) (ha:a<18446744073709551616):bits .and .u64 (a:Int) 4294967295=((a%4294967296:Nat):Int):=by
  have h:=bits_and_u64_nat a 4294967295 ha (by omega);have e:a &&& 4294967295=a%4294967296:=Nat.and_two_pow_sub_one_eq_mod a 32;rw [e] at h;exact h
theorem divN (a:Nat):(a:Int) / 4294967296=((a / 4294967296:Nat):Int):=by omega
theorem mulN (a b:Nat):(a:Int)*(b:Int)=((a*b:Nat):Int):=(Int.natCast_mul a b).symm
theorem addN (a b:Nat):(a:Int)+(b:Int)=((a+b:Nat):Int):=(Int.natCast_add a b).symm
theorem wrapN (a:Nat) (ha:a<18446744073709551616):IntKind.u64.wrap (a:Int)=(a:Int):=by rw [IntKind.wrap_u64];omega
theorem wrapM (a:Nat):IntKind.u64.wrap (a:Int)=((a%18446744073709551616:Nat):Int):=by rw [IntKind.wrap_u64];omega
end M64
set_option maxHeartbeats 1000000 in
theorem jmr (x y:Nat) (hx:x<18446744073709551616) (hy:y<18446744073709551616) (w:World) :
    Calls Tryz.prog 167 #[.int .u64 x,.int .u64 y] w fun e w'=>w=w'∧e=.returned (.tuple #[.int .u64 ((x*y / 18446744073709551616:Nat):Int),.int .u64 ((x*y%18446744073709551616:Nat):Int)]):=by
  obtain ⟨bd,bt,bw,hhi⟩:=Lib.mul64_hi x y hx hy;have ba:=Lib.half_mul_le (a:=x / 4294967296) (b:=y / 4294967296) (by omega) (by omega);have bb:=Lib.half_mul_le (a:=x / 4294967296) (b:=y%4294967296) (by omega) (by omega);have bc:=Lib.half_mul_le (a:=x%4294967296) (b:=y / 4294967296) (by omega) (by omega);have ba':x / 4294967296*(y / 4294967296)<18446744073709551616:=by omega
  have bb':x / 4294967296*(y%4294967296)<18446744073709551616:=by omega
  have bc':x%4294967296*(y / 4294967296)<18446744073709551616:=by omega
  have bh1:x / 4294967296*(y / 4294967296)+(x / 4294967296*(y%4294967296)+x%4294967296*(y%4294967296) / 4294967296) / 4294967296<18446744073709551616:=by omega
  have bh:x / 4294967296*(y / 4294967296)+(x / 4294967296*(y%4294967296)+x%4294967296*(y%4294967296) / 4294967296) / 4294967296+((x / 4294967296*(y%4294967296)+x%4294967296*(y%4294967296) / 4294967296)%4294967296+x%4294967296*(y / 4294967296)) / 4294967296<18446744073709551616:=by omega
  go_enter Tryz.func167,Tryz.ntmps167
  go_wp2
  simp only [M64.maskN x hx,M64.maskN y hy,M64.divN,M64.mulN,M64.addN,M64.wrapN _ bd,M64.wrapN _ bb',M64.wrapN _ bt,M64.maskN _ bt,M64.wrapN _ bc',M64.wrapN _ bw,M64.wrapN _ ba',M64.wrapN _ bh1,M64.wrapN _ bh,M64.wrapM (x*y)];rw [hhi]
  go_ret2
  exact ⟨rfl,rfl⟩
theorem mul64_calls' (x y h l:Nat) (hx:x<18446744073709551616) (hy:y<18446744073709551616) (he:x*y=l+18446744073709551616*h) (hl:l<18446744073709551616) (w:World) :
    Calls Tryz.prog 167 #[.int .u64 x,.int .u64 y] w fun e w'=>w=w'∧e=.returned (.tuple #[.int .u64 h,.int .u64 l]):=by
  refine (jmr x y hx hy w).mono fun e w' ⟨h1,h2⟩=>⟨h1,?_⟩
  rw [h2,show x*y / 18446744073709551616=h from by omega,show x*y%18446744073709551616=l from by omega]
def nbits (n:Nat):Nat:=(dig 2 n).length
theorem jba (n m:Nat):nbits n≤m↔n<2^m:=L.dig_len (by omega) n m
theorem jcn {n b:Nat} (h1:n<2^b) (h2:b=0∨2^(b - 1)≤n):nbits n=b:=by
  have h3:=(jba n b).2 h1
  rcases h2 with h2 | h2
  · omega
  · have h4:¬ nbits n≤b - 1:=by rw [jba];omega
    omega
theorem jkx (x:Nat) (hx:x<18446744073709551616):Lib.bitLen x=nbits x:=by
  symm
  by_cases h0:x=0
  · subst h0
    have:Lib.bitLen 0=0:=by decide
    rw [this];exact jcn (by omega) (.inl rfl)
  · obtain ⟨h1,h2,h3⟩:=Lib.bitLenAux_bounds 64 x (by omega) h0
    exact jcn h3 (.inr h2)
theorem jik:nbits 0=0:=jcn (by omega) (.inl rfl)
theorem jbq {n:Nat} (h:n≠0):0<nbits n:=by
  rcases Nat.eq_zero_or_pos (nbits n) with h0 | h0
  · have:=(jba n 0).1 (by omega)
    omega
  · exact h0
theorem jdr {n:Nat} (h:n≠0):2^(nbits n - 1)≤n:=by
  have h1:=jbq h;have h2:¬ nbits n≤nbits n - 1:=by omega
  rw [jba] at h2
  omega
theorem jds (n:Nat):n<2^nbits n:=(jba n _).1 (Nat.le_refl _)
theorem je4 (m:Nat):W^m=2^(64*m):=by rw [Nat.pow_mul];rfl
theorem jky (d:List Nat) (m:Nat) (hm:d.length=m+1) (hlt:∀x∈d,x<W) (ht:L.nth d m≠0) :
    nbits (val W d)=64*m+nbits (L.nth d m):=by
  have e:val W d=val W (d.take m)+W^m*L.nth d m:=by
    have:=L.val_take_step W d m
    rwa [List.take_of_length_le (by omega)] at this
  have h1:val W (d.take m)<W^m:=by
    have:=L.val_lt (b:=W) (d.take m) (fun x hx=>hlt x (List.mem_of_mem_take hx))
    rwa [List.length_take,Nat.min_eq_left (by omega)] at this
  have h2:=jds (L.nth d m);have h3:=jdr ht;have h4:=jbq ht;rw [je4] at e h1
  generalize nbits (L.nth d m)=b at *
  generalize L.nth d m=t at *
  apply jcn
  · rw [e,Nat.pow_add]
    have:2^(64*m)*(t+1)≤2^(64*m)*2^b:=Nat.mul_le_mul_left _ h2;rw [Nat.mul_add] at this
    omega
  · refine .inr ?_
    rw [e,show 64*m+b - 1=64*m+(b - 1) from by omega,Nat.pow_add];have:2^(64*m)*2^(b - 1)≤2^(64*m)*t:=Nat.mul_le_mul_left _ h3
    omega
theorem jhf (n:Nat) (hn:n<18446744073709551616) (w:World) :
    Calls Tryz.prog 162 #[.int .u64 n] w fun e w'=>w=w'∧e=.returned (.int .i64 (nbits n:Nat)):=by
  refine (jsm n w (by omega) (by omega)).mono fun e w' ⟨he,hw⟩=>⟨hw.symm,?_⟩
  rw [he,Int.toNat_natCast,jkx n hn]
theorem natpow (k:Nat):((2:Int)^k)=((2^k:Nat):Int):=by norm_cast
theorem jdt {s:Nat} (hs:s≤64):2^(64 - s)*2^s=W:=by
  rw [←Nat.pow_add,show 64 - s+s=64 from by omega];rfl
theorem jc2 (x s:Nat):(x:Int) / 2^s=((x / 2^s:Nat):Int):=by rw [natpow];norm_cast
theorem jr8 (x s:Nat) (hs:s≤64):x / 2^(64 - s)=x*2^s / W:=by
  rw [←jdt hs,Nat.mul_div_mul_right _ _ (Nat.two_pow_pos s)]
theorem jfg (x s:Nat):IntKind.u64.wrap ((x:Int)*2^s)=((x*2^s%W:Nat):Int):=by
  rw [natpow,←Int.natCast_mul,M64.wrapM];rfl
theorem jzn (x s:Nat) (hs:s≤64):∃q,x*2^s%W=q*2^s∧q<2^(64 - s):=by
  refine ⟨x%2^(64 - s),?_,Nat.mod_lt _ (Nat.two_pow_pos _)⟩;rw [←jdt hs,Nat.mul_mod_mul_right]
theorem jn6 (a q s:Nat) (ha:a<2^s):a ||| q*2^s=a+q*2^s:=by
  rw [Nat.or_comm,Nat.mul_comm q,←Nat.two_pow_add_eq_or_of_lt ha,Nat.add_comm]
theorem jxc (a x s:Nat) (hs:s≤63) (ha:a<2^s) (hx:x<18446744073709551616) :
    bits .or .u64 (a:Int) (IntKind.u64.wrap ((x:Int)*2^s))=((a+x*2^s%W:Nat):Int)∧a+x*2^s%W<W:=by
  obtain ⟨q,hq,hql⟩:=jzn x s (by omega)
  have h1:a+q*2^s<W:=by
    rw [←jdt (s:=s) (by omega)];have:(q+1)*2^s≤2^(64 - s)*2^s:=Nat.mul_le_mul_right _ hql;rw [Nat.add_mul] at this
    omega
  have hW:W=18446744073709551616:=rfl;rw [jfg,hq,bits_or_u64_nat a (q*2^s) (by omega) (by omega),jn6 a q s ha];exact ⟨rfl,h1⟩
end
end
end Go.Proofs.YtllgjggkchgpbaaGreat