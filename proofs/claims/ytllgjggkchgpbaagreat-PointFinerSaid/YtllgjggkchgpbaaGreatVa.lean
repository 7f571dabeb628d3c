/- V: terms, values, operations, boxes. -/
import Derived.Test.YtllgjggkchgpbaaGreatWk
import Derived.Deep.MidRow
import Derived.Shelf.Abstract
set_option linter.unusedVariables false
set_option linter.unusedSimpArgs false
namespace Go.Proofs.YtllgjggkchgpbaaGreat
open Go.RowKit Go.Shelf
namespace V
inductive T where
  | v (i:Nat)
  | n (z:Int)
  | add (a b:T)
  | sub (a b:T)
  | mul (a b:T)
  | lt (a b:T)
  | le (a b:T)
  | eq (a b:T)
  | not (a:T)
  | and (a b:T)
  | or (a b:T)
  | ite (a b d:T)
  | ap (f:Nat) (l:T)
  | e
  | c (a l:T)
def b2i (b:Bool):Int:=if b then 1 else 0
structure Sym where
  f:Nat→List Int→Int
def T.den2 (F:Nat→List Int→Int) (ρ:Nat→Int):T→Int×List Int
  | .v i=>(ρ i,[])
  | .n z=>(z,[])
  | .add a b=>((a.den2 F ρ).1+(b.den2 F ρ).1,[])
  | .sub a b=>((a.den2 F ρ).1 - (b.den2 F ρ).1,[])
  | .mul a b=>((a.den2 F ρ).1*(b.den2 F ρ).1,[])
  | .lt a b=>(b2i (decide ((a.den2 F ρ).1<(b.den2 F ρ).1)),[])
  | .le a b=>(b2i (decide ((a.den2 F ρ).1≤(b.den2 F ρ).1)),[])
  | .eq a b=>(b2i ((a.den2 F ρ).1 == (b.den2 F ρ).1),[])
  | .not a=>(b2i (!((a.den2 F ρ).1 != 0)),[])
  | .and a b=>(b2i (((a.den2 F ρ).1 != 0) && ((b.den2 F ρ).1 != 0)),[])
  | .or a b=>(b2i (((a.den2 F ρ).1 != 0) || ((b.den2 F ρ).1 != 0)),[])
  | .ite a b d=>(if (a.den2 F ρ).1 != 0 then (b.den2 F ρ).1 else (d.den2 F ρ).1,[])
  | .ap f l=>(F f (l.den2 F ρ).2,[])
  | .e=>(0,[])
  | .c a l=>(0,(a.den2 F ρ).1::(l.den2 F ρ).2)
def T.den (F:Nat→List Int→Int) (ρ:Nat→Int) (t:T):Int:=(t.den2 F ρ).1
def T.denL (F:Nat→List Int→Int) (ρ:Nat→Int) (t:T):List Int:=(t.den2 F ρ).2
def T.bd (F:Nat→List Int→Int) (ρ:Nat→Int) (t:T):Bool:=t.den F ρ != 0
section
variable {F:Nat→List Int→Int} {ρ:Nat→Int}
theorem jc7 {z:Int}:(T.n z).den F ρ=z:=rfl
theorem jd7 {a b:T}:(T.add a b).den F ρ=a.den F ρ+b.den F ρ:=rfl
theorem jfz {a b:T}:(T.sub a b).den F ρ=a.den F ρ - b.den F ρ:=rfl
theorem jc3 {a b:T}:(T.mul a b).den F ρ=a.den F ρ*b.den F ρ:=rfl
theorem jb8 {a b d:T}:(T.ite a b d).den F ρ=if a.bd F ρ then b.den F ρ else d.den F ρ:=rfl
theorem js5 {f:Nat} {l:T}:(T.ap f l).den F ρ=F f (l.denL F ρ):=rfl
theorem js6 {a l:T}:(T.c a l).denL F ρ=a.den F ρ::l.denL F ρ:=rfl
theorem jcu (b:Bool):(b2i b != 0)=b:=by cases b <;> rfl
theorem bd_lt {a b:T}:(T.lt a b).bd F ρ=decide (a.den F ρ<b.den F ρ):=jcu _
theorem bd_le {a b:T}:(T.le a b).bd F ρ=decide (a.den F ρ≤b.den F ρ):=jcu _
theorem jcy {a b:T}:(T.eq a b).bd F ρ=(a.den F ρ == b.den F ρ):=jcu _
theorem jax {a:T}:(T.not a).bd F ρ=!(a.bd F ρ):=jcu _
theorem jck {a b:T}:(T.and a b).bd F ρ=(a.bd F ρ && b.bd F ρ):=jcu _
theorem jew {a b:T}:(T.or a b).bd F ρ=(a.bd F ρ || b.bd F ρ):=jcu _
theorem jbm (b:Bool):0≤b2i b∧b2i b≤1:=by cases b <;> decide
end
def zeq (a b:Int):Bool:=match a,b with
  | .ofNat m,.ofNat n=>Nat.beq m n
  | .negSucc m,.negSucc n=>Nat.beq m n
  | _,_=>false
theorem j3e {a b:Int} (h:zeq a b=true):a=b:=by
  cases a <;> cases b <;> simp [zeq] at h <;> first | (rw [h]) | cases h
def T.same:T→T→Bool
  | .v i,.v j=>Nat.beq i j
  | .n z,.n y=>zeq z y
  | .add a b,.add a' b'=>a.same a' && b.same b'
  | .sub a b,.sub a' b'=>a.same a' && b.same b'
  | .mul a b,.mul a' b'=>a.same a' && b.same b'
  | .lt a b,.lt a' b'=>a.same a' && b.same b'
  | .le a b,.le a' b'=>a.same a' && b.same b'
  | .eq a b,.eq a' b'=>a.same a' && b.same b'
  | .not a,.not a'=>a.same a'
  | .and a b,.and a' b'=>a.same a' && b.same b'
  | .or a b,.or a' b'=>a.same a' && b.same b'
  | .ite a b d,.ite a' b' d'=>a.same a' && b.same b' && d.same d'
  | .ap f l,.ap f' l'=>Nat.beq f f' && l.same l'
  | .e,.e=>true
  | .c a l,.c a' l'=>a.same a' && l.same l'
  | _,_=>false
theorem T.same_eq:∀{a b:T},a.same b=true→a=b
  | .v i,b,h=>by cases b <;> simp [T.same] at h <;> first | (rw [h]) | cases h
  | .n z,b,h=>by cases b <;> simp [T.same] at h <;> first | (rw [j3e h]) | cases h
  | .add a b,d,h=>by cases d <;> simp [T.same] at h <;> first | (rw [T.same_eq h.1,T.same_eq h.2]) | cases h
  | .sub a b,d,h=>by cases d <;> simp [T.same] at h <;> first | (rw [T.same_eq h.1,T.same_eq h.2]) | cases h
  | .mul a b,d,h=>by cases d <;> simp [T.same] at h <;> first | (rw [T.same_eq h.1,T.same_eq h.2]) | cases h
  | .lt a b,d,h=>by cases d <;> simp [T.same] at h <;> first | (rw [T.same_eq h.1,T.same_eq h.2]) | cases h
  | .le a b,d,h=>by cases d <;> simp [T.same] at h <;> first | (rw [T.same_eq h.1,T.same_eq h.2]) | cases h
  | .eq a b,d,h=>by cases d <;> simp [T.same] at h <;> first | (rw [T.same_eq h.1,T.same_eq h.2]) | cases h
  | .not a,d,h=>by cases d <;> simp [T.same] at h <;> first | (rw [T.same_eq h]) | cases h
  | .and a b,d,h=>by cases d <;> simp [T.same] at h <;> first | (rw [T.same_eq h.1,T.same_eq h.2]) | cases h
  | .or a b,d,h=>by cases d <;> simp [T.same] at h <;> first | (rw [T.same_eq h.1,T.same_eq h.2]) | cases h
  | .ite a b d,x,h=>by cases x <;> simp [T.same] at h <;> first | (rw [T.same_eq h.1.1,T.same_eq h.1.2,T.same_eq h.2]) | cases h
  | .ap f l,d,h=>by cases d <;> simp [T.same] at h <;> first | (rw [h.1,T.same_eq h.2]) | cases h
  | .e,d,h=>by cases d <;> simp [T.same] at h <;> first | rfl | cases h
  | .c a l,d,h=>by cases d <;> simp [T.same] at h <;> first | (rw [T.same_eq h.1,T.same_eq h.2]) | cases h
abbrev Iv:=Option Int×Option Int
def inIv (z:Int) (i:Iv):Prop:=(∀l,i.1=some l→l≤z)∧(∀u,i.2=some u→z≤u)
theorem jd8 (z:Int):inIv z (none,none):=⟨fun _ h=>(by cases h),fun _ h=>(by cases h)⟩
def omax:Option Int→Option Int→Option Int
  | some a,some b=>some (if a≤b then b else a)
  | some a,none=>some a
  | none,b=>b
def omin:Option Int→Option Int→Option Int
  | some a,some b=>some (if a≤b then a else b)
  | some a,none=>some a
  | none,b=>b
def meet (i j:Iv):Iv:=(omax i.1 j.1,omin i.2 j.2)
theorem jd9 {z:Int} {i j:Iv} (h:inIv z i) (k:inIv z j):inIv z (meet i j):=by
  obtain ⟨a,b⟩:=i;obtain ⟨a',b'⟩:=j;refine ⟨fun l hl=>?_,fun u hu=>?_⟩
  · have h1:=h.1
    have k1:=k.1
    cases a <;> cases a' <;> simp [meet,omax] at hl h1 k1
    · omega
    · omega
    · split at hl <;> omega
  · have h1:=h.2
    have k1:=k.2
    cases b <;> cases b' <;> simp [meet,omin] at hu h1 k1
    · omega
    · omega
    · split at hu <;> omega
def oadd:Option Int→Option Int→Option Int
  | some a,some b=>some (a+b)
  | _,_=>none
def oneg:Option Int→Option Int
  | some a=>some (-a)
  | none=>none
def ivAdd (i j:Iv):Iv:=(oadd i.1 j.1,oadd i.2 j.2)
def ivNeg (i:Iv):Iv:=(oneg i.2,oneg i.1)
def ivHull (i j:Iv):Iv:=(match i.1,j.1 with | some a,some b=>some (if a≤b then a else b) | _,_=>none,match i.2,j.2 with | some a,some b=>some (if a≤b then b else a) | _,_=>none)
def zmn (a b:Int):Int:=if a≤b then a else b
def zmx (a b:Int):Int:=if a≤b then b else a
theorem jz8 {a b a' b' x y:Int} (h1:a≤x) (h2:x≤b) (k1:a'≤y) (k2:y≤b') :
    zmn (zmn (a*a') (a*b')) (zmn (b*a') (b*b'))≤x*y∧x*y≤zmx (zmx (a*a') (a*b')) (zmx (b*a') (b*b')):=by
  have one:∀c:Int,(c*a'≤c*y∧c*y≤c*b')∨(c*b'≤c*y∧c*y≤c*a'):=fun c=>by
    rcases Int.le_total 0 c with h | h
    · exact .inl ⟨Int.mul_le_mul_of_nonneg_left k1 h,Int.mul_le_mul_of_nonneg_left k2 h⟩
    · exact .inr ⟨Int.mul_le_mul_of_nonpos_left h k2,Int.mul_le_mul_of_nonpos_left h k1⟩
  have two:(a*y≤x*y∧x*y≤b*y)∨(b*y≤x*y∧x*y≤a*y):=by
    rcases Int.le_total 0 y with h | h
    · exact .inl ⟨Int.mul_le_mul_of_nonneg_right h1 h,Int.mul_le_mul_of_nonneg_right h2 h⟩
    · exact .inr ⟨Int.mul_le_mul_of_nonpos_right h2 h,Int.mul_le_mul_of_nonpos_right h1 h⟩
  have o1:=one a;have o2:=one b;clear one
  generalize a*a'=p at *
  generalize a*b'=q at *
  generalize b*a'=r at *
  generalize b*b'=s at *
  generalize a*y=u at *
  generalize b*y=v at *
  generalize x*y=m at *
  unfold zmn zmx
  constructor
  · split <;> split <;> split <;> omega
  · split <;> split <;> split <;> omega
def ivMul (i j:Iv):Iv:=match i,j with
  | (some a,b),(some a',b')=>if 0≤a∧0≤a' then (some (a*a'),match b,b' with | some b,some b'=>some (b*b') | _,_=>none)
      else match b,b' with
        | some b,some b'=>if a=b then (if a≤0 then (some (a*b'),some (a*a')) else (some (a*a'),some (a*b'))) else if a'=b' then (if a'≤0 then (some (b*a'),some (a*a')) else (some (a*a'),some (b*a'))) else (some (zmn (zmn (a*a') (a*b')) (zmn (b*a') (b*b'))),some (zmx (zmx (a*a') (a*b')) (zmx (b*a') (b*b'))))
        | _,_=>(none,none)
  | _,_=>(none,none)
theorem joi {x y:Int} {i j:Iv} (h:inIv x i) (k:inIv y j):inIv (x+y) (ivAdd i j):=by
  obtain ⟨a,b⟩:=i;obtain ⟨a',b'⟩:=j;refine ⟨fun l hl=>?_,fun u hu=>?_⟩
  · have h1:=h.1
    have k1:=k.1
    cases a <;> cases a' <;> simp [ivAdd,oadd] at hl h1 k1
    omega
  · have h1:=h.2
    have k1:=k.2
    cases b <;> cases b' <;> simp [ivAdd,oadd] at hu h1 k1
    omega
theorem jvw {x:Int} {i:Iv} (h:inIv x i):inIv (-x) (ivNeg i):=by
  obtain ⟨a,b⟩:=i;refine ⟨fun l hl=>?_,fun u hu=>?_⟩
  · have h1:=h.2
    cases b <;> simp [ivNeg,oneg] at hl h1
    omega
  · have h1:=h.1
    cases a <;> simp [ivNeg,oneg] at hu h1
    omega
theorem jvx {x y:Int} {i j:Iv} (h:inIv x i) (k:inIv y j):inIv (x - y) (ivAdd i (ivNeg j)):=by
  rw [Int.sub_eq_add_neg];exact joi h (jvw k)
theorem js7 {x:Int} {i j:Iv} (h:inIv x i∨inIv x j):inIv x (ivHull i j):=by
  obtain ⟨a,b⟩:=i;obtain ⟨a',b'⟩:=j;refine ⟨fun l hl=>?_,fun u hu=>?_⟩
  · cases a <;> cases a' <;> simp [ivHull] at hl
    rcases h with h | h <;> have h1:=h.1 _ rfl <;> split at hl <;> omega
  · cases b <;> cases b' <;> simp [ivHull] at hu
    rcases h with h | h <;> have h1:=h.2 _ rfl <;> split at hu <;> omega
theorem jvy {x y:Int} {i j:Iv} (h:inIv x i) (k:inIv y j):inIv (x*y) (ivMul i j):=by
  obtain ⟨a,b⟩:=i;obtain ⟨a',b'⟩:=j;unfold ivMul
  split
  · rename_i a0 b0 a1 b1 e1 e2
    cases e1
    cases e2
    have h1:=h.1 _ rfl;have k1:=k.1 _ rfl
    split
    · rename_i hp
      refine ⟨fun l hl=>?_,fun u hu=>?_⟩
      · cases hl
        exact Int.mul_le_mul h1 k1 hp.2 (by omega)
      · dsimp only at hu
        split at hu
        · rename_i b2 b3 e3 e4
          cases hu
          exact Int.mul_le_mul (h.2 _ rfl) (k.2 _ rfl) (by omega) (Int.le_trans hp.1 (Int.le_trans h1 (h.2 _ rfl)))
        · cases hu
    · split
      · rename_i b2 b3 
        have h2:=h.2 _ rfl;have k2:=k.2 _ rfl
        split
        · rename_i e5
          subst e5;obtain rfl:x=a0:=by omega
          split
          · rename_i e6
            refine ⟨fun l hl=>?_,fun u hu=>?_⟩
            · cases hl
              exact Int.mul_le_mul_of_nonpos_left e6 k2
            · cases hu
              exact Int.mul_le_mul_of_nonpos_left e6 k1
          · refine ⟨fun l hl=>?_,fun u hu=>?_⟩
            · cases hl
              exact Int.mul_le_mul_of_nonneg_left k1 (by omega)
            · cases hu
              exact Int.mul_le_mul_of_nonneg_left k2 (by omega)
        · split
          · rename_i e5
            subst e5;obtain rfl:y=a1:=by omega
            split
            · rename_i e6
              refine ⟨fun l hl=>?_,fun u hu=>?_⟩
              · cases hl
                exact Int.mul_le_mul_of_nonpos_right h2 e6
              · cases hu
                exact Int.mul_le_mul_of_nonpos_right h1 e6
            · refine ⟨fun l hl=>?_,fun u hu=>?_⟩
              · cases hl
                exact Int.mul_le_mul_of_nonneg_right h1 (by omega)
              · cases hu
                exact Int.mul_le_mul_of_nonneg_right h2 (by omega)
          · have hb:=jz8 h1 h2 k1 k2
            exact ⟨fun l hl=>by cases hl;exact hb.1,fun u hu=>by cases hu;exact hb.2⟩
      · exact jd8 _
  · exact jd8 _
def ivOf (t:T):T→Iv
  | .le (.n z) s=>if s.same t then (some z,none) else (none,none)
  | .le s (.n z)=>if s.same t then (none,some z) else (none,none)
  | .lt (.n z) s=>if s.same t then (some (z+1),none) else (none,none)
  | .lt s (.n z)=>if s.same t then (none,some (z - 1)) else (none,none)
  | .eq s (.n z)=>if s.same t then (some z,some z) else (none,none)
  | .not (.le (.n z) s)=>if s.same t then (none,some (z - 1)) else (none,none)
  | .not (.le s (.n z))=>if s.same t then (some (z+1),none) else (none,none)
  | .not (.lt (.n z) s)=>if s.same t then (none,some z) else (none,none)
  | .not (.lt s (.n z))=>if s.same t then (some z,none) else (none,none)
  | _=>(none,none)
def ivFacts (t:T):List T→Iv
  | []=>(none,none)
  | f::fs=>meet (ivOf t f) (ivFacts t fs)
def allT (F:Nat→List Int→Int) (ρ:Nat→Int):List T→Prop
  | []=>True
  | f::fs=>f.bd F ρ=true∧allT F ρ fs
theorem jz9 {F:Nat→List Int→Int} {ρ:Nat→Int} {t f:T} (h:f.bd F ρ=true):inIv (t.den F ρ) (ivOf t f):=by
  have lo:∀{z l:Int} {s:T},s.same t=true→z≤s.den F ρ→some z=some l→l≤t.den F ρ:=fun hs hz hl=>by
    cases hl;rw [←T.same_eq hs];exact hz
  have up:∀{z l:Int} {s:T},s.same t=true→s.den F ρ≤z→some z=some l→t.den F ρ≤l:=fun hs hz hl=>by
    cases hl;rw [←T.same_eq hs];exact hz
  unfold ivOf
  split
  all_goals first | exact jd8 _ | skip
  all_goals (split;rotate_left;exact jd8 _)
  all_goals rename_i hs
  · exact ⟨fun l hl=>lo hs (of_decide_eq_true (bd_le.symm.trans h)) hl,fun u hu=>(by cases hu)⟩
  · exact ⟨fun l hl=>(by cases hl),fun u hu=>up hs (of_decide_eq_true (bd_le.symm.trans h)) hu⟩
  · exact ⟨fun l hl=>lo hs (Int.add_one_le_of_lt (of_decide_eq_true (bd_lt.symm.trans h))) hl,fun u hu=>(by cases hu)⟩
  · exact ⟨fun l hl=>(by cases hl),fun u hu=>up hs (Int.le_sub_one_of_lt (of_decide_eq_true (bd_lt.symm.trans h))) hu⟩
  · have e:=beq_iff_eq.1 ((jcy (F:=F) (ρ:=ρ)).symm.trans h)
    exact ⟨fun l hl=>lo hs (Int.le_of_eq e.symm) hl,fun u hu=>up hs (Int.le_of_eq e) hu⟩
  · rw [jax,Bool.not_eq_true',bd_le] at h
    exact ⟨fun l hl=>(by cases hl),fun u hu=>up hs (Int.le_sub_one_of_lt (Int.not_le.1 (of_decide_eq_false h))) hu⟩
  · rw [jax,Bool.not_eq_true',bd_le] at h
    exact ⟨fun l hl=>lo hs (Int.add_one_le_of_lt (Int.not_le.1 (of_decide_eq_false h))) hl,fun u hu=>(by cases hu)⟩
  · rw [jax,Bool.not_eq_true',bd_lt] at h
    exact ⟨fun l hl=>(by cases hl),fun u hu=>up hs (Int.not_lt.1 (of_decide_eq_false h)) hu⟩
  · rw [jax,Bool.not_eq_true',bd_lt] at h
    exact ⟨fun l hl=>lo hs (Int.not_lt.1 (of_decide_eq_false h)) hl,fun u hu=>(by cases hu)⟩
theorem jbs {F:Nat→List Int→Int} {ρ:Nat→Int} {t:T}:∀{fs:List T},allT F ρ fs→inIv (t.den F ρ) (ivFacts t fs)
  | [],_=>jd8 _
  | _::_,h=>jd9 (jz9 h.1) (jbs h.2)
def hasT (t:T):List T→Bool
  | []=>false
  | f::fs=>f.same t || hasT t fs
theorem jb9 {F:Nat→List Int→Int} {ρ:Nat→Int} {t:T}:∀{fs:List T},allT F ρ fs→hasT t fs=true→t.bd F ρ=true
  | [],_,k=>by cases k
  | f::fs,h,k=>by
    simp only [hasT,Bool.or_eq_true] at k
    rcases k with k | k
    · rw [←T.same_eq k];exact h.1
    · exact jb9 h.2 k
def neB (t:T) (fs:List T) (i:Iv):Iv:=match i.1 with
  | some l=>if hasT (.not (.eq t (.n l))) fs then (some (l+1),i.2) else i
  | none=>i
theorem joj {F:Nat→List Int→Int} {ρ:Nat→Int} {fs:List T} (h:allT F ρ fs) {t:T} {i:Iv} (k:inIv (t.den F ρ) i):inIv (t.den F ρ) (neB t fs i):=by
  unfold neB
  split
  · rename_i l e
    split
    · rename_i hh
      have h1:=jb9 h hh;rw [jax,jcy] at h1
      have h2:t.den F ρ≠l:=fun e'=>by
        rw [show (T.n l).den F ρ=l from rfl,e'] at h1;simp at h1
      have h3:=k.1 _ e;exact ⟨fun l' hl=>by cases hl;omega,k.2⟩
    · exact k
  · exact k
def iv (fs:List T):T→Iv
  | .n z=>(some z,some z)
  | .add a b=>meet (ivAdd (iv fs a) (iv fs b)) (ivFacts (.add a b) fs)
  | .sub a b=>meet (ivAdd (iv fs a) (ivNeg (iv fs b))) (ivFacts (.sub a b) fs)
  | .mul a b=>meet (ivMul (iv fs a) (iv fs b)) (ivFacts (.mul a b) fs)
  | .ite a b d=>meet (ivHull (iv fs b) (iv fs d)) (ivFacts (.ite a b d) fs)
  | .lt _ _ | .le _ _ | .eq _ _ | .not _ | .and _ _ | .or _ _=>(some 0,some 1)
  | t=>neB t fs (ivFacts t fs)
theorem jd0 {F:Nat→List Int→Int} {ρ:Nat→Int} {fs:List T} (h:allT F ρ fs):∀(t:T),inIv (t.den F ρ) (iv fs t)
  | .n z=>⟨fun _ h=>(by cases h;exact Int.le_refl _),fun _ h=>(by cases h;exact Int.le_refl _)⟩
  | .add a b=>jd9 (joi (jd0 h a) (jd0 h b)) (jbs h)
  | .sub a b=>jd9 (jvx (jd0 h a) (jd0 h b)) (jbs h)
  | .mul a b=>jd9 (jvy (jd0 h a) (jd0 h b)) (jbs h)
  | .ite a b d=>by
    refine jd9 (js7 ?_) (jbs h);rw [jb8]
    split
    · exact .inl (jd0 h b)
    · exact .inr (jd0 h d)
  | .lt a b=>⟨fun _ h=>(by cases h;exact (jbm _).1),fun _ h=>(by cases h;exact (jbm _).2)⟩
  | .le a b=>⟨fun _ h=>(by cases h;exact (jbm _).1),fun _ h=>(by cases h;exact (jbm _).2)⟩
  | .eq a b=>⟨fun _ h=>(by cases h;exact (jbm _).1),fun _ h=>(by cases h;exact (jbm _).2)⟩
  | .not a=>⟨fun _ h=>(by cases h;exact (jbm _).1),fun _ h=>(by cases h;exact (jbm _).2)⟩
  | .and a b=>⟨fun _ h=>(by cases h;exact (jbm _).1),fun _ h=>(by cases h;exact (jbm _).2)⟩
  | .or a b=>⟨fun _ h=>(by cases h;exact (jbm _).1),fun _ h=>(by cases h;exact (jbm _).2)⟩
  | .v _=>joj h (jbs h)
  | .ap _ _=>joj h (jbs h)
  | .e=>joj h (jbs h)
  | .c _ _=>joj h (jbs h)
def within (fs:List T) (t:T) (lo hi:Int):Bool:=match iv fs t with
  | (some a,some b)=>decide (lo≤a) && decide (b≤hi)
  | _=>false
theorem js8 {F:Nat→List Int→Int} {ρ:Nat→Int} {fs:List T} (h:allT F ρ fs) {t:T} {lo hi:Int} (k:within fs t lo hi=true):lo≤t.den F ρ∧t.den F ρ≤hi:=by
  have hi':=jd0 h t;unfold within at k
  split at k
  · rename_i a b e
    rw [e] at hi';have h1:=hi'.1 _ rfl;have h2:=hi'.2 _ rfl;simp at k
    omega
  · cases k
def olt:Option Int→Option Int→Bool
  | some u,some l=>decide (u<l)
  | _,_=>false
def ole:Option Int→Option Int→Bool
  | some u,some l=>decide (u≤l)
  | _,_=>false
theorem j3f {x y:Option Int} (h:olt x y=true):∃u l,x=some u∧y=some l∧u<l:=by
  cases x <;> cases y <;> simp [olt] at h
  exact ⟨_,_,rfl,rfl,h⟩
theorem j3g {x y:Option Int} (h:ole x y=true):∃u l,x=some u∧y=some l∧u≤l:=by
  cases x <;> cases y <;> simp [ole] at h
  exact ⟨_,_,rfl,rfl,h⟩
def ltIv (fs:List T) (a b:T):Option Bool:=
  bif olt (iv fs a).2 (iv fs b).1 then some true else bif ole (iv fs b).2 (iv fs a).1 then some false else none
theorem jf0 {F:Nat→List Int→Int} {ρ:Nat→Int} {fs:List T} (h:allT F ρ fs) {a b:T} {r:Bool} (k:ltIv fs a b=some r):decide (a.den F ρ<b.den F ρ)=r:=by
  have ha:=jd0 h a;have hb:=jd0 h b;unfold ltIv at k
  cases h1:olt (iv fs a).2 (iv fs b).1 with
  | true=>
    rw [h1] at k
    cases k
    obtain ⟨u,l,e1,e2,e3⟩:=j3f h1;have:=ha.2 _ e1;have:=hb.1 _ e2;exact decide_eq_true (by omega)
  | false=>
    rw [h1] at k
    cases h2:ole (iv fs b).2 (iv fs a).1 with
    | true=>
      rw [h2] at k
      cases k
      obtain ⟨u,l,e1,e2,e3⟩:=j3g h2;have:=hb.2 _ e1;have:=ha.1 _ e2;exact decide_eq_false (by omega)
    | false=>rw [h2] at k;cases k
def known (fs:List T):T→Option Bool
  | .n z=>some (z != 0)
  | .not a=>(known fs a).map (!·)
  | .and a b=>match known fs a,known fs b with
    | some false,_=>some false
    | _,some false=>some false
    | some true,some true=>some true
    | _,_=>if hasT (.and a b) fs then some true else if hasT (.not (.and a b)) fs then some false else none
  | .or a b=>match known fs a,known fs b with
    | some true,_=>some true
    | _,some true=>some true
    | some false,some false=>some false
    | _,_=>if hasT (.or a b) fs then some true else if hasT (.not (.or a b)) fs then some false else none
  | .lt a b=>match ltIv fs a b with
    | some r=>some r
    | none=>if a.same b then some false else if hasT (.lt a b) fs then some true else if hasT (.not (.lt a b)) fs || hasT (.le b a) fs || hasT (.eq a b) fs then some false else none
  | .le a b=>match ltIv fs b a with
    | some r=>some (!r)
    | none=>if a.same b then some true else if hasT (.le a b) fs || hasT (.lt a b) fs || hasT (.eq a b) fs then some true else if hasT (.not (.le a b)) fs || hasT (.lt b a) fs then some false else none
  | .eq a b=>if a.same b || hasT (.eq a b) fs || hasT (.eq b a) fs then some true
    else if ltIv fs a b == some true || ltIv fs b a == some true || hasT (.not (.eq a b)) fs || hasT (.lt a b) fs || hasT (.lt b a) fs then some false
    else if ltIv fs a b == some false && ltIv fs b a == some false then some true else none
  | t=>if hasT t fs then some true else if hasT (.not t) fs then some false else none
theorem jbx {F:Nat→List Int→Int} {ρ:Nat→Int} {fs:List T} (h:allT F ρ fs) {t:T} {r:Bool} (k:(if hasT t fs then some true else if hasT (.not t) fs then some false else none)=some r):t.bd F ρ=r:=by
  split at k
  · rename_i hh
    cases k
    exact jb9 h hh
  · split at k
    · rename_i hh
      cases k
      have:=jb9 h hh;rw [jax] at this
      simpa using this
    · cases k
theorem ja7 {F:Nat→List Int→Int} {ρ:Nat→Int} {fs:List T} (h:allT F ρ fs):∀(t:T) (r:Bool),known fs t=some r→t.bd F ρ=r
  | .n z,r,k=>by cases k;rfl
  | .not a,r,k=>by
    simp only [known] at k
    cases ha:known fs a with
    | none=>rw [ha] at k;cases k
    | some b=>
      rw [ha] at k
      cases k
      rw [jax,ja7 h a b ha]
  | .and a b,r,k=>by
    simp only [known] at k
    split at k
    · rename_i e;cases k;rw [jck,ja7 h a _ e];rfl
    · rename_i _ e;cases k;rw [jck,ja7 h b false (by assumption),Bool.and_false]
    · rename_i e e';cases k;rw [jck,ja7 h a _ e,ja7 h b _ e'];rfl
    · exact jbx h k
  | .or a b,r,k=>by
    simp only [known] at k
    split at k
    · rename_i e;cases k;rw [jew,ja7 h a _ e];rfl
    · rename_i _ e;cases k;rw [jew,ja7 h b true (by assumption),Bool.or_true]
    · rename_i e e';cases k;rw [jew,ja7 h a _ e,ja7 h b _ e'];rfl
    · exact jbx h k
  | .lt a b,r,k=>by
    simp only [known] at k;rw [bd_lt]
    split at k
    · rename_i e;cases k;exact jf0 h e
    · split at k
      · rename_i e;cases k;rw [T.same_eq e];exact decide_eq_false (by omega)
      · split at k
        · rename_i e;cases k;rw [←bd_lt];exact jb9 h e
        · split at k
          · rename_i e
            cases k
            simp only [Bool.or_eq_true] at e;refine decide_eq_false ?_
            rcases e with (e | e) | e <;> have:=jb9 h e
            · rw [jax,bd_lt] at this;simpa using this
            · rw [bd_le,decide_eq_true_eq] at this;omega
            · rw [jcy,beq_iff_eq] at this;omega
          · cases k
  | .le a b,r,k=>by
    simp only [known] at k;rw [bd_le]
    split at k
    · rename_i x e
      cases k
      have:=jf0 h e
      cases x
      · have:=of_decide_eq_false this;exact decide_eq_true (by omega)
      · have:=of_decide_eq_true this;exact decide_eq_false (by omega)
    · split at k
      · rename_i e;cases k;rw [T.same_eq e];exact decide_eq_true (by omega)
      · split at k
        · rename_i e
          cases k
          simp only [Bool.or_eq_true] at e;refine decide_eq_true ?_
          rcases e with (e | e) | e <;> have:=jb9 h e
          · rw [bd_le,decide_eq_true_eq] at this;omega
          · rw [bd_lt,decide_eq_true_eq] at this;omega
          · rw [jcy,beq_iff_eq] at this;omega
        · split at k
          · rename_i e
            cases k
            simp only [Bool.or_eq_true] at e;refine decide_eq_false ?_
            rcases e with e | e <;> have:=jb9 h e
            · rw [jax,bd_le] at this;simpa using this
            · rw [bd_lt,decide_eq_true_eq] at this;omega
          · cases k
  | .eq a b,r,k=>by
    simp only [known] at k;rw [jcy]
    split at k
    · rename_i e
      cases k
      simp only [Bool.or_eq_true] at e;rw [beq_iff_eq]
      rcases e with (e | e) | e
      · rw [T.same_eq e]
      · have:=jb9 h e;rw [jcy,beq_iff_eq] at this;exact this
      · have:=jb9 h e;rw [jcy,beq_iff_eq] at this;exact this.symm
    · split at k
      · rename_i e
        cases k
        simp only [Bool.or_eq_true,beq_iff_eq] at e;rw [beq_eq_false_iff_ne]
        rcases e with (((e | e) | e) | e) | e
        · have:=of_decide_eq_true (jf0 h e);omega
        · have:=of_decide_eq_true (jf0 h e);omega
        · have:=jb9 h e;rw [jax,jcy] at this;simpa using this
        · have:=jb9 h e;rw [bd_lt,decide_eq_true_eq] at this;omega
        · have:=jb9 h e;rw [bd_lt,decide_eq_true_eq] at this;omega
      · split at k
        · rename_i e
          cases k
          simp only [Bool.and_eq_true,beq_iff_eq] at e;have h1:=of_decide_eq_false (jf0 h e.1);have h2:=of_decide_eq_false (jf0 h e.2);rw [beq_iff_eq];omega
        · cases k
  | .v _,r,k=>jbx h k
  | .add _ _,r,k=>jbx h k
  | .sub _ _,r,k=>jbx h k
  | .mul _ _,r,k=>jbx h k
  | .ite _ _ _,r,k=>jbx h k
  | .ap _ _,r,k=>jbx h k
  | .e,r,k=>jbx h k
  | .c _ _,r,k=>jbx h k
def addA (c:Int) (t:T):List (Int×T)→List (Int×T)
  | []=>[(c,t)]
  | (d,s)::l=>if t.same s then (d+c,s)::l else (d,s)::addA c t l
def linA:Int→T→List (Int×T)×Int→List (Int×T)×Int
  | c,.add a b,p=>linA c b (linA c a p)
  | c,.sub a b,p=>linA (-c) b (linA c a p)
  | c,.n z,p=>(p.1,p.2+c*z)
  | c,.mul a b,p=>match a,b with
    | .n z,b=>linA (c*z) b p
    | a,.n z=>linA (c*z) a p
    | a,b=>(addA c (.mul a b) p.1,p.2)
  | c,t,p=>(addA c t p.1,p.2)
def zeroC:List (Int×T)→Bool
  | []=>true
  | (c,_)::l=>c == 0 && zeroC l
def takeF (p:List (Int×T)×Int):T→List (Int×T)×Int
  | .le a b=>linA (-1) b (linA 1 a p)
  | .lt a b=>linA 1 (.n 1) (linA (-1) b (linA 1 a p))
  | .not (.le a b)=>linA 1 (.n 1) (linA (-1) a (linA 1 b p))
  | .not (.lt a b)=>linA (-1) a (linA 1 b p)
  | .eq a b=>linA (-1) b (linA 1 a p)
  | _=>p
def okC (p:List (Int×T)×Int):Bool:=zeroC p.1 && decide (0≤p.2)
def pos2 (fs:List T) (p:List (Int×T)×Int):Bool:=okC p || fs.any (fun f=>okC (takeF p f)) || fs.any (fun f=>fs.any (fun h=>okC (takeF (takeF p f) h)))
def consF:T→List (List (Int×T)×Int)
  | .le a b=>[linA (-1) a (linA 1 b ([],0))]
  | .lt a b=>[linA (-1) (.n 1) (linA (-1) a (linA 1 b ([],0)))]
  | .not (.le a b)=>[linA (-1) (.n 1) (linA (-1) b (linA 1 a ([],0)))]
  | .not (.lt a b)=>[linA (-1) b (linA 1 a ([],0))]
  | .eq a b=>[linA (-1) a (linA 1 b ([],0)),linA (-1) b (linA 1 a ([],0))]
  | _=>[]
def firstA:List (Int×T)→Option (Int×T)
  | []=>none
  | (c,t)::l=>if c=0 then firstA l else some (c,t)
def coefA (t:T):List (Int×T)→Int
  | []=>0
  | (d,s)::l=>if t.same s then d else coefA t l
def scaleA (k:Int):List (Int×T)→List (Int×T)
  | []=>[]
  | (c,t)::l=>(k*c,t)::scaleA k l
def plusA (k:Int):List (Int×T)→List (Int×T)→List (Int×T)
  | [],l=>l
  | (c,t)::r,l=>plusA k r (addA (k*c) t l)
def dfs (fs:List T) (qs:List (List (Int×T)×Int)):Nat→Int→List (Int×T)×Int→Bool
  | n,m,p=>match firstA p.1 with
    | none=>decide (-m<p.2)
    | some (c,t)=>match n with
      | 0=>false
      | n+1=>(match (if 0<c then (iv fs t).1 else (iv fs t).2) with
        | some b=>dfs fs qs n m (addA (-c) t p.1,p.2+c*b)
        | none=>false) || qs.any (fun q=>if 0<c*coefA t q.1 then dfs fs qs n ((coefA t q.1).natAbs*m) (plusA (-c.natAbs) q.1 (scaleA (coefA t q.1).natAbs p.1),(coefA t q.1).natAbs*p.2 - c.natAbs*q.2) else false)
def posF (fs:List T) (p:List (Int×T)×Int):Bool:=pos2 fs p || dfs fs (fs.flatMap consF) 3 1 p
def knownL (fs:List T):T→Bool
  | .le a b=>posF fs (linA (-1) a (linA 1 b ([],0)))
  | .lt a b=>posF fs (linA (-1) (.n 1) (linA (-1) a (linA 1 b ([],0))))
  | _=>false
section
variable {F:Nat→List Int→Int} {ρ:Nat→Int}
def linS (F:Nat→List Int→Int) (ρ:Nat→Int):List (Int×T)→Int
  | []=>0
  | (c,t)::l=>c*t.den F ρ+linS F ρ l
def linD (F:Nat→List Int→Int) (ρ:Nat→Int) (p:List (Int×T)×Int):Int:=linS F ρ p.1+p.2
theorem jb4 {c:Int} {t:T}:∀{l:List (Int×T)},linS F ρ (addA c t l)=linS F ρ l+c*t.den F ρ
  | []=>by simp [addA,linS]
  | (d,s)::l=>by
    simp only [addA]
    split
    · rename_i e
      rw [T.same_eq e];simp only [linS];rw [Int.add_mul]
      omega
    · simp only [linS,jb4 (l:=l)]
      omega
theorem jar:∀(t:T) (c:Int) (p:List (Int×T)×Int),linD F ρ (linA c t p)=linD F ρ p+c*t.den F ρ
  | .add a b,c,p=>by
    rw [linA,jar b,jar a,jd7,Int.mul_add]
    omega
  | .sub a b,c,p=>by
    rw [linA,jar b,jar a,jfz,Int.mul_sub,Int.neg_mul]
    omega
  | .n z,c,p=>by
    simp only [linA,linD,jc7]
    omega
  | .mul a b,c,p=>by
    unfold linA
    split
    · rename_i z
      rw [jar b,jc3,jc7,Int.mul_assoc]
    · rename_i z _
      rw [jar a,jc3,jc7,Int.mul_assoc,Int.mul_comm z]
    · simp only [linD,jb4];omega
  | .v i,c,p=>by simp only [linA,linD,jb4];omega
  | .lt a b,c,p=>by simp only [linA,linD,jb4];omega
  | .le a b,c,p=>by simp only [linA,linD,jb4];omega
  | .eq a b,c,p=>by simp only [linA,linD,jb4];omega
  | .not a,c,p=>by simp only [linA,linD,jb4];omega
  | .and a b,c,p=>by simp only [linA,linD,jb4];omega
  | .or a b,c,p=>by simp only [linA,linD,jb4];omega
  | .ite a b d,c,p=>by simp only [linA,linD,jb4];omega
  | .ap f l,c,p=>by simp only [linA,linD,jb4];omega
  | .e,c,p=>by simp only [linA,linD,jb4];omega
  | .c a l,c,p=>by simp only [linA,linD,jb4];omega
theorem jok:∀{l:List (Int×T)},zeroC l=true→linS F ρ l=0
  | [],_=>rfl
  | (c,t)::l,h=>by
    simp only [zeroC,Bool.and_eq_true,beq_iff_eq] at h;simp only [linS,h.1,Int.zero_mul,jok h.2]
    rfl
theorem js9 {p:List (Int×T)×Int} (h:okC p=true):0≤linD F ρ p:=by
  unfold okC at h;rw [Bool.and_eq_true,decide_eq_true_eq] at h;unfold linD;rw [jok h.1]
  omega
theorem jj0 {p:List (Int×T)×Int} {f:T} (hf:f.bd F ρ=true):linD F ρ (takeF p f)≤linD F ρ p:=by
  unfold takeF
  split
  · rename_i a b
    rw [bd_le,decide_eq_true_eq] at hf;rw [jar,jar]
    omega
  · rename_i a b
    rw [bd_lt,decide_eq_true_eq] at hf;rw [jar,jar,jar,jc7]
    omega
  · rename_i a b
    rw [jax,bd_le,Bool.not_eq_true',decide_eq_false_iff_not] at hf;rw [jar,jar,jar,jc7]
    omega
  · rename_i a b
    rw [jax,bd_lt,Bool.not_eq_true',decide_eq_false_iff_not] at hf;rw [jar,jar]
    omega
  · rename_i a b
    rw [jcy,beq_iff_eq] at hf;rw [jar,jar]
    omega
  · exact Int.le_refl _
theorem jdu:∀{fs:List T},allT F ρ fs→∀f∈fs,f.bd F ρ=true
  | [],_,_,h=>by cases h
  | x::l,hf,f,h=>by
    rcases List.mem_cons.1 h with rfl | h
    · exact hf.1
    · exact jdu hf.2 f h
theorem j0a {fs:List T} (hf:allT F ρ fs) {p:List (Int×T)×Int} (h:pos2 fs p=true):0≤linD F ρ p:=by
  unfold pos2 at h;simp only [Bool.or_eq_true] at h
  rcases h with (h | h) | h
  · exact js9 h
  · obtain ⟨f,hm,hk⟩:=List.any_eq_true.1 h
    exact Int.le_trans (js9 hk) (jj0 (jdu hf f hm))
  · obtain ⟨f,hm,hk⟩:=List.any_eq_true.1 h
    obtain ⟨f',hm',hk'⟩:=List.any_eq_true.1 hk;exact Int.le_trans (Int.le_trans (js9 hk') (jj0 (jdu hf f' hm'))) (jj0 (jdu hf f hm))
theorem jvz {f:T} (hf:f.bd F ρ=true):∀q∈consF f,0≤linD F ρ q:=by
  intro q hq;have z:linD F ρ ([],0)=0:=rfl;unfold consF at hq
  split at hq
  · rename_i a b
    rw [bd_le,decide_eq_true_eq] at hf;rw [List.mem_singleton] at hq;rw [hq,jar,jar,z]
    omega
  · rename_i a b
    rw [bd_lt,decide_eq_true_eq] at hf;rw [List.mem_singleton] at hq;rw [hq,jar,jar,jar,jc7,z]
    omega
  · rename_i a b
    rw [jax,bd_le,Bool.not_eq_true',decide_eq_false_iff_not] at hf;rw [List.mem_singleton] at hq;rw [hq,jar,jar,jar,jc7,z]
    omega
  · rename_i a b
    rw [jax,bd_lt,Bool.not_eq_true',decide_eq_false_iff_not] at hf;rw [List.mem_singleton] at hq;rw [hq,jar,jar,z]
    omega
  · rename_i a b
    rw [jcy,beq_iff_eq] at hf;simp only [List.mem_cons,List.not_mem_nil,or_false] at hq
    rcases hq with rfl | rfl <;> rw [jar,jar,z] <;> omega
  · cases hq
theorem jho:∀{l:List (Int×T)},firstA l=none→linS F ρ l=0
  | [],_=>rfl
  | (c,t)::l,h=>by
    simp only [firstA] at h
    split at h
    · rename_i e
      simp only [linS,e,Int.zero_mul,jho h]
      rfl
    · cases h
theorem jlf (k:Int):∀{l:List (Int×T)},linS F ρ (scaleA k l)=k*linS F ρ l
  | []=>by simp [scaleA,linS]
  | (c,t)::l=>by simp only [scaleA,linS,jlf k (l:=l),Int.mul_add,Int.mul_assoc]
theorem jol (k:Int):∀{r l:List (Int×T)},linS F ρ (plusA k r l)=linS F ρ l+k*linS F ρ r
  | [],l=>by simp [plusA,linS]
  | (c,t)::r,l=>by
    rw [plusA,jol k (r:=r),jb4];simp only [linS];rw [Int.mul_add,Int.mul_assoc]
    omega
theorem j3h {fs:List T} (hf:allT F ρ fs) {qs:List (List (Int×T)×Int)} (hq:∀q∈qs,0≤linD F ρ q) {g:Int}:∀(n:Nat) (m:Int) (p:List (Int×T)×Int),0<m→linD F ρ p≤m*g→dfs fs qs n m p=true→0≤g:=by
  have fin:∀(m:Int) (p:List (Int×T)×Int),0<m→linD F ρ p≤m*g→firstA p.1=none→-m<p.2→0≤g:=fun m p hm hp h1 h2=>by
    unfold linD at hp;rw [jho h1] at hp
    by_cases hg:0≤g
    · exact hg
    · exfalso
      have h3:m*g≤m*(-1):=Int.mul_le_mul_of_nonneg_left (by omega) (Int.le_of_lt hm);rw [Int.mul_neg,Int.mul_one] at h3
      omega
  intro n
  induction n with
  | zero=>
    intro m p hm hp h;unfold dfs at h
    split at h
    · rename_i h1
      exact fin m p hm hp h1 (of_decide_eq_true h)
    · cases h
  | succ n ih=>
    intro m p hm hp h;unfold dfs at h
    split at h
    · rename_i h1
      exact fin m p hm hp h1 (of_decide_eq_true h)
    · rename_i c t h1
      dsimp only at h
      rw [Bool.or_eq_true] at h
      rcases h with h | h
      · split at h
        · rename_i b hb
          refine ih m _ hm ?_ h;have hi:=jd0 hf t;unfold linD at hp ⊢
          dsimp only
          rw [jb4,Int.neg_mul]
          split at hb
          · rename_i hc
            have h2:=hi.1 b hb;have h3:c*b≤c*t.den F ρ:=Int.mul_le_mul_of_nonneg_left h2 (Int.le_of_lt hc)
            omega
          · rename_i hc
            have h2:=hi.2 b hb;have h3:c*b≤c*t.den F ρ:=Int.mul_le_mul_of_nonpos_left (by omega) h2
            omega
        · cases h
      · obtain ⟨q,hm1,h2⟩:=List.any_eq_true.1 h
        split at h2
        · rename_i hcd
          generalize hd:coefA t q.1=d at h2 hcd
          have hd0:0<(d.natAbs:Int):=by
            have:d≠0:=fun e=>by rw [e,Int.mul_zero] at hcd;omega
            omega
          refine ih _ _ (Int.mul_pos hd0 hm) ?_ h2;have h3:=hq q hm1;have h4:(d.natAbs:Int)*linD F ρ p≤d.natAbs*(m*g):=Int.mul_le_mul_of_nonneg_left hp (Int.le_of_lt hd0);have h5:0≤(c.natAbs:Int)*linD F ρ q:=Int.mul_nonneg (Int.natCast_nonneg _) h3;unfold linD at h4 h5 ⊢
          dsimp only
          rw [jol,jlf,Int.mul_assoc,Int.neg_mul];rw [Int.mul_add] at h4 h5
          omega
        · cases h2
theorem jta {fs:List T} (hf:allT F ρ fs) {p:List (Int×T)×Int} (h:posF fs p=true):0≤linD F ρ p:=by
  unfold posF at h;rw [Bool.or_eq_true] at h
  rcases h with h | h
  · exact j0a hf h
  · refine j3h hf (qs:=fs.flatMap consF) (fun q hq=>?_) 3 1 p (by decide) (by rw [Int.one_mul];exact Int.le_refl _) h
    obtain ⟨f,h1,h2⟩:=List.mem_flatMap.1 hq;exact jvz (jdu hf f h1) q h2
theorem jca {fs:List T} (hf:allT F ρ fs) {t:T} (h:knownL fs t=true):t.bd F ρ=true:=by
  unfold knownL at h
  split at h
  · have:=jta hf h
    rw [jar,jar] at this;simp only [linD,linS] at this;rw [bd_le,decide_eq_true_eq]
    omega
  · have:=jta hf h
    rw [jar,jar,jar,jc7] at this;simp only [linD,linS] at this;rw [bd_lt,decide_eq_true_eq]
    omega
  · cases h
end
def knownN (fs:List T) (t:T):Option Bool:=match knownL fs t with
  | true=>some true
  | false=>match t with
    | .le a b=>match knownL fs (.lt b a) with
      | true=>some false
      | false=>none
    | .lt a b=>match knownL fs (.le b a) with
      | true=>some false
      | false=>none
    | .eq a b=>match knownL fs (.lt a b) || knownL fs (.lt b a) with
      | true=>some false
      | false=>match knownL fs (.le a b) && knownL fs (.le b a) with
        | true=>some true
        | false=>none
    | _=>none
def known1 (fs:List T):T→Option Bool
  | .not a=>(known1 fs a).map (!·)
  | .and a b=>match known1 fs a,known1 fs b with
    | some false,_=>some false
    | _,some false=>some false
    | some true,some true=>some true
    | _,_=>known fs (.and a b)
  | .or a b=>match known1 fs a,known1 fs b with
    | some true,_=>some true
    | _,some true=>some true
    | some false,some false=>some false
    | _,_=>known fs (.or a b)
  | t=>match known fs t with
    | some b=>some b
    | none=>knownN fs t
section
variable {F:Nat→List Int→Int} {ρ:Nat→Int} {fs:List T}
theorem jtb (hf:allT F ρ fs) {t:T} {r:Bool} (h:knownN fs t=some r):t.bd F ρ=r:=by
  unfold knownN at h
  split at h
  · rename_i e;cases h;exact jca hf e
  · split at h
    · rename_i a b _
      split at h
      · rename_i e;cases h
        have:=jca hf e;rw [bd_lt,decide_eq_true_eq] at this;rw [bd_le,decide_eq_false_iff_not];omega
      · cases h
    · rename_i a b _
      split at h
      · rename_i e;cases h
        have:=jca hf e;rw [bd_le,decide_eq_true_eq] at this;rw [bd_lt,decide_eq_false_iff_not];omega
      · cases h
    · rename_i a b _
      split at h
      · rename_i e;cases h
        rw [Bool.or_eq_true] at e;rw [jcy,beq_eq_false_iff_ne]
        rcases e with e | e
        · have:=jca hf e
          rw [bd_lt,decide_eq_true_eq] at this
          omega
        · have:=jca hf e
          rw [bd_lt,decide_eq_true_eq] at this
          omega
      · split at h
        · rename_i e;cases h
          rw [Bool.and_eq_true] at e;have h1:=jca hf e.1;have h2:=jca hf e.2;rw [bd_le,decide_eq_true_eq] at h1 h2;rw [jcy,beq_iff_eq];omega
        · cases h
    · cases h
theorem ja2 (hf:allT F ρ fs) {t:T} {r:Bool} (h:(match known fs t with | some b=>some b | none=>knownN fs t)=some r):t.bd F ρ=r:=by
  split at h
  · rename_i b e;cases h;exact ja7 hf t _ e
  · exact jtb hf h
theorem jbi (hf:allT F ρ fs):∀(t:T) (r:Bool),known1 fs t=some r→t.bd F ρ=r
  | .not a,r,h=>by
    simp only [known1] at h;obtain ⟨b,e,rfl⟩:=Option.map_eq_some_iff.1 h;rw [jax,jbi hf a b e]
  | .and a b,r,h=>by
    simp only [known1] at h
    split at h
    · rename_i e;cases h;rw [jck,jbi hf a _ e];rfl
    · rename_i _ e;cases h;rw [jck,jbi hf b false (by assumption),Bool.and_false]
    · rename_i e e';cases h;rw [jck,jbi hf a _ e,jbi hf b _ e'];rfl
    · exact ja7 hf _ _ h
  | .or a b,r,h=>by
    simp only [known1] at h
    split at h
    · rename_i e;cases h;rw [jew,jbi hf a _ e];rfl
    · rename_i _ e;cases h;rw [jew,jbi hf b true (by assumption),Bool.or_true]
    · rename_i e e';cases h;rw [jew,jbi hf a _ e,jbi hf b _ e'];rfl
    · exact ja7 hf _ _ h
  | .v i,r,h=>ja2 hf h
  | .n z,r,h=>ja2 hf h
  | .add a b,r,h=>ja2 hf h
  | .sub a b,r,h=>ja2 hf h
  | .mul a b,r,h=>ja2 hf h
  | .lt a b,r,h=>ja2 hf h
  | .le a b,r,h=>ja2 hf h
  | .eq a b,r,h=>ja2 hf h
  | .ite a b d,r,h=>ja2 hf h
  | .ap f l,r,h=>ja2 hf h
  | .e,r,h=>ja2 hf h
  | .c a l,r,h=>ja2 hf h
end
def redI (fs:List T):T→T
  | .ite c a b=>match known1 fs c with
    | some true=>redI fs a
    | some false=>redI fs b
    | none=>.ite c a b
  | .add a b=>.add (redI fs a) (redI fs b)
  | .sub a b=>.sub (redI fs a) (redI fs b)
  | .mul a b=>.mul (redI fs a) (redI fs b)
  | .lt a b=>.lt (redI fs a) (redI fs b)
  | .le a b=>.le (redI fs a) (redI fs b)
  | .eq a b=>.eq (redI fs a) (redI fs b)
  | .not a=>.not (redI fs a)
  | .and a b=>.and (redI fs a) (redI fs b)
  | .or a b=>.or (redI fs a) (redI fs b)
  | t=>t
def iteC:T→Option T
  | .ite c _ _=>some c
  | .add a b=>(iteC a).or (iteC b)
  | .sub a b=>(iteC a).or (iteC b)
  | .mul a b=>(iteC a).or (iteC b)
  | .lt a b=>(iteC a).or (iteC b)
  | .le a b=>(iteC a).or (iteC b)
  | .eq a b=>(iteC a).or (iteC b)
  | .not a=>iteC a
  | .and a b=>(iteC a).or (iteC b)
  | .or a b=>(iteC a).or (iteC b)
  | _=>none
def hasI:T→Bool
  | t=>(iteC t).isSome
def known2 (fs:List T) (t:T):Option Bool:=bif hasI t then known1 fs (redI fs t) else known1 fs t
def splT (fs:List T) (t:T):T:=match iteC (redI fs t) with
  | some c=>c
  | none=>t
section
variable {F:Nat→List Int→Int} {ρ:Nat→Int} {fs:List T}
theorem jbc (hf:allT F ρ fs):∀(t:T),(redI fs t).den F ρ=t.den F ρ
  | .ite c a b=>by
    simp only [redI]
    split
    · rename_i h
      have h1:=jbi hf c _ h;rw [jbc hf a,jb8,h1,if_pos rfl]
    · rename_i h
      have h1:=jbi hf c _ h;rw [jbc hf b,jb8,h1,if_neg (by decide)]
    · rfl
  | .add a b=>by rw [redI,jd7,jd7,jbc hf a,jbc hf b]
  | .sub a b=>by rw [redI,jfz,jfz,jbc hf a,jbc hf b]
  | .mul a b=>by rw [redI,jc3,jc3,jbc hf a,jbc hf b]
  | .lt a b=>by
    have h1:=jbc hf a;have h2:=jbc hf b;exact (congrArg (fun x:Int=>(fun y:Int=>b2i (decide (x<y))) ((redI fs b).den F ρ)) h1).trans (congrArg (fun y:Int=>(fun x:Int=>b2i (decide (x<y))) (a.den F ρ)) h2)
  | .le a b=>by
    have h1:=jbc hf a;have h2:=jbc hf b;exact (congrArg (fun x:Int=>(fun y:Int=>b2i (decide (x≤y))) ((redI fs b).den F ρ)) h1).trans (congrArg (fun y:Int=>(fun x:Int=>b2i (decide (x≤y))) (a.den F ρ)) h2)
  | .eq a b=>by
    have h1:=jbc hf a;have h2:=jbc hf b;exact (congrArg (fun x:Int=>(fun y:Int=>b2i (x == y)) ((redI fs b).den F ρ)) h1).trans (congrArg (fun y:Int=>(fun x:Int=>b2i (x == y)) (a.den F ρ)) h2)
  | .not a=>congrArg (fun x:Int=>b2i (!(x != 0))) (jbc hf a)
  | .and a b=>by
    have h1:=jbc hf a;have h2:=jbc hf b;exact (congrArg (fun x:Int=>(fun y:Int=>b2i (x != 0 && y != 0)) ((redI fs b).den F ρ)) h1).trans (congrArg (fun y:Int=>(fun x:Int=>b2i (x != 0 && y != 0)) (a.den F ρ)) h2)
  | .or a b=>by
    have h1:=jbc hf a;have h2:=jbc hf b;exact (congrArg (fun x:Int=>(fun y:Int=>b2i (x != 0 || y != 0)) ((redI fs b).den F ρ)) h1).trans (congrArg (fun y:Int=>(fun x:Int=>b2i (x != 0 || y != 0)) (a.den F ρ)) h2)
  | .v _=>rfl
  | .n _=>rfl
  | .ap _ _=>rfl
  | .e=>rfl
  | .c _ _=>rfl
theorem jas (hf:allT F ρ fs) (t:T) (r:Bool) (h:known2 fs t=some r):t.bd F ρ=r:=by
  unfold known2 at h
  cases hi:hasI t <;> rw [hi] at h
  · exact jbi hf t r h
  · have:=jbi hf _ r h
    unfold T.bd at this ⊢
    rwa [jbc hf t] at this
end
end V
namespace V
inductive Kc where
  | str (l:List Nat)
  | np
  | nf
  | ni
  | ifc (t:Nat) (l:List Int)
def Kc.val:Kc→Value
  | .str l=>.string ⟨(l.map UInt8.ofNat).toArray⟩
  | .np=>.pointer none
  | .nf=>.nilFunc
  | .ni=>.nilIface
  | .ifc t l=>.iface t (.agg (l.map (Value.int .i64)).toArray)
def eqZs:List Int→List Int→Bool
  | [],[]=>true
  | x::xs,y::ys=>x == y && eqZs xs ys
  | _,_=>false
theorem jm2:∀{a b:List Int},eqZs a b=true→a=b
  | [],[],_=>rfl
  | [],_::_,h=>by cases h
  | _::_,[],h=>by cases h
  | x::xs,y::ys,h=>by
    simp only [eqZs,Bool.and_eq_true,beq_iff_eq] at h;rw [h.1,jm2 h.2]
def eqN:List Nat→List Nat→Bool
  | [],[]=>true
  | x::xs,y::ys=>Nat.beq x y && eqN xs ys
  | _,_=>false
theorem jx4:∀{a b:List Nat},eqN a b=true→a=b
  | [],[],_=>rfl
  | [],_::_,h=>by cases h
  | _::_,[],h=>by cases h
  | x::xs,y::ys,h=>by
    simp only [eqN,Bool.and_eq_true] at h;rw [Nat.eq_of_beq_eq_true h.1,jx4 h.2]
def Kc.same:Kc→Kc→Bool
  | .str a,.str b=>eqN a b
  | .np,.np=>true
  | .nf,.nf=>true
  | .ni,.ni=>true
  | .ifc t a,.ifc u b=>Nat.beq t u && eqZs a b
  | _,_=>false
theorem Kc.same_eq {a b:Kc} (h:a.same b=true):a=b:=by
  unfold Kc.same at h
  split at h
  · rw [jx4 h]
  · rfl
  · rfl
  · rfl
  · rw [Bool.and_eq_true] at h
    rw [Nat.eq_of_beq_eq_true h.1,jm2 h.2]
  · cases h
inductive X where
  | i (k:IntKind) (t:T)
  | b (t:T)
  | z (k:Nat) (cn:Bool) (t:T)
  | p (box off:Nat)
  | s0
  | cst (c:Kc)
def X.w:X→Nat
  | .z _ _ _=>2
  | _=>1
section
variable (F:Nat→List Int→Int) (ρ:Nat→Int) (β:Nat→Nat) (w:World)
def X.has:X→List Value→Prop
  | .i k t,cs=>cs=[.int k (t.den F ρ)]
  | .b t,cs=>cs=[.bool (t.bd F ρ)]
  | .z k cn t,cs=>∃n A l c,cs=[.bool n,.slice A l c]∧Q w k n A l c (t.den F ρ)∧(cn=true→QB w 0 k n A l c (t.den F ρ))
  | .p g o,cs=>cs=[.pointer (some ⟨β g,o,none⟩)]
  | .s0,cs=>cs=[.slice none 0 0]
  | .cst c,cs=>cs=[c.val]
def hasL:List X→List Value→Prop
  | [],cs=>cs=[]
  | x::xs,cs=>∃c d,cs=c ++ d∧x.has F ρ β w c∧hasL xs d
end
inductive V1 where
  | sc (x:X)
  | ag (xs:List X)
  | fn (f:Nat) (caps:List X)
inductive A where
  | one (a:V1)
  | tup (l:List V1)
  | und
section
variable (F:Nat→List Int→Int) (ρ:Nat→Int) (β:Nat→Nat) (w:World)
def V1.has:V1→Value→Prop
  | .sc x,v=>x.has F ρ β w [v]
  | .ag xs,v=>∃cs,v=.agg cs.toArray∧hasL F ρ β w xs cs
  | .fn f caps,v=>∃cs,v=.func (.func f) #[] cs.toArray∧hasL F ρ β w caps cs
def hasV:List V1→List Value→Prop
  | [],vs=>vs=[]
  | a::l,vs=>∃v r,vs=v::r∧a.has F ρ β w v∧hasV l r
def A.has:A→Value→Prop
  | .one a,v=>a.has F ρ β w v
  | .tup l,v=>∃vs,v=.tuple vs.toArray∧hasV F ρ β w l vs
  | .und,v=>v=undef
end
section
variable {F:Nat→List Int→Int} {ρ:Nat→Int} {β:Nat→Nat} {w w':World}
theorem X.ext {x:X} {cs:List Value} (h:x.has F ρ β w cs) (he:Ext w w'):x.has F ρ β w' cs:=by
  cases x with
  | z k cn t=>
    obtain ⟨n,A,l,c,h1,h2,h3⟩:=h;exact ⟨n,A,l,c,h1,h2.ext he,fun hc=>(h3 hc).ext he⟩
  | _=>exact h
theorem hasL.ext (he:Ext w w'):∀{xs:List X} {cs:List Value},hasL F ρ β w xs cs→hasL F ρ β w' xs cs
  | [],_,h=>h
  | _::_,_,⟨c,d,h1,h2,h3⟩=>⟨c,d,h1,X.ext h2 he,hasL.ext he h3⟩
theorem V1.ext {a:V1} {v:Value} (h:a.has F ρ β w v) (he:Ext w w'):a.has F ρ β w' v:=by
  cases a with
  | sc x=>exact X.ext h he
  | ag xs=>obtain ⟨cs,h1,h2⟩:=h;exact ⟨cs,h1,hasL.ext he h2⟩
  | fn f caps=>obtain ⟨cs,h1,h2⟩:=h;exact ⟨cs,h1,h2.ext he⟩
theorem hasV.ext (he:Ext w w'):∀{l:List V1} {vs:List Value},hasV F ρ β w l vs→hasV F ρ β w' l vs
  | [],_,h=>h
  | _::_,_,⟨v,r,h1,h2,h3⟩=>⟨v,r,h1,V1.ext h2 he,hasV.ext he h3⟩
theorem A.ext {a:A} {v:Value} (h:a.has F ρ β w v) (he:Ext w w'):a.has F ρ β w' v:=by
  cases a with
  | one a=>exact V1.ext h he
  | tup l=>obtain ⟨vs,h1,h2⟩:=h;exact ⟨vs,h1,h2.ext he⟩
  | und=>exact h
theorem X.len {x:X} {cs:List Value} (h:x.has F ρ β w cs):cs.length=x.w:=by
  cases x with
  | z k cn t=>obtain ⟨n,A,l,c,h1,-⟩:=h;rw [h1];rfl
  | i k t=>rw [show cs=_ from h];rfl
  | b t=>rw [show cs=_ from h];rfl
  | p g o=>rw [show cs=_ from h];rfl
  | s0=>rw [show cs=_ from h];rfl
  | cst c=>rw [show cs=_ from h];rfl
def widths:List X→Nat
  | []=>0
  | x::xs=>x.w+widths xs
theorem hasL.len:∀{xs:List X} {cs:List Value},hasL F ρ β w xs cs→cs.length=widths xs
  | [],_,h=>by rw [show _=[] from h];rfl
  | _::_,_,⟨c,d,h1,h2,h3⟩=>by rw [h1,List.length_append,(X.len h2),hasL.len h3];rfl
theorem hasL.app:∀{xs ys:List X} {cs ds:List Value},hasL F ρ β w xs cs→hasL F ρ β w ys ds→hasL F ρ β w (xs ++ ys) (cs ++ ds)
  | [],_,_,_,h,k=>by rw [show _=[] from h];exact k
  | _::_,_,_,_,⟨c,d,h1,h2,h3⟩,k=>⟨c,_,by rw [h1,List.append_assoc],h2,hasL.app h3 k⟩
def dropW:List X→Nat→Option (List X)
  | xs,0=>some xs
  | [],_+1=>none
  | x::xs,n+1=>if x.w≤n+1 then dropW xs (n+1 - x.w) else none
def takeW:List X→Nat→Option (List X)
  | _,0=>some []
  | [],_+1=>none
  | x::xs,n+1=>if x.w≤n+1 then (takeW xs (n+1 - x.w)).map (x :: ·) else none
theorem jgk:∀{xs:List X} {n:Nat} {ys:List X} {cs:List Value},hasL F ρ β w xs cs→dropW xs n=some ys→hasL F ρ β w ys (cs.drop n)
  | xs,0,ys,cs,h,k=>by simp [dropW] at k;subst k;simpa using h
  | [],_+1,_,_,_,k=>by simp [dropW] at k
  | x::xs,n+1,ys,cs,⟨c,d,h1,h2,h3⟩,k=>by
    simp only [dropW] at k
    split at k
    · rename_i hw
      have:=jgk h3 k;have hl:=(X.len h2);rw [h1,List.drop_append,hl,List.drop_eq_nil_of_le (by omega),List.nil_append];exact this
    · cases k
theorem jhp:∀{xs:List X} {n:Nat} {ys:List X} {cs:List Value},hasL F ρ β w xs cs→dropW xs n=some ys→n≤cs.length
  | xs,0,ys,cs,h,k=>Nat.zero_le _
  | [],_+1,_,_,_,k=>by simp [dropW] at k
  | x::xs,n+1,ys,cs,⟨c,d,h1,h2,h3⟩,k=>by
    simp only [dropW] at k
    split at k
    · have:=jhp h3 k
      have hl:=X.len h2;rw [h1,List.length_append]
      omega
    · cases k
theorem jj1:∀{xs:List X} {n:Nat} {ys:List X} {cs:List Value},hasL F ρ β w xs cs→takeW xs n=some ys→hasL F ρ β w ys (cs.take n)∧n≤cs.length
  | xs,0,ys,cs,h,k=>by simp [takeW] at k;subst k;exact ⟨by simp [hasL],Nat.zero_le _⟩
  | [],_+1,_,_,_,k=>by simp [takeW] at k
  | x::xs,n+1,ys,cs,⟨c,d,h1,h2,h3⟩,k=>by
    simp only [takeW] at k
    split at k
    · rename_i hw
      cases hk:takeW xs (n+1 - x.w) with
      | none=>rw [hk] at k;cases k
      | some zs=>
        rw [hk] at k
        cases k
        obtain ⟨e1,e2⟩:=jj1 h3 hk;have hl:=(X.len h2);have hw0:0<x.w:=by cases x <;> simp [X.w]
        refine ⟨⟨c,_,?_,h2,e1⟩,by rw [h1,List.length_append];omega⟩;rw [h1,List.take_append,hl,List.take_of_length_le (by omega)]
    · cases k
end
end V
namespace V
def aggB (P:Program) (t:TypeId):Option Bool:=match P.underlying t with
  | some d=>some d.isRow
  | none=>none
def sizeN (P:Program) (t:TypeId):Option Nat:=(P.info? t).map (·.size)
def fldN (P:Program) (t:TypeId) (f:Nat):Option (Nat×TypeId):=match P.underlying t with
  | some (.struct fs)=>match fs[f]? with
    | some x=>some (x.offset,x.type)
    | none=>none
  | _=>none
def fld0 (P:Program) (t:TypeId) (f:Nat):Bool:=match P.underlying t with
  | some (.struct fs)=>match fs[f]? with
    | some x=>Nat.beq x.offset 0 && Nat.beq x.byteOffset 0
    | none=>false
  | _=>false
theorem jtc {P:Program} {w:World} {g:Nat} {ty:TypeId} (hb:w.heap[g]? = some (.cells #[] ty (0,0))) (hz:sizeN P ty=some 0) :
    (partAt ⟨g,0,none⟩ 0 0).run P w=.ok ⟨g,0,none⟩ w:=by
  have hc:P.cellsOf ty=0:=by
    unfold sizeN at hz;unfold Program.cellsOf
    cases hq:P.info? ty with
    | none=>rfl
    | some i=>rw [hq] at hz;simpa using hz
  have hbo:(byteOf ⟨g,0,none⟩).run P w=.ok 0 w:=by
    unfold byteOf;simp [go_sem,noView,viewAt,World.shape?,hb,hc]
  unfold partAt;simp [go_sem,hbo]
section
variable {P:Program} {w:World}
theorem jhq {t:TypeId} {b:Bool} (h:aggB P t=some b):(isAgg t).run P w=.ok b w:=by
  unfold aggB at h
  split at h
  · rename_i d hd
    cases h
    unfold isAgg;rw [Sem.run_bind,run_underlying hd w]
    cases d <;> rfl
  · cases h
theorem jcp {t:TypeId} {n:Nat} (h:sizeN P t=some n):(sizeOf t).run P w=.ok n w:=by
  unfold sizeN at h
  cases hq:P.info? t with
  | none=>rw [hq] at h;cases h
  | some i=>
    rw [hq] at h
    cases h
    simp [sizeOf,typeInfo,hq]
end
def partX (P:Program) (t:TypeId) (xs:List X) (off:Nat):Option V1:=
  match aggB P t,dropW xs off with
  | some true,some ys=>match sizeN P t with
    | some n=>(takeW ys n).map V1.ag
    | none=>none
  | some false,some (x::_)=>if Nat.beq x.w 1 then some (.sc x) else none
  | _,_=>none
section
variable {F:Nat→List Int→Int} {ρ:Nat→Int} {β:Nat→Nat} {P:Program} {w:World}
theorem jom {t:TypeId} {xs:List X} {off:Nat} {a:V1} {cs:List Value} (h:hasL F ρ β w xs cs) (k:partX P t xs off=some a) :
    (∃n ds,aggB P t=some true∧sizeN P t=some n∧ds=(cs.drop off).take n∧ds.length=n∧off+n≤cs.length∧a.has F ρ β w (.agg ds.toArray))∨(∃v,aggB P t=some false∧cs[off]? = some v∧a.has F ρ β w v):=by
  unfold partX at k
  split at k
  · rename_i e1 e2
    split at k
    · rename_i n e3
      cases hk:takeW _ n with
      | none=>rw [hk] at k;cases k
      | some zs=>
        rw [hk] at k
        cases k
        have h1:=jgk h e2;obtain ⟨h2,h3⟩:=jj1 h1 hk;rw [List.length_drop] at h3;have h4:=jhp h e2;exact .inl ⟨n,_,e1,e3,rfl,by rw [List.length_take,List.length_drop];omega,by omega,_,rfl,h2⟩
    · cases k
  · rename_i e1 e2
    split at k
    · rename_i e3
      cases k
      obtain ⟨c,d,h1,h2,h3⟩:=jgk h e2;have hl:=X.len h2;rw [Nat.eq_of_beq_eq_true e3] at hl;obtain ⟨v,rfl⟩:=List.length_eq_one_iff.1 hl;refine .inr ⟨v,e1,?_,h2⟩;have:(cs.drop off)[0]? = some v:=by rw [h1];rfl
      rw [List.getElem?_drop] at this;exact this
    · cases k
  · cases k
theorem jtd {t:TypeId} {xs:List X} {off:Nat} {a:V1} {cs:List Value} (h:hasL F ρ β w xs cs) (k:partX P t xs off=some a) :
    ∃v,(part t cs.toArray off).run P w=.ok v w∧a.has F ρ β w v:=by
  rcases jom h k with ⟨n,ds,e1,e2,e3,e4,e5,e6⟩ | ⟨v,e1,e2,e3⟩
  · refine ⟨.agg ds.toArray,?_,e6⟩
    unfold part;simp only [Sem.run_bind,jhq e1,Result.andThen_ok,if_true,jcp e2,Sem.run_pure];rw [e3]
    congr 2
    apply Array.ext';simp [List.extract_eq_take_drop]
  · refine ⟨v,?_,e3⟩
    unfold part;simp only [Sem.run_bind,jhq e1,Result.andThen_ok,Bool.false_eq_true,if_false];simp [e2]
theorem jlg {t:TypeId} {xs:List X} {off:Nat} {a:V1} {g:Nat} {ty:TypeId} {cs:List Value} (hb:Blk w g ty cs.toArray) (h:hasL F ρ β w xs cs) (k:partX P t xs off=some a) :
    ∃v,(Instr.loadAt t (.pointer (some ⟨g,off,none⟩))).run P w=.ok v w∧a.has F ρ β w v:=by
  rcases jom h k with ⟨n,ds,e1,e2,e3,e4,e5,e6⟩ | ⟨v,e1,e2,e3⟩
  · refine ⟨.agg ds.toArray,?_,e6⟩
    unfold aggB at e1
    split at e1
    · rename_i d hd
      cases hd':d.isRow with
      | false=>rw [hd'] at e1;cases e1
      | true=>
        refine run_loadAt_mid w g off t ds d (fun j u hu=>?_) hd hd' (by rw [e4];exact e2);rw [hb.cell];rw [e3,List.getElem?_take] at hu
        split at hu
        · rw [List.getElem?_drop] at hu
          simpa using hu
        · cases hu
    · cases e1
  · refine ⟨v,?_,e3⟩
    have hc:w.cell? ⟨g,off,none⟩=some v:=by rw [hb.cell];simpa using e2
    simp only [Instr.loadAt,Instr.sureAddr,Sem.run_bind,Sem.run_pure,Result.andThen_ok,loadVar,jhq e1,Bool.false_eq_true,if_false,run_load,hc]
end
end V
namespace V
def loK:IntKind→Int
  | .i8 => -128 | .i16 => -32768 | .i32 => -2147483648 | .i64 => -9223372036854775808
  | _=>0
def hiK:IntKind→Int
  | .i8=>127 | .i16=>32767 | .i32=>2147483647 | .i64=>9223372036854775807
  | .u8=>255 | .u16=>65535 | .u32=>4294967295 | .u64=>18446744073709551615
theorem jc4 (k:IntKind) {n:Int} (h:loK k≤n∧n≤hiK k):k.wrap n=n:=by
  have key:∀(H:Int),0<H→-H≤n→n≤H - 1→(if (true && decide (n%(2*H)≥H))=true then n%(2*H) - 2*H else n%(2*H))=n:=by
    intro H hH h1 h2
    rcases Int.lt_or_le n 0 with hn | hn
    · have e:n%(2*H)=n+2*H:=by
        rw [←Int.add_emod_right,Int.emod_eq_of_lt (by omega) (by omega)]
      rw [e];simp only [Bool.true_and,decide_eq_true_eq]
      split <;> omega
    · rw [Int.emod_eq_of_lt hn (by omega)]
      simp only [Bool.true_and,decide_eq_true_eq]
      split <;> omega
  cases k <;> simp only [loK,hiK] at h
  · exact key 128 (by omega) h.1 h.2
  · exact key 32768 (by omega) h.1 h.2
  · exact key 2147483648 (by omega) h.1 h.2
  · exact key 9223372036854775808 (by omega) h.1 h.2
  all_goals
    simp only [IntKind.wrap,IntKind.bits,IntKind.signed,Bool.false_and,Bool.false_eq_true,if_false];exact Int.emod_eq_of_lt h.1 (by omega)
def inKind1 (fs:List T) (k:IntKind) (t:T):Bool:=within fs t (loK k) (hiK k) || (knownL fs (.le (.n (loK k)) t) && knownL fs (.le t (.n (hiK k))))
theorem jio {F:Nat→List Int→Int} {ρ:Nat→Int} {fs:List T} (hf:allT F ρ fs) {k:IntKind} {t:T} (h:inKind1 fs k t=true):loK k≤t.den F ρ∧t.den F ρ≤hiK k:=by
  unfold inKind1 at h;rw [Bool.or_eq_true] at h
  rcases h with h | h
  · exact js8 hf h
  · rw [Bool.and_eq_true] at h
    have h1:=jca hf h.1;have h2:=jca hf h.2;rw [bd_le,decide_eq_true_eq,jc7] at h1 h2;exact ⟨h1,h2⟩
def inKind (fs:List T) (k:IntKind) (t:T):Bool:=inKind1 fs k t || (hasI t && inKind1 fs k (redI fs t))
theorem jea {F:Nat→List Int→Int} {ρ:Nat→Int} {fs:List T} (hf:allT F ρ fs) {k:IntKind} {t:T} (h:inKind fs k t=true):loK k≤t.den F ρ∧t.den F ρ≤hiK k:=by
  unfold inKind at h;rw [Bool.or_eq_true] at h
  rcases h with h | h
  · exact jio hf h
  · rw [Bool.and_eq_true] at h
    have h1:=jio hf h.2;rw [jbc hf] at h1;exact h1
def binI (fs:List T) (op:BinOp) (k:IntKind) (a b:T):Option X:=
  match op with
  | .add=>if inKind fs k (.add a b) then some (.i k (.add a b)) else none
  | .sub=>if inKind fs k (.sub a b) then some (.i k (.sub a b)) else none
  | .mul=>if inKind fs k (.mul a b) then some (.i k (.mul a b)) else none
  | .eql=>some (.b (.eq a b))
  | .neq=>some (.b (.not (.eq a b)))
  | .lss=>some (.b (.lt a b))
  | .leq=>some (.b (.le a b))
  | .gtr=>some (.b (.lt b a))
  | .geq=>some (.b (.le b a))
  | _=>none
section
variable {F:Nat→List Int→Int} {ρ:Nat→Int} {β:Nat→Nat} {P:Program} {w:World}
theorem jv0 {fs:List T} (hf:allT F ρ fs) {op:BinOp} {k:IntKind} {a b:T} {x:X} (h:binI fs op k a b=some x) (t:TypeId) (o1 o2:Operand) :
    ∃v,((do eqGuard op t o1 o2 (.int k (a.den F ρ)) (.int k (b.den F ρ));binOp op t (.int k (a.den F ρ)) (.int k (b.den F ρ))):Sem Value).run P w=.ok v w∧x.has F ρ β w [v]:=by
  unfold binI at h
  split at h
  · split at h
    · rename_i hw
      cases h
      have:=jea hf hw;exact ⟨.int k ((T.add a b).den F ρ),by simp [eqGuard,binOp,Op.intArith,jc4 k (show loK k≤a.den F ρ+b.den F ρ∧_ from this)];rfl,rfl⟩
    · cases h
  · split at h
    · rename_i hw
      cases h
      have:=jea hf hw;exact ⟨.int k ((T.sub a b).den F ρ),by simp [eqGuard,binOp,Op.intArith,jc4 k (show loK k≤a.den F ρ - b.den F ρ∧_ from this)];rfl,rfl⟩
    · cases h
  · split at h
    · rename_i hw
      cases h
      have:=jea hf hw;exact ⟨.int k ((T.mul a b).den F ρ),by simp [eqGuard,binOp,Op.intArith,jc4 k (show loK k≤a.den F ρ*b.den F ρ∧_ from this)];rfl,rfl⟩
    · cases h
  · cases h
    exact ⟨.bool (a.den F ρ == b.den F ρ),by simp [eqGuard,binOp,Op.intCmp],by show _=_;rw [jcy]⟩
  · cases h
    exact ⟨.bool (a.den F ρ != b.den F ρ),by simp [eqGuard,binOp,Op.intCmp],by show _=_;rw [jax,jcy];rfl⟩
  · cases h
    exact ⟨.bool (decide (a.den F ρ<b.den F ρ)),by simp [eqGuard,binOp,Op.intCmp],by show _=_;rw [bd_lt]⟩
  · cases h
    exact ⟨.bool (decide (a.den F ρ≤b.den F ρ)),by simp [eqGuard,binOp,Op.intCmp],by show _=_;rw [bd_le]⟩
  · cases h
    exact ⟨.bool (decide (b.den F ρ<a.den F ρ)),by simp [eqGuard,binOp,Op.intCmp],by show _=_;rw [bd_lt]⟩
  · cases h
    exact ⟨.bool (decide (b.den F ρ≤a.den F ρ)),by simp [eqGuard,binOp,Op.intCmp],by show _=_;rw [bd_le]⟩
  · cases h
end
end V
namespace V
structure Bx where
  id:Nat
  ty:TypeId
  xs:List X
  ro:Bool
structure St where
  sl:List (Nat×A)
  bx:List Bx
  fs:List T
def get:List (Nat×A)→Nat→Option A
  | [],_=>none
  | (i,a)::l,t=>if Nat.beq i t then some a else get l t
def getB:List Bx→Nat→Option Bx
  | [],_=>none
  | b::l,t=>if Nat.beq b.id t then some b else getB l t
def constC:List Value→Option (List X)
  | []=>some []
  | .bool false::.slice none 0 0::r=>(constC r).map (X.z 0 true (.n 0) :: ·)
  | .bool b::r=>(constC r).map (X.b (.n (b2i b)) :: ·)
  | .int k n::r=>(constC r).map (X.i k (.n n) :: ·)
  | .slice none 0 0::r=>(constC r).map (X.s0 :: ·)
  | _=>none
def constA:Value→Option V1
  | .int k n=>some (.sc (.i k (.n n)))
  | .bool b=>some (.sc (.b (.n (b2i b))))
  | .slice none 0 0=>some (.sc .s0)
  | .agg cs=>(constC cs.toList).map V1.ag
  | .func (.func f) ⟨[]⟩ ⟨[]⟩=>some (.fn f [])
  | .string b=>some (.sc (.cst (.str (b.data.toList.map UInt8.toNat))))
  | .pointer none=>some (.sc (.cst .np))
  | .nilFunc=>some (.sc (.cst .nf))
  | .nilIface=>some (.sc (.cst .ni))
  | _=>none
def evO (st:St):Operand→Option A
  | .tmp t=>get st.sl t
  | .const v=>(constA v).map A.one
  | .func f=>some (.one (.fn f []))
  | .global _=>none
section
variable {F:Nat→List Int→Int} {ρ:Nat→Int} {β:Nat→Nat} {P:Program} {w:World}
theorem bd_n {b:Bool}:(T.n (b2i b)).bd F ρ=b:=jcu b
theorem jby:∀{cs:List Value} {xs:List X},constC cs=some xs→hasL F ρ β w xs cs
  | [],xs,h=>by simp [constC] at h;subst h;rfl
  | .bool false::.slice none 0 0::r,xs,h=>by
    simp only [constC] at h
    cases hr:constC r with
    | none=>rw [hr] at h;cases h
    | some ys=>
      rw [hr] at h;cases h;exact ⟨[.bool false,.slice none 0 0],r,rfl,⟨_,_,_,_,rfl,(QB.zero _ 0 0).q,fun _=>QB.zero _ 0 0⟩,jby hr⟩
  | .bool b::r,xs,h=>by
    unfold constC at h
    split at h
    · simp at *
    · rename_i r' e
      cases e
      cases hr:constC r' with
      | none=>rw [hr] at h;cases h
      | some ys=>rw [hr] at h;cases h;exact ⟨[.bool false,.slice none 0 0],r',rfl,⟨_,_,_,_,rfl,(QB.zero _ 0 0).q,fun _=>QB.zero _ 0 0⟩,jby hr⟩
    · rename_i b' r' _ e
      cases e
      cases hr:constC r with
      | none=>rw [hr] at h;cases h
      | some ys=>rw [hr] at h;cases h;exact ⟨[.bool b],r,rfl,by show _=_;rw [bd_n],jby hr⟩
    all_goals (try simp at *)
  | .int k n::r,xs,h=>by
    simp only [constC] at h
    cases hr:constC r with
    | none=>rw [hr] at h;cases h
    | some ys=>rw [hr] at h;cases h;exact ⟨[.int k n],r,rfl,rfl,jby hr⟩
  | .slice none 0 0::r,xs,h=>by
    simp only [constC] at h
    cases hr:constC r with
    | none=>rw [hr] at h;cases h
    | some ys=>rw [hr] at h;cases h;exact ⟨[.slice none 0 0],r,rfl,rfl,jby hr⟩
  | v::r,xs,h=>by
    unfold constC at h
    split at h
    · simp at *
    · rename_i r' e
      cases e
      cases hr:constC r' with
      | none=>rw [hr] at h;cases h
      | some ys=>rw [hr] at h;cases h;exact ⟨[.bool false,.slice none 0 0],r',rfl,⟨_,_,_,_,rfl,(QB.zero _ 0 0).q,fun _=>QB.zero _ 0 0⟩,jby hr⟩
    · rename_i b' r' _ e
      cases e
      cases hr:constC r with
      | none=>rw [hr] at h;cases h
      | some ys=>rw [hr] at h;cases h;exact ⟨_,r,rfl,by show _=_;rw [bd_n],jby hr⟩
    · rename_i k n r' e
      cases e
      cases hr:constC r with
      | none=>rw [hr] at h;cases h
      | some ys=>rw [hr] at h;cases h;exact ⟨_,r,rfl,rfl,jby hr⟩
    · rename_i r' e
      cases e
      cases hr:constC r with
      | none=>rw [hr] at h;cases h
      | some ys=>rw [hr] at h;cases h;exact ⟨_,r,rfl,rfl,jby hr⟩
    · cases h
theorem strK (b:ByteArray):Value.string b=(Kc.str (b.data.toList.map UInt8.toNat)).val:=by
  unfold Kc.val
  congr 1
  rw [List.map_map,show UInt8.ofNat ∘ UInt8.toNat=id from funext fun x=>by simp,List.map_id]
theorem jlh {v:Value} {a:V1} (h:constA v=some a):a.has F ρ β w v:=by
  unfold constA at h
  split at h
  · cases h;rfl
  · cases h;show _=_;rw [bd_n]
  · cases h;rfl
  · rename_i cs
    cases hc:constC cs.toList with
    | none=>rw [hc] at h;cases h
    | some xs=>rw [hc] at h;cases h;exact ⟨cs.toList,by simp,jby hc⟩
  · cases h;exact ⟨[],rfl,rfl⟩
  · rename_i b
    cases h
    show [_]=[_]
    rw [strK]
  · cases h;rfl
  · cases h;rfl
  · cases h;rfl
  · cases h
def slOK (F:Nat→List Int→Int) (ρ:Nat→Int) (β:Nat→Nat) (w:World) (a:Act) (sl:List (Nat×A)):Prop:=∀t x,get sl t=some x→x.has F ρ β w (a.tmps.getD t undef)
theorem jay {st:St} {a:Act} (hs:slOK F ρ β w a st.sl) {o:Operand} {x:A} (h:evO st o=some x):x.has F ρ β w (a.eval o):=by
  cases o with
  | tmp t=>exact hs t x h
  | const v=>
    simp only [evO] at h
    cases hc:constA v with
    | none=>rw [hc] at h;cases h
    | some y=>rw [hc] at h;cases h;exact jlh hc
  | global g=>cases h
  | func f=>cases h;exact ⟨[],rfl,rfl⟩
structure bxOK (F:Nat→List Int→Int) (ρ:Nat→Int) (β:Nat→Nat) (w:World) (bx:List Bx):Prop where
  at_:∀i b,getB bx i=some b→∃cs,Blk w (β i) b.ty cs.toArray∧True∧hasL F ρ β w b.xs cs
  ne:∀i j b c,getB bx i=some b→getB bx j=some c→i≠j→β i≠β j
end
end V
namespace V
def capsX (st:St):List Operand→Option (List X)
  | []=>some []
  | o::r=>match evO st o,capsX st r with
    | some (.one (.sc x)),some xs=>if Nat.beq x.w 1 then some (x::xs) else none
    | _,_=>none
def intK (P:Program) (t:TypeId):Option IntKind:=match P.underlying t with
  | some (.int k)=>some k
  | _=>none
def iffT (a b:T):T:=.or (.and a b) (.and (.not a) (.not b))
def binB (P:Program) (ty:TypeId) (op:BinOp) (a b:T):Option T:=match P.underlying ty with
  | some .bool=>match op with
    | .eql=>some (iffT a b)
    | .neq=>some (.not (iffT a b))
    | _=>none
  | _=>none
def eqU (a b:List Nat):Bool:=a.map UInt8.ofNat == b.map UInt8.ofNat
def binS (op:BinOp) (a b:List Nat):Option T:=match op with
  | .eql=>some (.n (b2i (eqU a b)))
  | .neq=>some (.n (b2i (!(eqU a b))))
  | _=>none
section
variable {F:Nat→List Int→Int} {ρ:Nat→Int} {P:Program} {w:World}
theorem jx5 {a b:T}:(iffT a b).bd F ρ=(a.bd F ρ == b.bd F ρ):=by
  unfold iffT;rw [jew,jck,jck,jax,jax]
  cases a.bd F ρ <;> cases b.bd F ρ <;> rfl
theorem jv1 {op:BinOp} {a b t:T} {ty:TypeId} (h:binB P ty op a b=some t) (o1 o2:Operand) :
    ((do eqGuard op ty o1 o2 (.bool (a.bd F ρ)) (.bool (b.bd F ρ));binOp op ty (.bool (a.bd F ρ)) (.bool (b.bd F ρ))):Sem Value).run P w=.ok (.bool (t.bd F ρ)) w:=by
  unfold binB at h
  split at h
  · rename_i hb
    split at h
    · cases h
      rw [jx5];simp only [eqGuard_at_bool,Sem.run_bind,Sem.run_pure,Result.andThen_ok,run_eql_bool _ _ _ _ hb]
    · cases h
      rw [jax,jx5];simp only [eqGuard_at_bool,Sem.run_bind,Sem.run_pure,Result.andThen_ok,run_neq_bool _ _ _ _ hb]
    · cases h
  · cases h
theorem jv2 {op:BinOp} {a b:List Nat} {t:T} (h:binS op a b=some t) (ty:TypeId) (o1 o2:Operand) :
    ((do eqGuard op ty o1 o2 (Kc.str a).val (Kc.str b).val;binOp op ty (Kc.str a).val (Kc.str b).val):Sem Value).run P w=.ok (.bool (t.bd F ρ)) w:=by
  have e:((⟨(a.map UInt8.ofNat).toArray⟩:ByteArray).toList == (⟨(b.map UInt8.ofNat).toArray⟩:ByteArray).toList)=eqU a b:=by
    rw [ByteArray.toList_eq,ByteArray.toList_eq]
    rfl
  unfold binS at h
  split at h
  · cases h
    show _=Result.ok (Value.bool (b2i (eqU a b) != 0)) w
    rw [jcu,←e];simp only [Kc.val,eqGuard_at_string,Sem.run_bind,Sem.run_pure,Result.andThen_ok,binOp_string_eql]
  · cases h
    show _=Result.ok (Value.bool (b2i (!(eqU a b)) != 0)) w
    rw [jcu,←e];simp only [Kc.val,eqGuard_at_string,Sem.run_bind,Sem.run_pure,Result.andThen_ok,binOp_string_neq]
  · cases h
end
def forceN {α:Type} (n:Nat) (k:Nat→α):α:=match n with
  | 0=>k 0
  | m+1=>k (m+1)
theorem jli {α:Type} (n:Nat) (k:Nat→α):forceN n k=k n:=by cases n <;> rfl
def forceZ {α:Type} (z:Int) (k:Int→α):α:=match z with
  | .ofNat n=>forceN n fun n=>k (.ofNat n)
  | .negSucc n=>forceN n fun n=>k (.negSucc n)
theorem jcv {α:Type} (z:Int) (k:Int→α):forceZ z k=k z:=by
  cases z with
  | ofNat n=>exact jli n (fun n=>k (.ofNat n))
  | negSucc n=>exact jli n (fun n=>k (.negSucc n))
def litT1:T→T
  | .add (.n x) (.n y)=>forceZ (x+y) T.n
  | .sub (.n x) (.n y)=>forceZ (x - y) T.n
  | .mul (.n x) (.n y)=>forceZ (x*y) T.n
  | t=>t
theorem jv3 {F:Nat→List Int→Int} {ρ:Nat→Int} (t:T):(litT1 t).den F ρ=t.den F ρ:=by
  unfold litT1
  split
  · rw [jcv];rfl
  · rw [jcv];rfl
  · rw [jcv];rfl
  · rfl
def X.lit:X→X
  | .i k t=>.i k (litT1 t)
  | x=>x
theorem X.lit_ok {F:Nat→List Int→Int} {ρ:Nat→Int} {β:Nat→Nat} {w:World} {x:X} {cs:List Value} (h:x.has F ρ β w cs):x.lit.has F ρ β w cs:=by
  cases x with
  | i k t=>show cs=_;rw [jv3];exact h
  | _=>exact h
def minX (st:St) (x y:Operand) (mx:Bool):Option A:=match evO st x,evO st y with
  | some (.one (.sc (.i k a))),some (.one (.sc (.i k' b)))=>if k=k' then (match known2 st.fs (bif mx then .lt a b else .lt b a) with
    | some true=>some (.one (.sc (.i k b)))
    | some false=>some (.one (.sc (.i k a)))
    | none=>none) else none
  | _,_=>none
def needX (st:St):Op→Option T
  | .call c=>match c.callee,c.args with
    | .builtin .min,⟨[x,y]⟩=>match evO st x,evO st y with
      | some (.one (.sc (.i _ a))),some (.one (.sc (.i _ b)))=>match known2 st.fs (.lt b a) with
        | some _=>none
        | none=>some (.lt b a)
      | _,_=>none
    | .builtin .max,⟨[x,y]⟩=>match evO st x,evO st y with
      | some (.one (.sc (.i _ a))),some (.one (.sc (.i _ b)))=>match known2 st.fs (.lt a b) with
        | some _=>none
        | none=>some (.lt a b)
      | _,_=>none
    | _,_=>none
  | _=>none
def litXs:List X→Option (List Int)
  | []=>some []
  | .i .i64 (.n z)::l=>(litXs l).map (z :: ·)
  | _=>none
def pureX (P:Program) (st:St):Op→Option A
  | .move x=>evO st x
  | .assign x=>evO st x
  | .extract t ix=>match evO st t with
    | some (.tup l)=>l[ix]?.map A.one
    | _=>none
  | .field T x f=>match evO st x,fldN P T f with
    | some (.one (.ag xs)),some (off,ft)=>(partX P ft xs off).map A.one
    | _,_=>none
  | .fieldAddr T x f=>match evO st x,fldN P T f with
    | some (.one (.sc (.p b o))),some (off,ft)=>match sizeN P ft with
      | some (_+1)=>some (.one (.sc (.p b (o+off))))
      | some 0=>match getB st.bx b with
        | some bb=>match bb.xs,sizeN P bb.ty with
          | [],some 0=>if Nat.beq o 0 && fld0 P T f then some (.one (.sc (.p b 0))) else none
          | _,_=>none
        | none=>none
      | none=>none
    | _,_=>none
  | .load t x=>match evO st x with
    | some (.one (.sc (.p b o)))=>match getB st.bx b with
      | some bb=>(partX P t bb.xs o).map A.one
      | none=>none
    | _=>none
  | .binOp op ty x y _=>match evO st x,evO st y with
    | some (.one (.sc (.i k a))),some (.one (.sc (.i k' b)))=>if k=k' then (binI st.fs op k a b).map (fun x=>A.one (.sc x.lit)) else none
    | some (.one (.sc (.b a))),some (.one (.sc (.b b)))=>(binB P ty op a b).map (fun t=>A.one (.sc (.b t)))
    | some (.one (.sc (.cst (.str a)))),some (.one (.sc (.cst (.str b))))=>(binS op a b).map (fun t=>A.one (.sc (.b t)))
    | _,_=>none
  | .unOp op _ x=>match op,evO st x with
    | .not,some (.one (.sc (.b c)))=>some (.one (.sc (.b (.not c))))
    | .neg,some (.one (.sc (.i k a)))=>(binI st.fs .sub k (.n 0) a).map (fun x=>A.one (.sc x.lit))
    | _,_=>none
  | .pick c x y=>match evO st c with
    | some (.one (.sc (.b c)))=>match known2 st.fs c with
      | some true=>evO st x
      | some false=>evO st y
      | none=>none
    | _=>none
  | .convert src dst x=>match evO st x,intK P src,intK P dst with
    | some (.one (.sc (.i _ a))),some _,some k=>if inKind st.fs k a then some (.one (.sc (.i k a))) else none
    | _,_,_=>none
  | .makeFunc (.func f) ⟨[]⟩ caps=>(capsX st caps.toList).map (fun xs=>A.one (.fn f xs))
  | .nilCheck x=>match evO st x with
    | some (.one (.sc (.p b o)))=>some (.one (.sc (.p b o)))
    | some (.one (.sc (.cst (.ifc t l))))=>some (.one (.sc (.cst (.ifc t l))))
    | _=>none
  | .makeInterface t x=>match evO st x,P.concrete t with
    | some (.one (.ag xs)),true=>(litXs xs).map fun l=>A.one (.sc (.cst (.ifc t l)))
    | _,_=>none
  | .call c=>match c.callee,c.args with
    | .builtin .min,⟨[x,y]⟩=>minX st x y false
    | .builtin .max,⟨[x,y]⟩=>minX st x y true
    | _,_=>none
  | _=>none
section
variable {F:Nat→List Int→Int} {ρ:Nat→Int} {β:Nat→Nat} {P:Program} {w:World}
theorem jon:∀{l:List V1} {vs:List Value} {i:Nat} {a:V1},hasV F ρ β w l vs→l[i]? = some a→∃v,vs[i]? = some v∧a.has F ρ β w v
  | [],_,_,_,_,k=>by simp at k
  | b::l,_,0,a,⟨v,r,h1,h2,h3⟩,k=>by simp at k;subst k;exact ⟨v,by rw [h1];rfl,h2⟩
  | b::l,_,i+1,a,⟨v,r,h1,h2,h3⟩,k=>by
    obtain ⟨u,e1,e2⟩:=jon h3 (by simpa using k);exact ⟨u,by rw [h1];simpa using e1,e2⟩
theorem joo {st:St} {a:Act} (hs:slOK F ρ β w a st.sl):∀{os:List Operand} {xs:List X},capsX st os=some xs→hasL F ρ β w xs (os.map a.eval)
  | [],xs,h=>by simp [capsX] at h;subst h;rfl
  | o::r,xs,h=>by
    simp only [capsX] at h
    split at h
    · rename_i x ys e1 e2
      split at h
      · cases h
        exact ⟨[a.eval o],_,rfl,jay hs e1,joo hs e2⟩
      · cases h
    · cases h
theorem jte {t:TypeId} {k:IntKind} (h:intK P t=some k):P.underlying t=some (.int k):=by
  unfold intK at h
  split at h
  · rename_i e;cases h;exact e
  · cases h
theorem jm3 {T:TypeId} {f off:Nat} {ft:TypeId} (h:fldN P T f=some (off,ft)):∃fs x,P.underlying T=some (.struct fs)∧fs[f]? = some x∧x.offset=off∧x.type=ft:=by
  unfold fldN at h
  split at h
  · rename_i fs e
    split at h
    · rename_i x e2
      cases h
      exact ⟨fs,x,e,e2,rfl,rfl⟩
    · cases h
  · cases h
theorem jtf {st:St} {a:Act} (hs:slOK F ρ β w a st.sl) (hf:allT F ρ st.fs) {x y:Operand} {mx:Bool} {r:A} (h:minX st x y mx=some r) :
    ∃v,((mx=false→∀(ts:Array TypeId) (t:TypeId),(Builtin.min_ ts t #[a.eval x,a.eval y]).run P w=.ok v w)∧(mx=true→∀(ts:Array TypeId) (t:TypeId),(Builtin.max_ ts t #[a.eval x,a.eval y]).run P w=.ok v w))∧r.has F ρ β w v:=by
  unfold minX at h
  split at h
  · rename_i k a' k' b' e1 e2
    have h1:a.eval x=.int k (a'.den F ρ):=List.head_eq_of_cons_eq (jay hs e1);have h2:a.eval y=.int k' (b'.den F ρ):=List.head_eq_of_cons_eq (jay hs e2)
    split at h
    · rename_i ek
      subst ek;rw [h1,h2]
      cases mx with
      | false=>
        simp only [cond_false] at h
        split at h
        · rename_i e3
          cases h
          have:=jas hf _ _ e3;rw [bd_lt,decide_eq_true_eq] at this;exact ⟨_,⟨fun _ ts t=>by rw [run_min_int2,if_pos this],fun h=>by cases h⟩,rfl⟩
        · rename_i e3
          cases h
          have:=jas hf _ _ e3;rw [bd_lt,decide_eq_false_iff_not] at this;exact ⟨_,⟨fun _ ts t=>by rw [run_min_int2,if_neg this],fun h=>by cases h⟩,rfl⟩
        · cases h
      | true=>
        simp only [cond_true] at h
        split at h
        · rename_i e3
          cases h
          have:=jas hf _ _ e3;rw [bd_lt,decide_eq_true_eq] at this;exact ⟨_,⟨fun h=>(by cases h),fun _ ts t=>by rw [run_max_int2,if_pos this]⟩,rfl⟩
        · rename_i e3
          cases h
          have:=jas hf _ _ e3;rw [bd_lt,decide_eq_false_iff_not] at this;exact ⟨_,⟨fun h=>(by cases h),fun _ ts t=>by rw [run_max_int2,if_neg (by omega)]⟩,rfl⟩
        · cases h
    · cases h
  · cases h
theorem jop:∀{xs:List X} {l:List Int} {cs:List Value},litXs xs=some l→hasL F ρ β w xs cs→cs=l.map (Value.int .i64)
  | [],l,cs,h,k=>by simp only [litXs] at h;cases h;exact k
  | x::xs,l,cs,h,⟨c,d,h1,h2,h3⟩=>by
    unfold litXs at h
    split at h
    · rename_i e;cases e
    · rename_i z l' e
      cases e
      obtain ⟨r,e2,rfl⟩:=Option.map_eq_some_iff.1 h;have h4:c=[Value.int .i64 z]:=h2;rw [h1,h4,jop e2 h3]
      rfl
    · cases h
theorem j0b {st:St} {a:Act} (hs:slOK F ρ β w a st.sl) (hb:bxOK F ρ β w st.bx) (hf:allT F ρ st.fs) {o:Oper} {x:A} (h:pureX P st o.op=some x) :
    ∃v,(execOp a.eval o).run P w=.ok (.value v) w∧x.has F ρ β w v:=by
  unfold execOp
  generalize o.op=op at h ⊢
  unfold pureX at h
  split at h
  · exact ⟨_,rfl,jay hs h⟩
  · exact ⟨_,rfl,jay hs h⟩
  · -- extract
    rename_i t ix
    split at h
    · rename_i l e
      obtain ⟨vs,h1,h2⟩:=jay hs e
      cases hl:l[ix]? with
      | none=>rw [hl] at h;cases h
      | some b=>
        rw [hl] at h
        cases h
        obtain ⟨v,e1,e2⟩:=jon h2 hl;refine ⟨v,?_,e2⟩;simp only [h1,Instr.extract,Sem.run_bind];simp [e1]
    · cases h
  · -- field
    split at h
    · rename_i xs off ft e1 e2
      obtain ⟨cs,h1,h2⟩:=jay hs e1;obtain ⟨fs,y,g1,g2,g3,g4⟩:=jm3 e2
      cases hp:partX P ft xs off with
      | none=>rw [hp] at h;cases h
      | some b=>
        rw [hp] at h
        cases h
        obtain ⟨v,k1,k2⟩:=jtd (P:=P) h2 hp;refine ⟨v,?_,k2⟩;simp only [h1,Instr.field,Sem.run_bind,run_underlying g1 w,Result.andThen_ok,g2,asAgg,Sem.run_pure,g3,g4,k1]
    · cases h
  · -- fieldAddr
    split at h
    · rename_i g o' off ft e1 e2
      split at h
      · rename_i n e3
        cases h
        have h1:=jay hs e1;have h1':a.eval _=.pointer (some ⟨β g,o',none⟩):=List.head_eq_of_cons_eq h1;obtain ⟨fs,y,g1,g2,g3,g4⟩:=jm3 e2;refine ⟨.pointer (some ⟨β g,o'+off,none⟩),?_,rfl⟩;have hz:=jcp (P:=P) (w:=w) e3;simp only [h1',Instr.fieldAt,Sem.run_bind,run_underlying g1 w,Result.andThen_ok,g2,Instr.sureAddr,Sem.run_pure,fieldPlace,g3,g4,hz];rw [if_neg (by omega)];simp only [Sem.run_pure,Result.andThen_ok,Addr.add_mid]
      · rename_i e3
        split at h
        · rename_i bb e4
          split at h
          · rename_i e5 e6
            split at h
            · rename_i e7
              cases h
              rw [Bool.and_eq_true] at e7;obtain rfl:=Nat.eq_of_beq_eq_true e7.1;have h1:=jay hs e1;have h1':a.eval _=.pointer (some ⟨β g,0,none⟩):=List.head_eq_of_cons_eq h1;obtain ⟨fs,y,g1,g2,g3,g4⟩:=jm3 e2;obtain ⟨cs,k1,k2,k3⟩:=hb.at_ g bb e4;rw [e5] at k3;have k4:cs=[]:=k3;subst k4;have hz:=jcp (P:=P) (w:=w) e3;have e8:=e7.2;unfold fld0 at e8;rw [g1] at e8;simp only [g2,Bool.and_eq_true] at e8;have hp:=jtc (P:=P) k1 e6;refine ⟨.pointer (some ⟨β g,0,none⟩),?_,rfl⟩;simp only [h1',Instr.fieldAt,Sem.run_bind,run_underlying g1 w,Result.andThen_ok,g2,Instr.sureAddr,Sem.run_pure,fieldPlace,g4,hz,Nat.eq_of_beq_eq_true e8.1,Nat.eq_of_beq_eq_true e8.2];rw [if_pos trivial,hp]
              rfl
            · cases h
          · cases h
        · cases h
      · cases h
    · cases h
  · -- load
    split at h
    · rename_i g o' e1
      split at h
      · rename_i bb e2
        have h1:=jay hs e1;have h1':a.eval _=.pointer (some ⟨β g,o',none⟩):=List.head_eq_of_cons_eq h1;obtain ⟨cs,k1,k2,k3⟩:=hb.at_ g bb e2
        cases hp:partX P _ bb.xs o' with
        | none=>rw [hp] at h;cases h
        | some b=>
          rw [hp] at h
          cases h
          obtain ⟨v,m1,m2⟩:=jlg (P:=P) k1 k3 hp;refine ⟨v,?_,m2⟩;simp only [h1',Sem.run_bind,m1,Result.andThen_ok,Sem.run_pure]
      · cases h
    · cases h
  · -- binOp
    rename_i op T ox oy T2
    split at h
    · rename_i k a' k' b' e1 e2
      split at h
      · rename_i ek
        subst ek
        cases hx:binI st.fs _ k a' b' with
        | none=>rw [hx] at h;cases h
        | some x'=>
          rw [hx] at h
          cases h
          have h1:a.eval _=.int k (a'.den F ρ):=List.head_eq_of_cons_eq (jay hs e1);have h2:a.eval _=.int k (b'.den F ρ):=List.head_eq_of_cons_eq (jay hs e2);obtain ⟨v,k1,k2⟩:=jv0 (P:=P) (w:=w) (β:=β) hf hx T ox oy;refine ⟨v,?_,X.lit_ok k2⟩;rw [←h1,←h2] at k1;simp only [Sem.run_bind] at k1 ⊢;rw [k1]
          rfl
      · cases h
    · rename_i a' b' e1 e2
      cases hx:binB P T op a' b' with
      | none=>rw [hx] at h;cases h
      | some t=>
        rw [hx] at h
        cases h
        have h1:a.eval _=.bool (a'.bd F ρ):=List.head_eq_of_cons_eq (jay hs e1);have h2:a.eval _=.bool (b'.bd F ρ):=List.head_eq_of_cons_eq (jay hs e2);have k1:=jv1 (F:=F) (ρ:=ρ) (P:=P) (w:=w) hx ox oy;refine ⟨_,?_,rfl⟩;rw [←h1,←h2] at k1;simp only [Sem.run_bind] at k1 ⊢;rw [k1]
        rfl
    · rename_i a' b' e1 e2
      cases hx:binS _ a' b' with
      | none=>rw [hx] at h;cases h
      | some t=>
        rw [hx] at h
        cases h
        have h1:a.eval _=(Kc.str a').val:=List.head_eq_of_cons_eq (jay hs e1);have h2:a.eval _=(Kc.str b').val:=List.head_eq_of_cons_eq (jay hs e2);have k1:=jv2 (F:=F) (ρ:=ρ) (P:=P) (w:=w) hx T ox oy;refine ⟨_,?_,rfl⟩;rw [←h1,←h2] at k1;simp only [Sem.run_bind] at k1 ⊢;rw [k1]
        rfl
    · cases h
  · -- unOp
    split at h
    · rename_i c e1
      cases h
      have h1:a.eval _=.bool (c.bd F ρ):=List.head_eq_of_cons_eq (jay hs e1);refine ⟨.bool (!(c.bd F ρ)),?_,by show _=_;rw [jax]⟩;simp [h1,Op.unary]
    · rename_i k a' e1
      cases hx:binI st.fs .sub k (.n 0) a' with
      | none=>rw [hx] at h;cases h
      | some x'=>
        rw [hx] at h
        cases h
        have h1:a.eval _=.int k (a'.den F ρ):=List.head_eq_of_cons_eq (jay hs e1);simp only [binI] at hx
        split at hx
        · rename_i hw
          cases hx
          have hh:=jea hf hw;refine ⟨.int k ((T.sub (.n 0) a').den F ρ),?_,X.lit_ok (x:=.i k (.sub (.n 0) a')) (β:=β) (w:=w) rfl⟩;have e:=jc4 k (show loK k≤0 - a'.den F ρ∧_ from hh);simp only [h1,Op.unary,Op.intArith,e,Sem.run_bind,Sem.run_pure,Result.andThen_ok]
          rfl
        · cases hx
    · cases h
  · -- pick
    split at h
    · rename_i c e1
      have h1:a.eval _=.bool (c.bd F ρ):=List.head_eq_of_cons_eq (jay hs e1)
      split at h
      · rename_i e2
        refine ⟨_,?_,jay hs h⟩;simp [h1,asBool,jas hf c _ e2]
      · rename_i e2
        refine ⟨_,?_,jay hs h⟩;simp [h1,asBool,jas hf c _ e2]
      · cases h
    · cases h
  · -- convert
    split at h
    · rename_i k' a' k0 k e1 e2 e3
      split at h
      · rename_i hw
        cases h
        have h1:a.eval _=.int k' (a'.den F ρ):=List.head_eq_of_cons_eq (jay hs e1);refine ⟨.int k (a'.den F ρ),?_,rfl⟩;have e:=jc4 k (jea hf hw);simp [h1,convert,run_underlying (jte e2),run_underlying (jte e3),Conv.intToInt,e]
      · cases h
    · cases h
  · -- makeFunc
    rename_i f caps
    cases hx:capsX st caps.toList with
    | none=>rw [hx] at h;cases h
    | some xs=>
      rw [hx] at h
      cases h
      refine ⟨.func (.func f) #[] (caps.map a.eval),?_,caps.toList.map a.eval,?_,joo hs hx⟩
      · simp [Instr.makeFunc]
      · congr 1
        apply Array.ext';simp
  · -- nilCheck
    rename_i x
    split at h
    · rename_i b o' e
      cases h
      have h1:a.eval x=.pointer (some ⟨β b,o',none⟩):=List.head_eq_of_cons_eq (jay hs e);refine ⟨_,?_,jay hs e⟩;simp [h1]
    · rename_i t l e
      cases h
      have h1:a.eval x=(Kc.ifc t l).val:=List.head_eq_of_cons_eq (jay hs e);refine ⟨_,?_,jay hs e⟩;simp [h1,Kc.val]
    · cases h
  · -- makeInterface
    rename_i t x
    split at h
    · rename_i xs e1 e2
      obtain ⟨l,e3,rfl⟩:=Option.map_eq_some_iff.1 h;obtain ⟨cs,h1,h2⟩:=jay hs e1;refine ⟨_,?_,rfl⟩;simp only [h1,jop e3 h2,Sem.run_bind,run_makeInterface _ _ _ e2,Result.andThen_ok,Sem.run_pure]
      rfl
    · cases h
  · -- min, max
    rename_i c
    split at h
    · rename_i x y e1 e2
      obtain ⟨v,k1,k2⟩:=jtf hs hf h;refine ⟨v,?_,k2⟩;have k3:=k1.1 rfl c.argTypes o.type;simp only [resolve,e1,e2,Sem.run_bind,Sem.run_pure,Result.andThen_ok,invoke,(show ∀ats ty cs args,builtin .min ats ty cs args=(do pure (.value (← Builtin.min_ ats ty args))) from fun _ _ _ _=>rfl)];have:(#[x,y].map a.eval)=#[a.eval x,a.eval y]:=by simp
      rw [show (⟨[x,y]⟩:Array Operand)=#[x,y] from rfl,this,k3]
      rfl
    · rename_i x y e1 e2
      obtain ⟨v,k1,k2⟩:=jtf hs hf h;refine ⟨v,?_,k2⟩;have k3:=k1.2 rfl c.argTypes o.type;simp only [resolve,e1,e2,Sem.run_bind,Sem.run_pure,Result.andThen_ok,invoke,(show ∀ats ty cs args,builtin .max ats ty cs args=(do pure (.value (← Builtin.max_ ats ty args))) from fun _ _ _ _=>rfl)];have:(#[x,y].map a.eval)=#[a.eval x,a.eval y]:=by simp
      rw [show (⟨[x,y]⟩:Array Operand)=#[x,y] from rfl,this,k3]
      rfl
    · cases h
  · cases h
end
end V
namespace V
def hasA (F:Nat→List Int→Int) (ρ:Nat→Int) (β:Nat→Nat) (w:World):List A→List Value→Prop
  | [],vs=>vs=[]
  | a::l,vs=>∃v r,vs=v::r∧a.has F ρ β w v∧hasA F ρ β w l r
structure Ctr (P:Program) (F:Nat→List Int→Int) where
  f:FuncId
  inst:List T→List Bx→List A→Option (List T×A×List T)
  ent:Enters P f
  ok:∀{ρ:Nat→Int} {β:Nat→Nat} {w:World} {fs:List T} {bx:List Bx} {ar:List A} {vs:List Value} {pre:List T} {res:A} {post:List T},allT F ρ fs→bxOK F ρ β w bx→hasA F ρ β w ar vs→inst fs bx ar=some (pre,res,post)→allT F ρ pre→
    allT F ρ post∧Calls P f vs.toArray w (fun e w'=>Below w.heap.size w w'∧∃u,e=.returned u∧res.has F ρ β w' u)
  opI:List T→BinOp→IntKind→T→T→Option (List T×X×List T):=fun _ _ _ _ _=>none
  opOk:∀{ρ:Nat→Int} {β:Nat→Nat} {w:World} {op:BinOp} {k:IntKind} {fs:List T} {a b:T} {pre:List T} {x:X} {post:List T},allT F ρ fs→opI fs op k a b=some (pre,x,post)→allT F ρ pre→
    allT F ρ post∧∀(t:TypeId) (o1 o2:Operand),∃v,((do eqGuard op t o1 o2 (.int k (a.den F ρ)) (.int k (b.den F ρ));binOp op t (.int k (a.den F ρ)) (.int k (b.den F ρ))):Sem Value).run P w=.ok v w∧x.has F ρ β w [v]:=by
    intro _ _ _ _ _ _ _ _ _ _ _ _ h;cases h
  mn:Option (Nat×List Int×String):=none
  mok:∀{t:Nat} {l:List Int} {s:String},mn=some (t,l,s)→∀(w:World) (args:Array Value),(callMethod (Kc.ifc t l).val s args).run P w=.ok (.enter f (#[Value.agg (l.map (Value.int .i64)).toArray] ++ args)) w:=by
    intro _ _ _ h;cases h
def Ctr.meth {P:Program} {F:Nat→List Int→Int} (c:Ctr P F) (t:Nat) (l:List Int) (s:String) (h:∀(w:World) (args:Array Value),(callMethod (Kc.ifc t l).val s args).run P w=.ok (.enter c.f (#[Value.agg (l.map (Value.int .i64)).toArray] ++ args)) w):Ctr P F:=
  { c with mn:=some (t,l,s),mok:=by intro t' l' s' e;cases e;exact h }
def findO {P:Program} {F:Nat→List Int→Int}:List (Ctr P F)→List T→BinOp→IntKind→T→T→Option (List T×X×List T)
  | [],_,_,_,_,_=>none
  | c::l,fs,op,k,a,b=>match c.opI fs op k a b with
    | some r=>some r
    | none=>findO l fs op k a b
theorem joq {P:Program} {F:Nat→List Int→Int} {ρ:Nat→Int} {β:Nat→Nat} {w:World} {op:BinOp} {k:IntKind} {fs:List T} {a b:T} {pre:List T} {x:X} {post:List T} (hf:allT F ρ fs):∀{tab:List (Ctr P F)},findO tab fs op k a b=some (pre,x,post)→allT F ρ pre→
    allT F ρ post∧∀(t:TypeId) (o1 o2:Operand),∃v,((do eqGuard op t o1 o2 (.int k (a.den F ρ)) (.int k (b.den F ρ));binOp op t (.int k (a.den F ρ)) (.int k (b.den F ρ))):Sem Value).run P w=.ok v w∧x.has F ρ β w [v]
  | [],h,_=>by cases h
  | c::l,h,hp=>by
    simp only [findO] at h
    split at h
    · rename_i r e
      cases h
      exact c.opOk hf e hp
    · exact joq hf h hp
def evOs (st:St):List Operand→Option (List A)
  | []=>some []
  | o::r=>match evO st o,evOs st r with
    | some x,some xs=>some (x::xs)
    | _,_=>none
def allKnown (fs:List T):List T→Bool
  | []=>true
  | t::l=>(match known2 fs t with | some true=>true | _=>false) && allKnown fs l
def isSh:BinOp→Bool
  | .shl=>true
  | .shr=>true
  | _=>false
theorem j0c {P:Program} {w:World} {op:BinOp} (h:isSh op=true) (t:TypeId) (o1 o2:Operand) (k k':IntKind) (a b:Int) :
    ((do eqGuard op t o1 o2 (.int k a) (.int k' b);binOp op t (.int k a) (.int k' b)):Sem Value).run P w=((do eqGuard op t o1 o2 (.int k a) (.int k b);binOp op t (.int k a) (.int k b)):Sem Value).run P w:=by
  cases op <;> first | (cases h;done) | skip
  · simp only [eqGuard_shl,Sem.run_bind,Sem.run_pure,Result.andThen_ok,binOp_shl,Op.shift]
  · simp only [eqGuard_shr,Sem.run_bind,Sem.run_pure,Result.andThen_ok,binOp_shr,Op.shift]
def firstC {P:Program} {F:Nat→List Int→Int}:List (Ctr P F)→Nat→List T→List Bx→List A→Option (A×List T)
  | [],_,_,_,_=>none
  | c::l,f,fs,bx,ar=>match Nat.beq c.f f with
    | true=>match c.inst fs bx ar with
      | some (pre,res,post)=>match allKnown fs pre with
        | true=>some (res,post)
        | false=>firstC l f fs bx ar
      | none=>firstC l f fs bx ar
    | false=>firstC l f fs bx ar
theorem jfi {P:Program} {F:Nat→List Int→Int} {f:Nat} {fs:List T} {bx:List Bx} {ar:List A} {res:A} {post:List T}:∀{l:List (Ctr P F)},firstC l f fs bx ar=some (res,post)→∃(c:Ctr P F) (pre:List T),c.f=f∧c.inst fs bx ar=some (pre,res,post)∧allKnown fs pre=true
  | [],h=>by cases h
  | c::l,h=>by
    simp only [firstC] at h
    split at h
    · rename_i e
      split at h
      · rename_i pre res' post' e2
        split at h
        · rename_i e3
          cases h
          exact ⟨c,pre,Nat.eq_of_beq_eq_true e,e2,e3⟩
        · exact jfi h
      · exact jfi h
    · exact jfi h
def firstM {P:Program} {F:Nat→List Int→Int}:List (Ctr P F)→Nat→List Int→String→List T→List Bx→List A→Option (A×List T)
  | [],_,_,_,_,_,_=>none
  | c::r,t,l,s,fs,bx,ar=>match c.mn with
    | some (t',l',s')=>match Nat.beq t' t && eqZs l' l && (s' == s) with
      | true=>match c.inst fs bx ar with
        | some (pre,res,post)=>match allKnown fs pre with
          | true=>some (res,post)
          | false=>firstM r t l s fs bx ar
        | none=>firstM r t l s fs bx ar
      | false=>firstM r t l s fs bx ar
    | none=>firstM r t l s fs bx ar
theorem jeb {P:Program} {F:Nat→List Int→Int} {t:Nat} {l:List Int} {s:String} {fs:List T} {bx:List Bx} {ar:List A} {res:A} {post:List T}:∀{tab:List (Ctr P F)},firstM tab t l s fs bx ar=some (res,post)→∃(c:Ctr P F) (pre:List T),c.mn=some (t,l,s)∧c.inst fs bx ar=some (pre,res,post)∧allKnown fs pre=true
  | [],h=>by cases h
  | c::r,h=>by
    simp only [firstM] at h
    split at h
    · rename_i t' l' s' em
      split at h
      · rename_i e
        simp only [Bool.and_eq_true,beq_iff_eq] at e
        split at h
        · rename_i pre res' post' e2
          split at h
          · rename_i e3
            cases h
            exact ⟨c,pre,by rw [em,Nat.eq_of_beq_eq_true e.1.1,jm2 e.1.2,e.2],e2,e3⟩
          · exact jeb h
        · exact jeb h
      · exact jeb h
    · exact jeb h
def callX {P:Program} {F:Nat→List Int→Int} (tab:List (Ctr P F)) (st:St):Op→Option (A×List T)
  | .call c=>match c.callee with
    | .value fo=>match evO st fo,evOs st c.args.toList with
      | some (.one (.fn f caps)),some ar=>match caps.all (fun x=>Nat.beq x.w 1) with
        | true=>firstC tab f st.fs st.bx (ar ++ caps.map fun x=>A.one (.sc x))
        | false=>none
      | _,_=>none
    | .invoke r s=>match evO st r,evOs st c.args.toList with
      | some (.one (.sc (.cst (.ifc t l)))),some ar=>firstM tab t l s st.fs st.bx (.one (.ag (l.map fun z=>.i .i64 (.n z)))::ar)
      | _,_=>none
    | _=>none
  | .binOp op _ x y _=>match evO st x,evO st y with
    | some (.one (.sc (.i k a))),some (.one (.sc (.i k' b)))=>if k=k'∨isSh op=true then (match findO tab st.fs op k a b with
      | some (pre,x,post)=>if allKnown st.fs pre then some (.one (.sc x),post) else none
      | none=>none) else none
    | _,_=>none
  | _=>none
section
variable {F:Nat→List Int→Int} {ρ:Nat→Int} {β:Nat→Nat} {P:Program} {w:World}
theorem jm4 {st:St} {a:Act} (hs:slOK F ρ β w a st.sl):∀{os:List Operand} {xs:List A},evOs st os=some xs→hasA F ρ β w xs (os.map a.eval)
  | [],xs,h=>by simp [evOs] at h;subst h;rfl
  | o::r,xs,h=>by
    simp only [evOs] at h
    split at h
    · rename_i x ys e1 e2
      cases h
      exact ⟨a.eval o,_,rfl,jay hs e1,jm4 hs e2⟩
    · cases h
theorem jor:∀{xs ys:List A} {us vs:List Value},hasA F ρ β w xs us→hasA F ρ β w ys vs→hasA F ρ β w (xs ++ ys) (us ++ vs)
  | [],_,_,_,h,k=>by rw [show _=[] from h];exact k
  | _::_,_,_,_,⟨v,r,h1,h2,h3⟩,k=>⟨v,_,by rw [h1];rfl,h2,jor h3 k⟩
theorem jlj:∀{xs:List X} {cs:List Value},hasL F ρ β w xs cs→xs.all (fun x=>Nat.beq x.w 1)=true→hasA F ρ β w (xs.map fun x=>A.one (.sc x)) cs
  | [],_,h,_=>h
  | x::xs,_,⟨c,d,h1,h2,h3⟩,k=>by
    simp only [List.all_cons,Bool.and_eq_true] at k;have hl:=X.len h2;rw [Nat.eq_of_beq_eq_true k.1] at hl;obtain ⟨v,rfl⟩:=List.length_eq_one_iff.1 hl;exact ⟨v,d,h1,h2,jlj h3 k.2⟩
theorem jbd {fs:List T} (hf:allT F ρ fs):∀{l:List T},allKnown fs l=true→allT F ρ l
  | [],_=>trivial
  | t::l,h=>by
    simp only [allKnown,Bool.and_eq_true] at h;refine ⟨?_,jbd hf h.2⟩;have h1:=h.1
    split at h1
    · rename_i e;exact jas hf t _ e
    · cases h1
theorem jlk:∀(l:List Int),hasL F ρ β w (l.map fun z=>X.i .i64 (.n z)) (l.map (Value.int .i64))
  | []=>rfl
  | z::l=>⟨[Value.int .i64 z],_,rfl,rfl,jlk l⟩
theorem ext1 (x:Value) (l:Array Value):(#[x] ++ l)[0]? = some x∧(#[x] ++ l).extract 1 (#[x] ++ l).size=l:=by
  obtain ⟨l⟩:=l;refine ⟨by simp,?_⟩;apply Array.ext';simp
theorem jtg {tab:List (Ctr P F)} {st:St} {a:Act} (hs:slOK F ρ β w a st.sl) (hb:bxOK F ρ β w st.bx) (hf:allT F ρ st.fs) {o:Oper} {x:A} {post:List T} (h:callX tab st o.op=some (x,post))
    {K:Act→World→Prop} {Q:Exit→Act→World→Prop} (hk:allT F ρ post→∀u w',Below w.heap.size w w'→x.has F ρ β w' u→K (a.put o.dst u) w'):o.wp P a w K Q:=by
  unfold callX at h
  split at h
  · rename_i c eop
    split at h
    · rename_i fo ec
      split at h
      · rename_i f caps ar e1 e2
        split at h
        · rename_i e5
          obtain ⟨ct,pre,ef,e4,e6⟩:=jfi h;obtain ⟨cs,g1,g2⟩:=jay hs e1;obtain ⟨k1,k2⟩:=ct.ok hf hb (jor (jm4 hs e2) (jlj g2 e5)) e4 (jbd hf e6);subst ef;unfold Oper.wp execOp
          have hrun:(do let d ← resolve a.eval c o.type;invoke d.target d.args:Sem Next).run P w=.ok (.enter ct.f (c.args.toList.map a.eval ++ cs).toArray) w:=by
            simp only [Sem.run_bind,resolve,ec,Deferred.ofValue,g1,Sem.run_pure,Result.andThen_ok,invoke]
            have:(#[] ++ c.args.map a.eval ++ cs.toArray)=(c.args.toList.map a.eval ++ cs).toArray:=by
              apply Array.ext';simp
            rw [this];exact ct.ent _ _
          rw [eop];simp only [hrun,Oper.upon_enter];refine Calls.mono k2 ?_;rintro e w' ⟨hb',u,rfl,hu⟩;exact hk k1 u w' hb' hu
        · cases h
      · cases h
    · rename_i r s ec
      split at h
      · rename_i t l ar e1 e2
        obtain ⟨ct,pre,em,e4,e6⟩:=jeb h;have g1:a.eval r=(Kc.ifc t l).val:=List.head_eq_of_cons_eq (jay hs e1);have ha:hasA F ρ β w (.one (.ag (l.map fun z=>.i .i64 (.n z)))::ar) (Value.agg (l.map (Value.int .i64)).toArray::c.args.toList.map a.eval):=⟨_,_,rfl,⟨_,rfl,jlk l⟩,jm4 hs e2⟩;obtain ⟨k1,k2⟩:=ct.ok hf hb ha e4 (jbd hf e6);unfold Oper.wp execOp
        have hrun:(do let d ← resolve a.eval c o.type;invoke d.target d.args:Sem Next).run P w=.ok (.enter ct.f (Value.agg (l.map (Value.int .i64)).toArray::c.args.toList.map a.eval).toArray) w:=by
          simp only [Sem.run_bind,resolve,ec,g1,Sem.run_pure,Result.andThen_ok];obtain ⟨h1,h2⟩:=ext1 (Kc.ifc t l).val (c.args.map a.eval)
          have h3:#[Value.agg (l.map (Value.int .i64)).toArray] ++ c.args.map a.eval=(Value.agg (l.map (Value.int .i64)).toArray::c.args.toList.map a.eval).toArray:=by
            apply Array.ext';simp
          have h4:=ct.mok em w (c.args.map a.eval);rw [h3] at h4;unfold invoke;simp only [h1,h2];exact h4
        rw [eop];simp only [hrun,Oper.upon_enter];refine Calls.mono k2 ?_;rintro e w' ⟨hb',u,rfl,hu⟩;exact hk k1 u w' hb' hu
      · cases h
    · cases h
  · rename_i op t x' y' yt eop
    split at h
    · rename_i k a' k' b' e1 e2
      split at h
      · rename_i hkk
        split at h
        · rename_i pre x1 post' e3
          split at h
          · rename_i e5
            cases h
            obtain ⟨k1,k2⟩:=joq (β:=β) (w:=w) hf e3 (jbd hf e5);obtain ⟨v,g1,g2⟩:=k2 t x' y';have h1:a.eval x'=.int k (a'.den F ρ):=List.head_eq_of_cons_eq (jay hs e1);have h2:a.eval y'=.int k' (b'.den F ρ):=List.head_eq_of_cons_eq (jay hs e2)
            have g3:((do eqGuard op t x' y' (.int k (a'.den F ρ)) (.int k' (b'.den F ρ));binOp op t (.int k (a'.den F ρ)) (.int k' (b'.den F ρ))):Sem Value).run P w=.ok v w:=by
              rcases hkk with rfl | hsh
              · exact g1
              · rw [j0c hsh];exact g1
            unfold Oper.wp execOp;rw [eop];simp only [h1,h2];simp only [Sem.run_bind] at g3 ⊢;rw [g3];simp only [Result.andThen_ok,Sem.run_pure,Oper.upon_value];exact hk k1 v w (Below.refl _ _) g2
          · cases h
        · cases h
      · cases h
    · cases h
  · cases h
end
end V
namespace V
def del:Nat→List (Nat×A)→List (Nat×A)
  | _,[]=>[]
  | d,(i,a)::l=>if Nat.beq i d then del d l else (i,a)::del d l
def delB:Nat→List Bx→List Bx
  | _,[]=>[]
  | d,b::l=>if Nat.beq b.id d then delB d l else b::delB d l
theorem jf1 {d t:Nat}:∀{l:List (Nat×A)} {x:A},get (del d l) t=some x→get l t=some x∧t≠d
  | [],_,h=>by cases h
  | (i,a)::l,x,h=>by
    simp only [del] at h
    split at h
    · rename_i e
      obtain ⟨h1,h2⟩:=jf1 h;refine ⟨?_,h2⟩;simp only [get];rw [if_neg]
      · exact h1
      · intro e2
        exact h2 ((Nat.eq_of_beq_eq_true e2).symm.trans (Nat.eq_of_beq_eq_true e))
    · rename_i e
      simp only [get] at h ⊢
      split at h
      · rename_i e2
        rw [if_pos e2];refine ⟨h,fun e3=>e ?_⟩;rw [←e3];exact e2
      · rename_i e2
        rw [if_neg e2];exact jf1 h
theorem jdv {d t:Nat}:∀{l:List Bx} {x:Bx},getB (delB d l) t=some x→getB l t=some x∧t≠d
  | [],_,h=>by cases h
  | b::l,x,h=>by
    simp only [delB] at h
    split at h
    · rename_i e
      obtain ⟨h1,h2⟩:=jdv h;refine ⟨?_,h2⟩;simp only [getB];rw [if_neg]
      · exact h1
      · intro e2
        exact h2 ((Nat.eq_of_beq_eq_true e2).symm.trans (Nat.eq_of_beq_eq_true e))
    · rename_i e
      simp only [getB] at h ⊢
      split at h
      · rename_i e2
        rw [if_pos e2];refine ⟨h,fun e3=>e ?_⟩;rw [←e3];exact e2
      · rename_i e2
        rw [if_neg e2];exact jdv h
def X.mp (d:Nat):X→Bool
  | .p q _=>Nat.beq q d
  | _=>false
def V1.mp (d:Nat):V1→Bool
  | .sc x=>x.mp d
  | .ag xs=>xs.any (X.mp d)
  | .fn _ xs=>xs.any (X.mp d)
def A.mp (d:Nat):A→Bool
  | .one a=>a.mp d
  | .tup l=>l.any (V1.mp d)
  | .und=>false
def upd (β:Nat→Nat) (d g:Nat):Nat→Nat:=fun i=>if i=d then g else β i
section
variable {F:Nat→List Int→Int} {ρ:Nat→Int} {β:Nat→Nat} {P:Program} {w:World} {d g:Nat}
theorem X.upd {x:X} {cs:List Value} (h:x.has F ρ β w cs) (k:x.mp d=false):x.has F ρ (upd β d g) w cs:=by
  cases x with
  | p b o=>
    have k':Nat.beq b d=false:=k;have:b≠d:=fun e=>by subst e;simp at k'
    show cs=_
    unfold V.upd;rw [if_neg this];exact h
  | _=>exact h
theorem hasL.upd:∀{xs:List X} {cs:List Value},hasL F ρ β w xs cs→xs.any (X.mp d)=false→hasL F ρ (V.upd β d g) w xs cs
  | [],_,h,_=>h
  | _::_,_,⟨c,e,h1,h2,h3⟩,k=>by
    simp only [List.any_cons,Bool.or_eq_false_iff] at k;exact ⟨c,e,h1,X.upd h2 k.1,hasL.upd h3 k.2⟩
theorem V1.upd {a:V1} {v:Value} (h:a.has F ρ β w v) (k:a.mp d=false):a.has F ρ (V.upd β d g) w v:=by
  cases a with
  | sc x=>exact X.upd h k
  | ag xs=>obtain ⟨cs,h1,h2⟩:=h;exact ⟨cs,h1,hasL.upd h2 k⟩
  | fn f xs=>obtain ⟨cs,h1,h2⟩:=h;exact ⟨cs,h1,hasL.upd h2 k⟩
theorem hasV.upd:∀{l:List V1} {vs:List Value},hasV F ρ β w l vs→l.any (V1.mp d)=false→hasV F ρ (V.upd β d g) w l vs
  | [],_,h,_=>h
  | _::_,_,⟨v,r,h1,h2,h3⟩,k=>by
    simp only [List.any_cons,Bool.or_eq_false_iff] at k;exact ⟨v,r,h1,V1.upd h2 k.1,hasV.upd h3 k.2⟩
theorem A.upd {a:A} {v:Value} (h:a.has F ρ β w v) (k:a.mp d=false):a.has F ρ (V.upd β d g) w v:=by
  cases a with
  | one a=>exact V1.upd h k
  | tup l=>obtain ⟨vs,h1,h2⟩:=h;exact ⟨vs,h1,hasV.upd h2 k⟩
  | und=>exact h
end
structure SH (F:Nat→List Int→Int) (ρ:Nat→Int) (β:Nat→Nat) (w0:World) (n:Nat) (st:St) (a:Act) (w:World):Prop where
  sl:slOK F ρ β w a st.sl
  bx:bxOK F ρ β w st.bx
  base:∀i b,getB st.bx i=some b→b.ro=false→w0.heap.size≤β i
  fs:allT F ρ st.fs
  low:Below w0.heap.size w0 w
  df:a.defers=[]
  sz:a.tmps.size=n
  lt:∀d x,get st.sl d=some x→d<n
theorem jac {F:Nat→List Int→Int} {ρ:Nat→Int}:∀{l m:List T},allT F ρ l→allT F ρ m→allT F ρ (l ++ m)
  | [],_,_,k=>k
  | _::_,_,h,k=>⟨h.1,jac h.2 k⟩
section
variable {F:Nat→List Int→Int} {ρ:Nat→Int} {β:Nat→Nat} {P:Program} {w w' w0:World} {n:Nat} {st:St} {a:Act}
theorem jf2 (a:Act) (d t:Nat) (u:Value) (hd:d<a.tmps.size):(a.put (some d) u).tmps.getD t undef=if t=d then u else a.tmps.getD t undef:=by
  simp only [Act.put,Array.getD_eq_getD_getElem?,Array.getElem?_setIfInBounds]
  by_cases h:d=t
  · subst h;simp [hd]
  · rw [if_neg h,if_neg (fun e=>h e.symm)]
theorem slOK.ext {sl:List (Nat×A)} (h:slOK F ρ β w a sl) (he:Ext w w'):slOK F ρ β w' a sl:=fun t x hx=>A.ext (h t x hx) he
theorem slOK.sub {sl:List (Nat×A)} (h:slOK F ρ β w a sl) (d:Nat):slOK F ρ β w a (V.del d sl):=fun t x hx=>h t x (jf1 hx).1
theorem slOK.put {sl:List (Nat×A)} {d:Nat} (h:slOK F ρ β w a (V.del d sl)) {x:A} {u:Value} (hx:x.has F ρ β w u) (hd:d<a.tmps.size):slOK F ρ β w (a.put (some d) u) ((d,x)::V.del d sl):=by
  intro t y hy;rw [jf2 a d t u hd];simp only [get] at hy
  split at hy
  · rename_i e
    cases hy
    rw [if_pos (Nat.eq_of_beq_eq_true e).symm];exact hx
  · rw [if_neg (jf1 hy).2]
    exact h t y hy
theorem slOK.del {sl:List (Nat×A)} (h:slOK F ρ β w a sl) {d:Nat} {u:Value} (hd:d<a.tmps.size):slOK F ρ β w (a.put (some d) u) (V.del d sl):=by
  intro t y hy;rw [jf2 a d t u hd];obtain ⟨h1,h2⟩:=jf1 hy;rw [if_neg h2];exact h t y h1
theorem bxOK.below {bx:List Bx} (h:bxOK F ρ β w bx) (hb:Below w.heap.size w w'):bxOK F ρ β w' bx:=
  ⟨fun i b hi=>by
    obtain ⟨cs,h1,h2,h3⟩:=h.at_ i b hi;exact ⟨cs,h1.below hb h1.lt,h2,h3.ext (jau hb)⟩,h.ne⟩
theorem jfj (a:Act) (d:Option Nat) (u:Value):(a.put d u).tmps.size=a.tmps.size:=by
  cases d <;> simp [Act.put]
theorem jc8 (a:Act) (d:Option Nat) (u:Value):(a.put d u).defers=a.defers:=by
  cases d <;> rfl
theorem jth {sl:List (Nat×A)} {n d:Nat} {x:A} (h:∀d x,get sl d=some x→d<n) (hd:d<n):∀i y,get ((d,x)::V.del d sl) i=some y→i<n:=by
  intro i y hi;simp only [get] at hi
  split at hi
  · rename_i e;rw [←Nat.eq_of_beq_eq_true e];exact hd
  · exact h i y (jf1 hi).1
theorem SH.val (h:SH F ρ β w0 n st a w) {d:Nat} {x:A} {u:Value} {post:List T} (hb:Below w.heap.size w w') (hx:x.has F ρ β w' u) (hd:d<n) (hp:allT F ρ post) :
    SH F ρ β w0 n { st with sl:=(d,x)::V.del d st.sl,fs:=post ++ st.fs } (a.put (some d) u) w':=
  ⟨((h.sl.ext (jau hb)).sub d).put hx (by rw [h.sz];exact hd),h.bx.below hb,h.base,jac hp h.fs,h.low.trans (hb.mono h.low.size),by rw [jc8];exact h.df,by rw [jfj];exact h.sz,jth h.lt hd⟩
def fresh (d:Nat) (st:St):Bool:=(del d st.sl).all (fun p=>!(p.2.mp d)) && (delB d st.bx).all (fun b=>!(b.xs.any (X.mp d)))
theorem jv4 {d:Nat} (h:(del d st.sl).all (fun p=>!(p.2.mp d))=true):∀t x,get (del d st.sl) t=some x→x.mp d=false:=by
  generalize del d st.sl=l at *
  intro t x hx
  induction l with
  | nil=>cases hx
  | cons p l ih=>
    simp only [List.all_cons,Bool.and_eq_true,Bool.not_eq_true'] at h;simp only [get] at hx
    split at hx
    · cases hx;exact h.1
    · exact ih h.2 hx
theorem jv5 {d:Nat} (h:(delB d st.bx).all (fun b=>!(b.xs.any (X.mp d)))=true):∀t x,getB (delB d st.bx) t=some x→x.xs.any (X.mp d)=false:=by
  generalize delB d st.bx=l at *
  intro t x hx
  induction l with
  | nil=>cases hx
  | cons p l ih=>
    simp only [List.all_cons,Bool.and_eq_true,Bool.not_eq_true'] at h;simp only [getB] at hx
    split at hx
    · cases hx;exact h.1
    · exact ih h.2 hx
def X.noU:X→Bool
  | .i .u64 _=>false
  | _=>true
theorem jti:∀{xs:List X} {cs:List Value},hasL F ρ β w xs cs→xs.all X.noU=true→∀v∈cs,∀x:Int,v≠.int .u64 x
  | [],_,h,_=>by rw [show _=[] from h];intro v hv;cases hv
  | y::ys,_,⟨c,d,h1,h2,h3⟩,k=>by
    simp only [List.all_cons,Bool.and_eq_true] at k;intro v hv x hvx;rw [h1] at hv
    rcases List.mem_append.1 hv with hv | hv
    · cases y with
      | i kk t=>
        rw [show c=_ from h2] at hv;simp at hv;subst hv
        cases hvx
        cases k.1
      | b t=>rw [show c=_ from h2] at hv;simp at hv;subst hv;cases hvx
      | z kk cn t=>
        obtain ⟨nn,A',l,cc,e,-⟩:=h2;rw [e] at hv;simp at hv
        rcases hv with rfl | rfl <;> cases hvx
      | p b o=>rw [show c=_ from h2] at hv;simp at hv;subst hv;cases hvx
      | s0=>rw [show c=_ from h2] at hv;simp at hv;subst hv;cases hvx
      | cst q=>rw [show c=_ from h2] at hv;simp at hv;subst hv;cases q <;> cases hvx
    · exact jti h3 k.2 v hv x hvx
theorem jtj {cs:List Value} (h:∀v∈cs,∀x:Int,v≠.int .u64 x):NoU cs.toArray:=by
  intro i x hx;rw [List.getElem?_toArray] at hx;exact h _ (List.mem_of_getElem? hx) x rfl
theorem jtk:∀{xs:List X} {cs:List Value},hasL F ρ β w xs cs→∀v∈cs,v.oneCell'=true
  | [],_,h=>by rw [show _=[] from h];intro v hv;cases hv
  | y::ys,_,⟨c,d,h1,h2,h3⟩=>by
    intro v hv;rw [h1] at hv
    rcases List.mem_append.1 hv with hv | hv
    · cases y with
      | z kk cn t=>
        obtain ⟨nn,A',l,cc,e,-⟩:=h2;rw [e] at hv;simp at hv
        rcases hv with rfl | rfl <;> rfl
      | cst q=>rw [show c=_ from h2] at hv;simp at hv;subst hv;cases q <;> rfl
      | _=>rw [show c=_ from h2] at hv;simp at hv;subst hv;rfl
    · exact jtk h3 v hv
theorem SH.newBox (h:SH F ρ β w0 n st a w) {d:Nat} {T:TypeId} {xs:List X} {cs:List Value} (hx:hasL F ρ β w xs cs) (hd:d<n) (hf:fresh d st=true) (hm:xs.any (X.mp d)=false) :
    SH F ρ (V.upd β d w.heap.size) w0 n { st with sl:=(d,.one (.sc (.p d 0)))::V.del d st.sl,bx:=⟨d,T,xs,false⟩::delB d st.bx } (a.put (some d) (.pointer (some ⟨w.heap.size,0,none⟩))) (w.alloc (.cells cs.toArray T)):=by
  have hb:Below w.heap.size w (w.alloc (.cells cs.toArray T)):=(Below.refl _ _).alloc (Nat.le_refl _) _;unfold fresh at hf;rw [Bool.and_eq_true] at hf;have f1:=jv4 hf.1;have f2:=jv5 hf.2;refine ⟨?_,⟨?_,?_⟩,?_,h.fs,h.low.trans (hb.mono h.low.size),by rw [jc8];exact h.df,by rw [jfj];exact h.sz,jth h.lt hd⟩
  · refine slOK.put ?_ ?_ (by rw [h.sz];exact hd)
    · exact fun t y hy=>A.upd (A.ext (h.sl.sub d t y hy) (jau hb)) (f1 t y hy)
    · show [_]=[_]
      unfold V.upd;rw [if_pos rfl]
  · intro i b hi
    simp only [getB] at hi
    split at hi
    · rename_i e
      cases hi
      have e':d=i:=Nat.eq_of_beq_eq_true e;subst e';refine ⟨cs,?_,trivial,hasL.upd (hx.ext (jau hb)) hm⟩;unfold V.upd;rw [if_pos rfl];exact Blk.new w _ _
    · obtain ⟨g1,g2⟩:=jdv hi
      obtain ⟨cs',k1,k2,k3⟩:=h.bx.at_ i b g1;refine ⟨cs',?_,k2,hasL.upd (k3.ext (jau hb)) (f2 i b hi)⟩;unfold V.upd;rw [if_neg g2];exact k1.below hb k1.lt
  · intro i j b c hi hj hij
    simp only [getB] at hi hj;unfold V.upd
    split at hi
    · rename_i e
      have e':d=i:=Nat.eq_of_beq_eq_true e;subst e'
      split at hj
      · rename_i e2
        exact absurd (Nat.eq_of_beq_eq_true e2) hij
      · obtain ⟨g1,g2⟩:=jdv hj
        rw [if_pos rfl,if_neg g2];obtain ⟨cs',k1,-⟩:=h.bx.at_ j c g1;exact Nat.ne_of_gt k1.lt
    · obtain ⟨g1,g2⟩:=jdv hi
      rw [if_neg g2];obtain ⟨cs',k1,-⟩:=h.bx.at_ i b g1
      split at hj
      · rename_i e2
        have e':d=j:=Nat.eq_of_beq_eq_true e2;subst e';rw [if_pos rfl];exact Nat.ne_of_lt k1.lt
      · obtain ⟨g3,g4⟩:=jdv hj
        rw [if_neg g4];exact h.bx.ne i j b c g1 g3 hij
  · intro i b hi hro
    simp only [getB] at hi;unfold V.upd
    split at hi
    · rename_i e
      rw [if_pos (Nat.eq_of_beq_eq_true e).symm];exact h.low.size
    · obtain ⟨g1,g2⟩:=jdv hi
      rw [if_neg g2];exact h.base i b g1 hro
def putX (xs ys:List X) (off:Nat):Option (List X):=match takeW xs off,dropW xs (off+widths ys) with
  | some l,some r=>some (l ++ ys ++ r)
  | _,_=>none
def updB:List Bx→Nat→List X→List Bx
  | [],_,_=>[]
  | b::l,i,ys=>if Nat.beq b.id i then { b with xs:=ys }::l else b::updB l i ys
theorem jgl {i j:Nat} {ys:List X}:∀{l:List Bx} {b:Bx},getB (updB l i ys) j=some b→(j=i∧∃c,getB l i=some c∧b={ c with xs:=ys })∨(j≠i∧getB l j=some b)
  | [],_,h=>by cases h
  | c::l,b,h=>by
    simp only [updB] at h
    split at h
    · rename_i e
      simp only [getB] at h ⊢;have e':=Nat.eq_of_beq_eq_true e
      split at h
      · rename_i e2
        have e2':c.id=j:=Nat.eq_of_beq_eq_true e2
        cases h
        exact .inl ⟨e2'.symm.trans e',c,by rw [if_pos e],rfl⟩
      · rename_i e2
        refine .inr ⟨fun e3=>e2 ?_,by rw [if_neg e2];exact h⟩
        show Nat.beq c.id j=true
        rw [e3];exact e
    · rename_i e
      simp only [getB] at h ⊢
      split at h
      · rename_i e2
        cases h
        refine .inr ⟨fun e3=>e ?_,by rw [if_pos e2]⟩;rw [←e3];exact e2
      · rename_i e2
        rcases jgl h with ⟨h1,c',h2,h3⟩ | ⟨h1,h2⟩
        · exact .inl ⟨h1,c',by rw [if_neg e];exact h2,h3⟩
        · exact .inr ⟨h1,by rw [if_neg e2];exact h2⟩
theorem jec (g:Nat):∀(ds:List Value) (o:Nat) (w:World),Far g w (w.setCells g o ds)
  | [],o,w=>⟨rfl,rfl,rfl,rfl,fun _ _=>rfl⟩
  | v::r,o,w=>(Far.set w g o v).trans (jec g r (o+1) _)
theorem jed {g:Nat} {t:TypeId}:∀(ds:List Value) (o:Nat) (w:World) (cs:List Value),Blk w g t cs.toArray→o+ds.length≤cs.length→Blk (w.setCells g o ds) g t (cs.take o ++ ds ++ cs.drop (o+ds.length)).toArray
  | [],o,w,cs,h,k=>by simpa [World.setCells] using h
  | v::r,o,w,cs,h,k=>by
    simp only [List.length_cons] at k
    have h1:Blk (w.setCell ⟨g,o,none⟩ v) g t (cs.set o v).toArray:=by
      have:=h.set_ o v
      simpa using this
    have h2:=jed r (o+1) _ (cs.set o v) h1 (by rw [List.length_set];omega)
    have e:(cs.set o v).take (o+1) ++ r ++ (cs.set o v).drop (o+1+r.length)=cs.take o ++ v::r ++ cs.drop (o+(r.length+1)):=by
      rw [List.drop_set,if_pos (by omega),List.take_succ_eq_append_getElem (by rw [List.length_set];omega),List.take_set_of_le (by omega)];simp [Nat.add_comm,Nat.add_left_comm]
    rw [e] at h2;exact h2
theorem jc5 {B g:Nat} {w0:World} (hg:B≤g):∀(ds:List Value) (o:Nat) (w:World),Below B w0 w→Below B w0 (w.setCells g o ds)
  | [],_,_,h=>h
  | v::r,o,w,h=>jc5 hg r (o+1) _ (h.setCell (p:=⟨g,o,none⟩) hg v)
theorem jtl {g:Nat} {t:TypeId} {cs:Array Value} (hf:Far g w w') (hb:Blk w g t cs) (hn:NoU cs):Ext w w':=
  ⟨Nat.le_of_eq hf.size.symm,fun b hb'=>by
    by_cases e:b=g
    · subst e;exact .inr ⟨cs,t,hb,hn⟩
    · exact .inl (hf.block b e)⟩
theorem jm5 {xs ys zs:List X} {off:Nat} {cs ds:List Value} (h:hasL F ρ β w xs cs) (k:hasL F ρ β w ys ds) (e:putX xs ys off=some zs):hasL F ρ β w zs (cs.take off ++ ds ++ cs.drop (off+ds.length))∧off+ds.length≤cs.length:=by
  unfold putX at e
  split at e
  · rename_i l r e1 e2
    cases e
    have hl:=hasL.len k;rw [←hl] at e2;exact ⟨hasL.app (hasL.app (jj1 h e1).1 k) (jgk h e2),jhp h e2⟩
  · cases e
theorem jm6 {t:Nat} {x:A}:∀{l:List (Nat×A)},get l t=some x→(t,x)∈l
  | [],h=>by cases h
  | (i,a)::l,h=>by
    simp only [get] at h
    split at h
    · rename_i e
      cases h
      rw [Nat.eq_of_beq_eq_true e];exact List.mem_cons_self
    · exact List.mem_cons_of_mem _ (jm6 h)
theorem jfk {t:Nat} {x:Bx}:∀{l:List Bx},getB l t=some x→x∈l∧x.id=t
  | [],h=>by cases h
  | b::l,h=>by
    simp only [getB] at h
    split at h
    · rename_i e
      cases h
      exact ⟨List.mem_cons_self,Nat.eq_of_beq_eq_true e⟩
    · obtain ⟨h1,h2⟩:=jfk h
      exact ⟨List.mem_cons_of_mem _ h1,h2⟩
def X.noZ:X→Bool
  | .z _ _ _=>false
  | _=>true
def V1.noZ:V1→Bool
  | .sc x=>x.noZ
  | .ag xs=>xs.all X.noZ
  | .fn _ xs=>xs.all X.noZ
def A.noZ:A→Bool
  | .one a=>a.noZ
  | .tup l=>l.all V1.noZ
  | .und=>true
def St.noZ (st:St):Bool:=st.sl.all (fun p=>p.2.noZ) && st.bx.all (fun b=>b.xs.all X.noZ)
theorem X.noZ_ok {x:X} {cs:List Value} (h:x.noZ=true) (k:x.has F ρ β w cs):x.has F ρ β w' cs:=by
  cases x <;> first | exact k | (cases h;done)
theorem jfl:∀{xs:List X} {cs:List Value},xs.all X.noZ=true→hasL F ρ β w xs cs→hasL F ρ β w' xs cs
  | [],_,_,k=>k
  | _::_,_,h,⟨c,d,h1,h2,h3⟩=>by
    simp only [List.all_cons,Bool.and_eq_true] at h;exact ⟨c,d,h1,X.noZ_ok h.1 h2,jfl h.2 h3⟩
theorem V1.noZ_ok {x:V1} {v:Value} (h:x.noZ=true) (k:x.has F ρ β w v):x.has F ρ β w' v:=by
  cases x with
  | sc x=>exact X.noZ_ok h k
  | ag xs=>obtain ⟨cs,h1,h2⟩:=k;exact ⟨cs,h1,jfl h h2⟩
  | fn f xs=>obtain ⟨cs,h1,h2⟩:=k;exact ⟨cs,h1,jfl h h2⟩
theorem jos:∀{xs:List V1} {vs:List Value},xs.all V1.noZ=true→hasV F ρ β w xs vs→hasV F ρ β w' xs vs
  | [],_,_,k=>k
  | _::_,_,h,⟨c,d,h1,h2,h3⟩=>by
    simp only [List.all_cons,Bool.and_eq_true] at h;exact ⟨c,d,h1,V1.noZ_ok h.1 h2,jos h.2 h3⟩
theorem A.noZ_ok {x:A} {v:Value} (h:x.noZ=true) (k:x.has F ρ β w v):x.has F ρ β w' v:=by
  cases x with
  | one x=>exact V1.noZ_ok h k
  | tup l=>obtain ⟨vs,h1,h2⟩:=k;exact ⟨vs,h1,jos h h2⟩
  | und=>exact k
theorem SH.stored (h:SH F ρ β w0 n st a w) {i off:Nat} {b:Bx} {ys zs:List X} {ds:List Value} (hi:getB st.bx i=some b) (hro:b.ro=false) (hy:hasL F ρ β w ys ds) (hz:putX b.xs ys off=some zs) (hu:((ys ++ b.xs).all X.noU || (st.noZ && zs.all X.noZ))=true) :
    SH F ρ β w0 n { st with bx:=updB st.bx i zs } (a.put none undef) (w.setCells (β i) off ds)∧w.there (β i) off ds.length:=by
  obtain ⟨cs,k1,k2,k3⟩:=h.bx.at_ i b hi;obtain ⟨m1,m2⟩:=jm5 k3 hy hz;have hfar:=jec (β i) ds off w
  have kk:slOK F ρ β (w.setCells (β i) off ds) a st.sl∧(∀j c,getB st.bx j=some c→∀cs',hasL F ρ β w c.xs cs'→hasL F ρ β (w.setCells (β i) off ds) c.xs cs')∧∀cs',hasL F ρ β w zs cs'→hasL F ρ β (w.setCells (β i) off ds) zs cs':=by
    rw [Bool.or_eq_true] at hu
    rcases hu with hu | hu
    · rw [List.all_append,Bool.and_eq_true] at hu
      have hext:=jtl hfar k1 (jtj (jti k3 hu.2));exact ⟨h.sl.ext hext,fun j c _ cs' q=>q.ext hext,fun cs' q=>q.ext hext⟩
    · unfold St.noZ at hu
      rw [Bool.and_eq_true,Bool.and_eq_true] at hu;refine ⟨fun t x hx=>A.noZ_ok (List.all_eq_true.1 hu.1.1 _ (jm6 hx)) (h.sl t x hx),fun j c hj cs' q=>jfl (List.all_eq_true.1 hu.1.2 _ (jfk hj).1) q,fun cs' q=>jfl hu.2 q⟩
  obtain ⟨t1,t2,t3⟩:=kk;refine ⟨⟨t1,⟨?_,?_⟩,?_,h.fs,jc5 (h.base i b hi hro) ds off w h.low,h.df,h.sz,h.lt⟩,fun j hj=>?_⟩
  · intro j c hj
    rcases jgl hj with ⟨rfl,c',g1,rfl⟩ | ⟨hne,g1⟩
    · rw [hi] at g1
      cases g1
      exact ⟨_,jed ds off w cs k1 m2,trivial,t3 _ m1⟩
    · obtain ⟨cs',g2,g3,g4⟩:=h.bx.at_ j c g1
      exact ⟨cs',(hfar.block _ (h.bx.ne j i c b g1 hi hne)).trans g2,g3,t2 j c g1 _ g4⟩
  · intro j j' c c' hj hj' hne
    have get':∀{q:Nat} {e:Bx},getB (updB st.bx i zs) q=some e→∃e',getB st.bx q=some e':=fun hq=>by
      rcases jgl hq with ⟨rfl,c',g1,-⟩ | ⟨-,g1⟩
      · exact ⟨_,g1⟩
      · exact ⟨_,g1⟩
    obtain ⟨e1,g1⟩:=get' hj;obtain ⟨e2,g2⟩:=get' hj';exact h.bx.ne j j' e1 e2 g1 g2 hne
  · intro j c hj hr
    rcases jgl hj with ⟨rfl,c',g1,rfl⟩ | ⟨-,g1⟩
    · exact h.base j c' g1 hr
    · exact h.base j c g1 hr
  · refine ⟨?_,k1.frozen _⟩
    rw [k1.cell];simp only [List.getElem?_toArray];rw [List.getElem?_eq_getElem (by omega)]
    rfl
end
end V
end Go.Proofs.YtllgjggkchgpbaaGreat
