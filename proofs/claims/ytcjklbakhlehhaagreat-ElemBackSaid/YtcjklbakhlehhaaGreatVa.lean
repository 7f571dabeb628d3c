/- V: terms, values, operations, boxes. V: regions, code, functions. -/
import Derived.Test.YtcjklbakhlehhaaGreatWk
import Derived.Deep.MidRow
import Derived.Shelf.Abstract
import Derived.LoopN
set_option linter.unusedVariables false
set_option linter.unusedSimpArgs false
namespace Go.Proofs.YtcjklbakhlehhaaGreat
section
section
open Go.RowKit Go.Shelf
namespace V
inductive T where
  | v (i:Nat)
  | n (z:Int)
  | add (a b:T)
  | sub (a b:T)
  | mul (a b:T)
  | lt (a b:T)
  | le (a b:T)
  | eq (a b:T)
  | not (a:T)
  | and (a b:T)
  | or (a b:T)
  | ite (a b d:T)
  | ap (f:Nat) (l:T)
  | e
  | c (a l:T)
def b2i (b:Bool):Int:=if b then 1 else 0
structure Sym where
  f:Nat→List Int→Int
def T.den2 (F:Nat→List Int→Int) (ρ:Nat→Int):T→Int×List Int
  | .v i=>(ρ i,[])
  | .n z=>(z,[])
  | .add a b=>((a.den2 F ρ).1+(b.den2 F ρ).1,[])
  | .sub a b=>((a.den2 F ρ).1 - (b.den2 F ρ).1,[])
  | .mul a b=>((a.den2 F ρ).1*(b.den2 F ρ).1,[])
  | .lt a b=>(b2i (decide ((a.den2 F ρ).1<(b.den2 F ρ).1)),[])
  | .le a b=>(b2i (decide ((a.den2 F ρ).1≤(b.den2 F ρ).1)),[])
  | .eq a b=>(b2i ((a.den2 F ρ).1 == (b.den2 F ρ).1),[])
  | .not a=>(b2i (!((a.den2 F ρ).1 != 0)),[])
  | .and a b=>(b2i (((a.den2 F ρ).1 != 0) && ((b.den2 F ρ).1 != 0)),[])
  | .or a b=>(b2i (((a.den2 F ρ).1 != 0) || ((b.den2 F ρ).1 != 0)),[])
  | .ite a b d=>(if (a.den2 F ρ).1 != 0 then (b.den2 F ρ).1 else (d.den2 F ρ).1,[])
  | .ap f l=>(F f (l.den2 F ρ).2,[])
  | .e=>(0,[])
  | .c a l=>(0,(a.den2 F ρ).1::(l.den2 F ρ).2)
def T.den (F:Nat→List Int→Int) (ρ:Nat→Int) (t:T):Int:=(t.den2 F ρ).1
def T.denL (F:Nat→List Int→Int) (ρ:Nat→Int) (t:T):List Int:=(t.den2 F ρ).2
def T.bd (F:Nat→List Int→Int) (ρ:Nat→Int) (t:T):Bool:=t.den F ρ != 0
section
variable {F:Nat→List Int→Int} {ρ:Nat→Int}
theorem jc8 {z:Int}:(T.n z).den F ρ=z:=rfl
theorem jea {a b:T}:(T.add a b).den F ρ=a.den F ρ+b.den F ρ:=rfl
theorem jf9 {a b:T}:(T.sub a b).den F ρ=a.den F ρ - b.den F ρ:=rfl
theorem jc2 {a b:T}:(T.mul a b).den F ρ=a.den F ρ*b.den F ρ:=rfl
theorem jc3 {a b d:T}:(T.ite a b d).den F ρ=if a.bd F ρ then b.den F ρ else d.den F ρ:=rfl
theorem jsx {f:Nat} {l:T}:(T.ap f l).den F ρ=F f (l.denL F ρ):=rfl
theorem jsy {a l:T}:(T.c a l).denL F ρ=a.den F ρ::l.denL F ρ:=rfl
theorem jc9 (b:Bool):(b2i b != 0)=b:=by cases b <;> rfl
theorem bd_lt {a b:T}:(T.lt a b).bd F ρ=decide (a.den F ρ<b.den F ρ):=jc9 _
theorem bd_le {a b:T}:(T.le a b).bd F ρ=decide (a.den F ρ≤b.den F ρ):=jc9 _
theorem jc4 {a b:T}:(T.eq a b).bd F ρ=(a.den F ρ == b.den F ρ):=jc9 _
theorem jax {a:T}:(T.not a).bd F ρ=!(a.bd F ρ):=jc9 _
theorem jbp {a b:T}:(T.and a b).bd F ρ=(a.bd F ρ && b.bd F ρ):=jc9 _
theorem jfp {a b:T}:(T.or a b).bd F ρ=(a.bd F ρ || b.bd F ρ):=jc9 _
theorem jbn (b:Bool):0≤b2i b∧b2i b≤1:=by cases b <;> decide
end
def zeq (a b:Int):Bool:=match a,b with
  | .ofNat m,.ofNat n=>Nat.beq m n
  | .negSucc m,.negSucc n=>Nat.beq m n
  | _,_=>false
theorem j2o {a b:Int} (h:zeq a b=true):a=b:=by
  cases a <;> cases b <;> simp [zeq] at h <;> first | (rw [h]) | cases h
def T.same:T→T→Bool
  | .v i,.v j=>Nat.beq i j
  | .n z,.n y=>zeq z y
  | .add a b,.add a' b'=>a.same a' && b.same b'
  | .sub a b,.sub a' b'=>a.same a' && b.same b'
  | .mul a b,.mul a' b'=>a.same a' && b.same b'
  | .lt a b,.lt a' b'=>a.same a' && b.same b'
  | .le a b,.le a' b'=>a.same a' && b.same b'
  | .eq a b,.eq a' b'=>a.same a' && b.same b'
  | .not a,.not a'=>a.same a'
  | .and a b,.and a' b'=>a.same a' && b.same b'
  | .or a b,.or a' b'=>a.same a' && b.same b'
  | .ite a b d,.ite a' b' d'=>a.same a' && b.same b' && d.same d'
  | .ap f l,.ap f' l'=>Nat.beq f f' && l.same l'
  | .e,.e=>true
  | .c a l,.c a' l'=>a.same a' && l.same l'
  | _,_=>false
theorem T.same_eq:∀{a b:T},a.same b=true→a=b
  | .v i,b,h=>by cases b <;> simp [T.same] at h <;> first | (rw [h]) | cases h
  | .n z,b,h=>by cases b <;> simp [T.same] at h <;> first | (rw [j2o h]) | cases h
  | .add a b,d,h=>by cases d <;> simp [T.same] at h <;> first | (rw [T.same_eq h.1,T.same_eq h.2]) | cases h
  | .sub a b,d,h=>by cases d <;> simp [T.same] at h <;> first | (rw [T.same_eq h.1,T.same_eq h.2]) | cases h
  | .mul a b,d,h=>by cases d <;> simp [T.same] at h <;> first | (rw [T.same_eq h.1,T.same_eq h.2]) | cases h
  | .lt a b,d,h=>by cases d <;> simp [T.same] at h <;> first | (rw [T.same_eq h.1,T.same_eq h.2]) | cases h
  | .le a b,d,h=>by cases d <;> simp [T.same] at h <;> first | (rw [T.same_eq h.1,T.same_eq h.2]) | cases h
  | .eq a b,d,h=>by cases d <;> simp [T.same] at h <;> first | (rw [T.same_eq h.1,T.same_eq h.2]) | cases h
  | .not a,d,h=>by cases d <;> simp [T.same] at h <;> first | (rw [T.same_eq h]) | cases h
  | .and a b,d,h=>by cases d <;> simp [T.same] at h <;> first | (rw [T.same_eq h.1,T.same_eq h.2]) | cases h
  | .or a b,d,h=>by cases d <;> simp [T.same] at h <;> first | (rw [T.same_eq h.1,T.same_eq h.2]) | cases h
  | .ite a b d,x,h=>by cases x <;> simp [T.same] at h <;> first | (rw [T.same_eq h.1.1,T.same_eq h.1.2,T.same_eq h.2]) | cases h
  | .ap f l,d,h=>by cases d <;> simp [T.same] at h <;> first | (rw [h.1,T.same_eq h.2]) | cases h
  | .e,d,h=>by cases d <;> simp [T.same] at h <;> first | rfl | cases h
  | .c a l,d,h=>by cases d <;> simp [T.same] at h <;> first | (rw [T.same_eq h.1,T.same_eq h.2]) | cases h
abbrev Iv:=Option Int×Option Int
def inIv (z:Int) (i:Iv):Prop:=(∀l,i.1=some l→l≤z)∧(∀u,i.2=some u→z≤u)
theorem jeb (z:Int):inIv z (none,none):=⟨fun _ h=>(by cases h),fun _ h=>(by cases h)⟩
def omax:Option Int→Option Int→Option Int
  | some a,some b=>some (if a≤b then b else a)
  | some a,none=>some a
  | none,b=>b
def omin:Option Int→Option Int→Option Int
  | some a,some b=>some (if a≤b then a else b)
  | some a,none=>some a
  | none,b=>b
def meet (i j:Iv):Iv:=(omax i.1 j.1,omin i.2 j.2)
theorem jec {z:Int} {i j:Iv} (h:inIv z i) (k:inIv z j):inIv z (meet i j):=by
  obtain ⟨a,b⟩:=i;obtain ⟨a',b'⟩:=j;refine ⟨fun l hl=>?_,fun u hu=>?_⟩
  · have h1:=h.1
    have k1:=k.1
    cases a <;> cases a' <;> simp [meet,omax] at hl h1 k1
    · omega
    · omega
    · split at hl <;> omega
  · have h1:=h.2
    have k1:=k.2
    cases b <;> cases b' <;> simp [meet,omin] at hu h1 k1
    · omega
    · omega
    · split at hu <;> omega
def oadd:Option Int→Option Int→Option Int
  | some a,some b=>some (a+b)
  | _,_=>none
def oneg:Option Int→Option Int
  | some a=>some (-a)
  | none=>none
def ivAdd (i j:Iv):Iv:=(oadd i.1 j.1,oadd i.2 j.2)
def ivNeg (i:Iv):Iv:=(oneg i.2,oneg i.1)
def ivHull (i j:Iv):Iv:=(match i.1,j.1 with | some a,some b=>some (if a≤b then a else b) | _,_=>none,match i.2,j.2 with | some a,some b=>some (if a≤b then b else a) | _,_=>none)
def zmn (a b:Int):Int:=if a≤b then a else b
def zmx (a b:Int):Int:=if a≤b then b else a
theorem jzv {a b a' b' x y:Int} (h1:a≤x) (h2:x≤b) (k1:a'≤y) (k2:y≤b') :
    zmn (zmn (a*a') (a*b')) (zmn (b*a') (b*b'))≤x*y∧x*y≤zmx (zmx (a*a') (a*b')) (zmx (b*a') (b*b')):=by
  have one:∀c:Int,(c*a'≤c*y∧c*y≤c*b')∨(c*b'≤c*y∧c*y≤c*a'):=fun c=>by
    rcases Int.le_total 0 c with h | h
    · exact .inl ⟨Int.mul_le_mul_of_nonneg_left k1 h,Int.mul_le_mul_of_nonneg_left k2 h⟩
    · exact .inr ⟨Int.mul_le_mul_of_nonpos_left h k2,Int.mul_le_mul_of_nonpos_left h k1⟩
  have two:(a*y≤x*y∧x*y≤b*y)∨(b*y≤x*y∧x*y≤a*y):=by
    rcases Int.le_total 0 y with h | h
    · exact .inl ⟨Int.mul_le_mul_of_nonneg_right h1 h,Int.mul_le_mul_of_nonneg_right h2 h⟩
    · exact .inr ⟨Int.mul_le_mul_of_nonpos_right h2 h,Int.mul_le_mul_of_nonpos_right h1 h⟩
  have o1:=one a;have o2:=one b;clear one
  generalize a*a'=p at *
  generalize a*b'=q at *
  generalize b*a'=r at *
  generalize b*b'=s at *
  generalize a*y=u at *
  generalize b*y=v at *
  generalize x*y=m at *
  unfold zmn zmx
  constructor
  · split <;> split <;> split <;> omega
  · split <;> split <;> split <;> omega
def ivMul (i j:Iv):Iv:=match i,j with
  | (some a,b),(some a',b')=>if 0≤a∧0≤a' then (some (a*a'),match b,b' with | some b,some b'=>some (b*b') | _,_=>none)
      else match b,b' with
        | some b,some b'=>if a=b then (if a≤0 then (some (a*b'),some (a*a')) else (some (a*a'),some (a*b'))) else if a'=b' then (if a'≤0 then (some (b*a'),some (a*a')) else (some (a*a'),some (b*a'))) else (some (zmn (zmn (a*a') (a*b')) (zmn (b*a') (b*b'))),some (zmx (zmx (a*a') (a*b')) (zmx (b*a') (b*b'))))
        | _,_=>(none,none)
  | _,_=>(none,none)
theorem joj {x y:Int} {i j:Iv} (h:inIv x i) (k:inIv y j):inIv (x+y) (ivAdd i j):=by
  obtain ⟨a,b⟩:=i;obtain ⟨a',b'⟩:=j;refine ⟨fun l hl=>?_,fun u hu=>?_⟩
  · have h1:=h.1
    have k1:=k.1
    cases a <;> cases a' <;> simp [ivAdd,oadd] at hl h1 k1
    omega
  · have h1:=h.2
    have k1:=k.2
    cases b <;> cases b' <;> simp [ivAdd,oadd] at hu h1 k1
    omega
theorem jvh {x:Int} {i:Iv} (h:inIv x i):inIv (-x) (ivNeg i):=by
  obtain ⟨a,b⟩:=i;refine ⟨fun l hl=>?_,fun u hu=>?_⟩
  · have h1:=h.2
    cases b <;> simp [ivNeg,oneg] at hl h1
    omega
  · have h1:=h.1
    cases a <;> simp [ivNeg,oneg] at hu h1
    omega
theorem jvi {x y:Int} {i j:Iv} (h:inIv x i) (k:inIv y j):inIv (x - y) (ivAdd i (ivNeg j)):=by
  rw [Int.sub_eq_add_neg];exact joj h (jvh k)
theorem jsz {x:Int} {i j:Iv} (h:inIv x i∨inIv x j):inIv x (ivHull i j):=by
  obtain ⟨a,b⟩:=i;obtain ⟨a',b'⟩:=j;refine ⟨fun l hl=>?_,fun u hu=>?_⟩
  · cases a <;> cases a' <;> simp [ivHull] at hl
    rcases h with h | h <;> have h1:=h.1 _ rfl <;> split at hl <;> omega
  · cases b <;> cases b' <;> simp [ivHull] at hu
    rcases h with h | h <;> have h1:=h.2 _ rfl <;> split at hu <;> omega
theorem jvj {x y:Int} {i j:Iv} (h:inIv x i) (k:inIv y j):inIv (x*y) (ivMul i j):=by
  obtain ⟨a,b⟩:=i;obtain ⟨a',b'⟩:=j;unfold ivMul
  split
  · rename_i a0 b0 a1 b1 e1 e2
    cases e1
    cases e2
    have h1:=h.1 _ rfl;have k1:=k.1 _ rfl
    split
    · rename_i hp
      refine ⟨fun l hl=>?_,fun u hu=>?_⟩
      · cases hl
        exact Int.mul_le_mul h1 k1 hp.2 (by omega)
      · dsimp only at hu
        split at hu
        · rename_i b2 b3 e3 e4
          cases hu
          exact Int.mul_le_mul (h.2 _ rfl) (k.2 _ rfl) (by omega) (Int.le_trans hp.1 (Int.le_trans h1 (h.2 _ rfl)))
        · cases hu
    · split
      · rename_i b2 b3 
        have h2:=h.2 _ rfl;have k2:=k.2 _ rfl
        split
        · rename_i e5
          subst e5;obtain rfl:x=a0:=by omega
          split
          · rename_i e6
            refine ⟨fun l hl=>?_,fun u hu=>?_⟩
            · cases hl
              exact Int.mul_le_mul_of_nonpos_left e6 k2
            · cases hu
              exact Int.mul_le_mul_of_nonpos_left e6 k1
          · refine ⟨fun l hl=>?_,fun u hu=>?_⟩
            · cases hl
              exact Int.mul_le_mul_of_nonneg_left k1 (by omega)
            · cases hu
              exact Int.mul_le_mul_of_nonneg_left k2 (by omega)
        · split
          · rename_i e5
            subst e5;obtain rfl:y=a1:=by omega
            split
            · rename_i e6
              refine ⟨fun l hl=>?_,fun u hu=>?_⟩
              · cases hl
                exact Int.mul_le_mul_of_nonpos_right h2 e6
              · cases hu
                exact Int.mul_le_mul_of_nonpos_right h1 e6
            · refine ⟨fun l hl=>?_,fun u hu=>?_⟩
              · cases hl
                exact Int.mul_le_mul_of_nonneg_right h1 (by omega)
              · cases hu
                exact Int.mul_le_mul_of_nonneg_right h2 (by omega)
          · have hb:=jzv h1 h2 k1 k2
            exact ⟨fun l hl=>by cases hl;exact hb.1,fun u hu=>by cases hu;exact hb.2⟩
      · exact jeb _
  · exact jeb _
def ivOf (t:T):T→Iv
  | .le (.n z) s=>if s.same t then (some z,none) else (none,none)
  | .le s (.n z)=>if s.same t then (none,some z) else (none,none)
  | .lt (.n z) s=>if s.same t then (some (z+1),none) else (none,none)
  | .lt s (.n z)=>if s.same t then (none,some (z - 1)) else (none,none)
  | .eq s (.n z)=>if s.same t then (some z,some z) else (none,none)
  | .not (.le (.n z) s)=>if s.same t then (none,some (z - 1)) else (none,none)
  | .not (.le s (.n z))=>if s.same t then (some (z+1),none) else (none,none)
  | .not (.lt (.n z) s)=>if s.same t then (none,some z) else (none,none)
  | .not (.lt s (.n z))=>if s.same t then (some z,none) else (none,none)
  | _=>(none,none)
def ivFacts (t:T):List T→Iv
  | []=>(none,none)
  | f::fs=>meet (ivOf t f) (ivFacts t fs)
def allT (F:Nat→List Int→Int) (ρ:Nat→Int):List T→Prop
  | []=>True
  | f::fs=>f.bd F ρ=true∧allT F ρ fs
theorem jzw {F:Nat→List Int→Int} {ρ:Nat→Int} {t f:T} (h:f.bd F ρ=true):inIv (t.den F ρ) (ivOf t f):=by
  have lo:∀{z l:Int} {s:T},s.same t=true→z≤s.den F ρ→some z=some l→l≤t.den F ρ:=fun hs hz hl=>by
    cases hl;rw [←T.same_eq hs];exact hz
  have up:∀{z l:Int} {s:T},s.same t=true→s.den F ρ≤z→some z=some l→t.den F ρ≤l:=fun hs hz hl=>by
    cases hl;rw [←T.same_eq hs];exact hz
  unfold ivOf
  split
  all_goals first | exact jeb _ | skip
  all_goals (split;rotate_left;exact jeb _)
  all_goals rename_i hs
  · exact ⟨fun l hl=>lo hs (of_decide_eq_true (bd_le.symm.trans h)) hl,fun u hu=>(by cases hu)⟩
  · exact ⟨fun l hl=>(by cases hl),fun u hu=>up hs (of_decide_eq_true (bd_le.symm.trans h)) hu⟩
  · exact ⟨fun l hl=>lo hs (Int.add_one_le_of_lt (of_decide_eq_true (bd_lt.symm.trans h))) hl,fun u hu=>(by cases hu)⟩
  · exact ⟨fun l hl=>(by cases hl),fun u hu=>up hs (Int.le_sub_one_of_lt (of_decide_eq_true (bd_lt.symm.trans h))) hu⟩
  · have e:=beq_iff_eq.1 ((jc4 (F:=F) (ρ:=ρ)).symm.trans h)
    exact ⟨fun l hl=>lo hs (Int.le_of_eq e.symm) hl,fun u hu=>up hs (Int.le_of_eq e) hu⟩
  · rw [jax,Bool.not_eq_true',bd_le] at h
    exact ⟨fun l hl=>(by cases hl),fun u hu=>up hs (Int.le_sub_one_of_lt (Int.not_le.1 (of_decide_eq_false h))) hu⟩
  · rw [jax,Bool.not_eq_true',bd_le] at h
    exact ⟨fun l hl=>lo hs (Int.add_one_le_of_lt (Int.not_le.1 (of_decide_eq_false h))) hl,fun u hu=>(by cases hu)⟩
  · rw [jax,Bool.not_eq_true',bd_lt] at h
    exact ⟨fun l hl=>(by cases hl),fun u hu=>up hs (Int.not_lt.1 (of_decide_eq_false h)) hu⟩
  · rw [jax,Bool.not_eq_true',bd_lt] at h
    exact ⟨fun l hl=>lo hs (Int.not_lt.1 (of_decide_eq_false h)) hl,fun u hu=>(by cases hu)⟩
theorem jbu {F:Nat→List Int→Int} {ρ:Nat→Int} {t:T}:∀{fs:List T},allT F ρ fs→inIv (t.den F ρ) (ivFacts t fs)
  | [],_=>jeb _
  | _::_,h=>jec (jzw h.1) (jbu h.2)
def hasT (t:T):List T→Bool
  | []=>false
  | f::fs=>f.same t || hasT t fs
theorem jb8 {F:Nat→List Int→Int} {ρ:Nat→Int} {t:T}:∀{fs:List T},allT F ρ fs→hasT t fs=true→t.bd F ρ=true
  | [],_,k=>by cases k
  | f::fs,h,k=>by
    simp only [hasT,Bool.or_eq_true] at k
    rcases k with k | k
    · rw [←T.same_eq k];exact h.1
    · exact jb8 h.2 k
def neB (t:T) (fs:List T) (i:Iv):Iv:=match i.1 with
  | some l=>if hasT (.not (.eq t (.n l))) fs then (some (l+1),i.2) else i
  | none=>i
theorem jok {F:Nat→List Int→Int} {ρ:Nat→Int} {fs:List T} (h:allT F ρ fs) {t:T} {i:Iv} (k:inIv (t.den F ρ) i):inIv (t.den F ρ) (neB t fs i):=by
  unfold neB
  split
  · rename_i l e
    split
    · rename_i hh
      have h1:=jb8 h hh;rw [jax,jc4] at h1
      have h2:t.den F ρ≠l:=fun e'=>by
        rw [show (T.n l).den F ρ=l from rfl,e'] at h1;simp at h1
      have h3:=k.1 _ e;exact ⟨fun l' hl=>by cases hl;omega,k.2⟩
    · exact k
  · exact k
def iv (fs:List T):T→Iv
  | .n z=>(some z,some z)
  | .add a b=>meet (ivAdd (iv fs a) (iv fs b)) (ivFacts (.add a b) fs)
  | .sub a b=>meet (ivAdd (iv fs a) (ivNeg (iv fs b))) (ivFacts (.sub a b) fs)
  | .mul a b=>meet (ivMul (iv fs a) (iv fs b)) (ivFacts (.mul a b) fs)
  | .ite a b d=>meet (ivHull (iv fs b) (iv fs d)) (ivFacts (.ite a b d) fs)
  | .lt _ _ | .le _ _ | .eq _ _ | .not _ | .and _ _ | .or _ _=>(some 0,some 1)
  | t=>neB t fs (ivFacts t fs)
theorem jdq {F:Nat→List Int→Int} {ρ:Nat→Int} {fs:List T} (h:allT F ρ fs):∀(t:T),inIv (t.den F ρ) (iv fs t)
  | .n z=>⟨fun _ h=>(by cases h;exact Int.le_refl _),fun _ h=>(by cases h;exact Int.le_refl _)⟩
  | .add a b=>jec (joj (jdq h a) (jdq h b)) (jbu h)
  | .sub a b=>jec (jvi (jdq h a) (jdq h b)) (jbu h)
  | .mul a b=>jec (jvj (jdq h a) (jdq h b)) (jbu h)
  | .ite a b d=>by
    refine jec (jsz ?_) (jbu h);rw [jc3]
    split
    · exact .inl (jdq h b)
    · exact .inr (jdq h d)
  | .lt a b=>⟨fun _ h=>(by cases h;exact (jbn _).1),fun _ h=>(by cases h;exact (jbn _).2)⟩
  | .le a b=>⟨fun _ h=>(by cases h;exact (jbn _).1),fun _ h=>(by cases h;exact (jbn _).2)⟩
  | .eq a b=>⟨fun _ h=>(by cases h;exact (jbn _).1),fun _ h=>(by cases h;exact (jbn _).2)⟩
  | .not a=>⟨fun _ h=>(by cases h;exact (jbn _).1),fun _ h=>(by cases h;exact (jbn _).2)⟩
  | .and a b=>⟨fun _ h=>(by cases h;exact (jbn _).1),fun _ h=>(by cases h;exact (jbn _).2)⟩
  | .or a b=>⟨fun _ h=>(by cases h;exact (jbn _).1),fun _ h=>(by cases h;exact (jbn _).2)⟩
  | .v _=>jok h (jbu h)
  | .ap _ _=>jok h (jbu h)
  | .e=>jok h (jbu h)
  | .c _ _=>jok h (jbu h)
def within (fs:List T) (t:T) (lo hi:Int):Bool:=match iv fs t with
  | (some a,some b)=>decide (lo≤a) && decide (b≤hi)
  | _=>false
theorem js0 {F:Nat→List Int→Int} {ρ:Nat→Int} {fs:List T} (h:allT F ρ fs) {t:T} {lo hi:Int} (k:within fs t lo hi=true):lo≤t.den F ρ∧t.den F ρ≤hi:=by
  have hi':=jdq h t;unfold within at k
  split at k
  · rename_i a b e
    rw [e] at hi';have h1:=hi'.1 _ rfl;have h2:=hi'.2 _ rfl;simp at k
    omega
  · cases k
def olt:Option Int→Option Int→Bool
  | some u,some l=>decide (u<l)
  | _,_=>false
def ole:Option Int→Option Int→Bool
  | some u,some l=>decide (u≤l)
  | _,_=>false
theorem j2p {x y:Option Int} (h:olt x y=true):∃u l,x=some u∧y=some l∧u<l:=by
  cases x <;> cases y <;> simp [olt] at h
  exact ⟨_,_,rfl,rfl,h⟩
theorem j2q {x y:Option Int} (h:ole x y=true):∃u l,x=some u∧y=some l∧u≤l:=by
  cases x <;> cases y <;> simp [ole] at h
  exact ⟨_,_,rfl,rfl,h⟩
def ltIv (fs:List T) (a b:T):Option Bool:=
  bif olt (iv fs a).2 (iv fs b).1 then some true else bif ole (iv fs b).2 (iv fs a).1 then some false else none
theorem jga {F:Nat→List Int→Int} {ρ:Nat→Int} {fs:List T} (h:allT F ρ fs) {a b:T} {r:Bool} (k:ltIv fs a b=some r):decide (a.den F ρ<b.den F ρ)=r:=by
  have ha:=jdq h a;have hb:=jdq h b;unfold ltIv at k
  cases h1:olt (iv fs a).2 (iv fs b).1 with
  | true=>
    rw [h1] at k
    cases k
    obtain ⟨u,l,e1,e2,e3⟩:=j2p h1;have:=ha.2 _ e1;have:=hb.1 _ e2;exact decide_eq_true (by omega)
  | false=>
    rw [h1] at k
    cases h2:ole (iv fs b).2 (iv fs a).1 with
    | true=>
      rw [h2] at k
      cases k
      obtain ⟨u,l,e1,e2,e3⟩:=j2q h2;have:=hb.2 _ e1;have:=ha.1 _ e2;exact decide_eq_false (by omega)
    | false=>rw [h2] at k;cases k
def known (fs:List T):T→Option Bool
  | .n z=>some (z != 0)
  | .not a=>(known fs a).map (!·)
  | .and a b=>match known fs a,known fs b with
    | some false,_=>some false
    | _,some false=>some false
    | some true,some true=>some true
    | _,_=>if hasT (.and a b) fs then some true else if hasT (.not (.and a b)) fs then some false else none
  | .or a b=>match known fs a,known fs b with
    | some true,_=>some true
    | _,some true=>some true
    | some false,some false=>some false
    | _,_=>if hasT (.or a b) fs then some true else if hasT (.not (.or a b)) fs then some false else none
  | .lt a b=>match ltIv fs a b with
    | some r=>some r
    | none=>if a.same b then some false else if hasT (.lt a b) fs then some true else if hasT (.not (.lt a b)) fs || hasT (.le b a) fs || hasT (.eq a b) fs then some false else none
  | .le a b=>match ltIv fs b a with
    | some r=>some (!r)
    | none=>if a.same b then some true else if hasT (.le a b) fs || hasT (.lt a b) fs || hasT (.eq a b) fs then some true else if hasT (.not (.le a b)) fs || hasT (.lt b a) fs then some false else none
  | .eq a b=>if a.same b || hasT (.eq a b) fs || hasT (.eq b a) fs then some true
    else if ltIv fs a b == some true || ltIv fs b a == some true || hasT (.not (.eq a b)) fs || hasT (.lt a b) fs || hasT (.lt b a) fs then some false
    else if ltIv fs a b == some false && ltIv fs b a == some false then some true else none
  | t=>if hasT t fs then some true else if hasT (.not t) fs then some false else none
theorem jby {F:Nat→List Int→Int} {ρ:Nat→Int} {fs:List T} (h:allT F ρ fs) {t:T} {r:Bool} (k:(if hasT t fs then some true else if hasT (.not t) fs then some false else none)=some r):t.bd F ρ=r:=by
  split at k
  · rename_i hh
    cases k
    exact jb8 h hh
  · split at k
    · rename_i hh
      cases k
      have:=jb8 h hh;rw [jax] at this
      simpa using this
    · cases k
theorem jbb {F:Nat→List Int→Int} {ρ:Nat→Int} {fs:List T} (h:allT F ρ fs):∀(t:T) (r:Bool),known fs t=some r→t.bd F ρ=r
  | .n z,r,k=>by cases k;rfl
  | .not a,r,k=>by
    simp only [known] at k
    cases ha:known fs a with
    | none=>rw [ha] at k;cases k
    | some b=>
      rw [ha] at k
      cases k
      rw [jax,jbb h a b ha]
  | .and a b,r,k=>by
    simp only [known] at k
    split at k
    · rename_i e;cases k;rw [jbp,jbb h a _ e];rfl
    · rename_i _ e;cases k;rw [jbp,jbb h b false (by assumption),Bool.and_false]
    · rename_i e e';cases k;rw [jbp,jbb h a _ e,jbb h b _ e'];rfl
    · exact jby h k
  | .or a b,r,k=>by
    simp only [known] at k
    split at k
    · rename_i e;cases k;rw [jfp,jbb h a _ e];rfl
    · rename_i _ e;cases k;rw [jfp,jbb h b true (by assumption),Bool.or_true]
    · rename_i e e';cases k;rw [jfp,jbb h a _ e,jbb h b _ e'];rfl
    · exact jby h k
  | .lt a b,r,k=>by
    simp only [known] at k;rw [bd_lt]
    split at k
    · rename_i e;cases k;exact jga h e
    · split at k
      · rename_i e;cases k;rw [T.same_eq e];exact decide_eq_false (by omega)
      · split at k
        · rename_i e;cases k;rw [←bd_lt];exact jb8 h e
        · split at k
          · rename_i e
            cases k
            simp only [Bool.or_eq_true] at e;refine decide_eq_false ?_
            rcases e with (e | e) | e <;> have:=jb8 h e
            · rw [jax,bd_lt] at this;simpa using this
            · rw [bd_le,decide_eq_true_eq] at this;omega
            · rw [jc4,beq_iff_eq] at this;omega
          · cases k
  | .le a b,r,k=>by
    simp only [known] at k;rw [bd_le]
    split at k
    · rename_i x e
      cases k
      have:=jga h e
      cases x
      · have:=of_decide_eq_false this;exact decide_eq_true (by omega)
      · have:=of_decide_eq_true this;exact decide_eq_false (by omega)
    · split at k
      · rename_i e;cases k;rw [T.same_eq e];exact decide_eq_true (by omega)
      · split at k
        · rename_i e
          cases k
          simp only [Bool.or_eq_true] at e;refine decide_eq_true ?_
          rcases e with (e | e) | e <;> have:=jb8 h e
          · rw [bd_le,decide_eq_true_eq] at this;omega
          · rw [bd_lt,decide_eq_true_eq] at this;omega
          · rw [jc4,beq_iff_eq] at this;omega
        · split at k
          · rename_i e
            cases k
            simp only [Bool.or_eq_true] at e;refine decide_eq_false ?_
            rcases e with e | e <;> have:=jb8 h e
            · rw [jax,bd_le] at this;simpa using this
            · rw [bd_lt,decide_eq_true_eq] at this;omega
          · cases k
  | .eq a b,r,k=>by
    simp only [known] at k;rw [jc4]
    split at k
    · rename_i e
      cases k
      simp only [Bool.or_eq_true] at e;rw [beq_iff_eq]
      rcases e with (e | e) | e
      · rw [T.same_eq e]
      · have:=jb8 h e;rw [jc4,beq_iff_eq] at this;exact this
      · have:=jb8 h e;rw [jc4,beq_iff_eq] at this;exact this.symm
    · split at k
      · rename_i e
        cases k
        simp only [Bool.or_eq_true,beq_iff_eq] at e;rw [beq_eq_false_iff_ne]
        rcases e with (((e | e) | e) | e) | e
        · have:=of_decide_eq_true (jga h e);omega
        · have:=of_decide_eq_true (jga h e);omega
        · have:=jb8 h e;rw [jax,jc4] at this;simpa using this
        · have:=jb8 h e;rw [bd_lt,decide_eq_true_eq] at this;omega
        · have:=jb8 h e;rw [bd_lt,decide_eq_true_eq] at this;omega
      · split at k
        · rename_i e
          cases k
          simp only [Bool.and_eq_true,beq_iff_eq] at e;have h1:=of_decide_eq_false (jga h e.1);have h2:=of_decide_eq_false (jga h e.2);rw [beq_iff_eq];omega
        · cases k
  | .v _,r,k=>jby h k
  | .add _ _,r,k=>jby h k
  | .sub _ _,r,k=>jby h k
  | .mul _ _,r,k=>jby h k
  | .ite _ _ _,r,k=>jby h k
  | .ap _ _,r,k=>jby h k
  | .e,r,k=>jby h k
  | .c _ _,r,k=>jby h k
def addA (c:Int) (t:T):List (Int×T)→List (Int×T)
  | []=>[(c,t)]
  | (d,s)::l=>if t.same s then (d+c,s)::l else (d,s)::addA c t l
def linA:Int→T→List (Int×T)×Int→List (Int×T)×Int
  | c,.add a b,p=>linA c b (linA c a p)
  | c,.sub a b,p=>linA (-c) b (linA c a p)
  | c,.n z,p=>(p.1,p.2+c*z)
  | c,.mul a b,p=>match a,b with
    | .n z,b=>linA (c*z) b p
    | a,.n z=>linA (c*z) a p
    | a,b=>(addA c (.mul a b) p.1,p.2)
  | c,t,p=>(addA c t p.1,p.2)
def zeroC:List (Int×T)→Bool
  | []=>true
  | (c,_)::l=>c == 0 && zeroC l
def takeF (p:List (Int×T)×Int):T→List (Int×T)×Int
  | .le a b=>linA (-1) b (linA 1 a p)
  | .lt a b=>linA 1 (.n 1) (linA (-1) b (linA 1 a p))
  | .not (.le a b)=>linA 1 (.n 1) (linA (-1) a (linA 1 b p))
  | .not (.lt a b)=>linA (-1) a (linA 1 b p)
  | .eq a b=>linA (-1) b (linA 1 a p)
  | _=>p
def okC (p:List (Int×T)×Int):Bool:=zeroC p.1 && decide (0≤p.2)
def pos2 (fs:List T) (p:List (Int×T)×Int):Bool:=okC p || fs.any (fun f=>okC (takeF p f)) || fs.any (fun f=>fs.any (fun h=>okC (takeF (takeF p f) h)))
def consF:T→List (List (Int×T)×Int)
  | .le a b=>[linA (-1) a (linA 1 b ([],0))]
  | .lt a b=>[linA (-1) (.n 1) (linA (-1) a (linA 1 b ([],0)))]
  | .not (.le a b)=>[linA (-1) (.n 1) (linA (-1) b (linA 1 a ([],0)))]
  | .not (.lt a b)=>[linA (-1) b (linA 1 a ([],0))]
  | .eq a b=>[linA (-1) a (linA 1 b ([],0)),linA (-1) b (linA 1 a ([],0))]
  | _=>[]
def firstA:List (Int×T)→Option (Int×T)
  | []=>none
  | (c,t)::l=>if c=0 then firstA l else some (c,t)
def coefA (t:T):List (Int×T)→Int
  | []=>0
  | (d,s)::l=>if t.same s then d else coefA t l
def scaleA (k:Int):List (Int×T)→List (Int×T)
  | []=>[]
  | (c,t)::l=>(k*c,t)::scaleA k l
def plusA (k:Int):List (Int×T)→List (Int×T)→List (Int×T)
  | [],l=>l
  | (c,t)::r,l=>plusA k r (addA (k*c) t l)
def dfs (fs:List T) (qs:List (List (Int×T)×Int)):Nat→Int→List (Int×T)×Int→Bool
  | n,m,p=>match firstA p.1 with
    | none=>decide (-m<p.2)
    | some (c,t)=>match n with
      | 0=>false
      | n+1=>(match (if 0<c then (iv fs t).1 else (iv fs t).2) with
        | some b=>dfs fs qs n m (addA (-c) t p.1,p.2+c*b)
        | none=>false) || qs.any (fun q=>if 0<c*coefA t q.1 then dfs fs qs n ((coefA t q.1).natAbs*m) (plusA (-c.natAbs) q.1 (scaleA (coefA t q.1).natAbs p.1),(coefA t q.1).natAbs*p.2 - c.natAbs*q.2) else false)
def posF (fs:List T) (p:List (Int×T)×Int):Bool:=pos2 fs p || dfs fs (fs.flatMap consF) 3 1 p
def knownL (fs:List T):T→Bool
  | .le a b=>posF fs (linA (-1) a (linA 1 b ([],0)))
  | .lt a b=>posF fs (linA (-1) (.n 1) (linA (-1) a (linA 1 b ([],0))))
  | _=>false
section
variable {F:Nat→List Int→Int} {ρ:Nat→Int}
def linS (F:Nat→List Int→Int) (ρ:Nat→Int):List (Int×T)→Int
  | []=>0
  | (c,t)::l=>c*t.den F ρ+linS F ρ l
def linD (F:Nat→List Int→Int) (ρ:Nat→Int) (p:List (Int×T)×Int):Int:=linS F ρ p.1+p.2
theorem jb2 {c:Int} {t:T}:∀{l:List (Int×T)},linS F ρ (addA c t l)=linS F ρ l+c*t.den F ρ
  | []=>by simp [addA,linS]
  | (d,s)::l=>by
    simp only [addA]
    split
    · rename_i e
      rw [T.same_eq e];simp only [linS];rw [Int.add_mul]
      omega
    · simp only [linS,jb2 (l:=l)]
      omega
theorem jaq:∀(t:T) (c:Int) (p:List (Int×T)×Int),linD F ρ (linA c t p)=linD F ρ p+c*t.den F ρ
  | .add a b,c,p=>by
    rw [linA,jaq b,jaq a,jea,Int.mul_add]
    omega
  | .sub a b,c,p=>by
    rw [linA,jaq b,jaq a,jf9,Int.mul_sub,Int.neg_mul]
    omega
  | .n z,c,p=>by
    simp only [linA,linD,jc8]
    omega
  | .mul a b,c,p=>by
    unfold linA
    split
    · rename_i z
      rw [jaq b,jc2,jc8,Int.mul_assoc]
    · rename_i z _
      rw [jaq a,jc2,jc8,Int.mul_assoc,Int.mul_comm z]
    · simp only [linD,jb2];omega
  | .v i,c,p=>by simp only [linA,linD,jb2];omega
  | .lt a b,c,p=>by simp only [linA,linD,jb2];omega
  | .le a b,c,p=>by simp only [linA,linD,jb2];omega
  | .eq a b,c,p=>by simp only [linA,linD,jb2];omega
  | .not a,c,p=>by simp only [linA,linD,jb2];omega
  | .and a b,c,p=>by simp only [linA,linD,jb2];omega
  | .or a b,c,p=>by simp only [linA,linD,jb2];omega
  | .ite a b d,c,p=>by simp only [linA,linD,jb2];omega
  | .ap f l,c,p=>by simp only [linA,linD,jb2];omega
  | .e,c,p=>by simp only [linA,linD,jb2];omega
  | .c a l,c,p=>by simp only [linA,linD,jb2];omega
theorem jol:∀{l:List (Int×T)},zeroC l=true→linS F ρ l=0
  | [],_=>rfl
  | (c,t)::l,h=>by
    simp only [zeroC,Bool.and_eq_true,beq_iff_eq] at h;simp only [linS,h.1,Int.zero_mul,jol h.2]
    rfl
theorem js1 {p:List (Int×T)×Int} (h:okC p=true):0≤linD F ρ p:=by
  unfold okC at h;rw [Bool.and_eq_true,decide_eq_true_eq] at h;unfold linD;rw [jol h.1]
  omega
theorem jj2 {p:List (Int×T)×Int} {f:T} (hf:f.bd F ρ=true):linD F ρ (takeF p f)≤linD F ρ p:=by
  unfold takeF
  split
  · rename_i a b
    rw [bd_le,decide_eq_true_eq] at hf;rw [jaq,jaq]
    omega
  · rename_i a b
    rw [bd_lt,decide_eq_true_eq] at hf;rw [jaq,jaq,jaq,jc8]
    omega
  · rename_i a b
    rw [jax,bd_le,Bool.not_eq_true',decide_eq_false_iff_not] at hf;rw [jaq,jaq,jaq,jc8]
    omega
  · rename_i a b
    rw [jax,bd_lt,Bool.not_eq_true',decide_eq_false_iff_not] at hf;rw [jaq,jaq]
    omega
  · rename_i a b
    rw [jc4,beq_iff_eq] at hf;rw [jaq,jaq]
    omega
  · exact Int.le_refl _
theorem jdr:∀{fs:List T},allT F ρ fs→∀f∈fs,f.bd F ρ=true
  | [],_,_,h=>by cases h
  | x::l,hf,f,h=>by
    rcases List.mem_cons.1 h with rfl | h
    · exact hf.1
    · exact jdr hf.2 f h
theorem jzx {fs:List T} (hf:allT F ρ fs) {p:List (Int×T)×Int} (h:pos2 fs p=true):0≤linD F ρ p:=by
  unfold pos2 at h;simp only [Bool.or_eq_true] at h
  rcases h with (h | h) | h
  · exact js1 h
  · obtain ⟨f,hm,hk⟩:=List.any_eq_true.1 h
    exact Int.le_trans (js1 hk) (jj2 (jdr hf f hm))
  · obtain ⟨f,hm,hk⟩:=List.any_eq_true.1 h
    obtain ⟨f',hm',hk'⟩:=List.any_eq_true.1 hk;exact Int.le_trans (Int.le_trans (js1 hk') (jj2 (jdr hf f' hm'))) (jj2 (jdr hf f hm))
theorem jvk {f:T} (hf:f.bd F ρ=true):∀q∈consF f,0≤linD F ρ q:=by
  intro q hq;have z:linD F ρ ([],0)=0:=rfl;unfold consF at hq
  split at hq
  · rename_i a b
    rw [bd_le,decide_eq_true_eq] at hf;rw [List.mem_singleton] at hq;rw [hq,jaq,jaq,z]
    omega
  · rename_i a b
    rw [bd_lt,decide_eq_true_eq] at hf;rw [List.mem_singleton] at hq;rw [hq,jaq,jaq,jaq,jc8,z]
    omega
  · rename_i a b
    rw [jax,bd_le,Bool.not_eq_true',decide_eq_false_iff_not] at hf;rw [List.mem_singleton] at hq;rw [hq,jaq,jaq,jaq,jc8,z]
    omega
  · rename_i a b
    rw [jax,bd_lt,Bool.not_eq_true',decide_eq_false_iff_not] at hf;rw [List.mem_singleton] at hq;rw [hq,jaq,jaq,z]
    omega
  · rename_i a b
    rw [jc4,beq_iff_eq] at hf;simp only [List.mem_cons,List.not_mem_nil,or_false] at hq
    rcases hq with rfl | rfl <;> rw [jaq,jaq,z] <;> omega
  · cases hq
theorem jhy:∀{l:List (Int×T)},firstA l=none→linS F ρ l=0
  | [],_=>rfl
  | (c,t)::l,h=>by
    simp only [firstA] at h
    split at h
    · rename_i e
      simp only [linS,e,Int.zero_mul,jhy h]
      rfl
    · cases h
theorem jll (k:Int):∀{l:List (Int×T)},linS F ρ (scaleA k l)=k*linS F ρ l
  | []=>by simp [scaleA,linS]
  | (c,t)::l=>by simp only [scaleA,linS,jll k (l:=l),Int.mul_add,Int.mul_assoc]
theorem jom (k:Int):∀{r l:List (Int×T)},linS F ρ (plusA k r l)=linS F ρ l+k*linS F ρ r
  | [],l=>by simp [plusA,linS]
  | (c,t)::r,l=>by
    rw [plusA,jom k (r:=r),jb2];simp only [linS];rw [Int.mul_add,Int.mul_assoc]
    omega
theorem j2r {fs:List T} (hf:allT F ρ fs) {qs:List (List (Int×T)×Int)} (hq:∀q∈qs,0≤linD F ρ q) {g:Int}:∀(n:Nat) (m:Int) (p:List (Int×T)×Int),0<m→linD F ρ p≤m*g→dfs fs qs n m p=true→0≤g:=by
  have fin:∀(m:Int) (p:List (Int×T)×Int),0<m→linD F ρ p≤m*g→firstA p.1=none→-m<p.2→0≤g:=fun m p hm hp h1 h2=>by
    unfold linD at hp;rw [jhy h1] at hp
    by_cases hg:0≤g
    · exact hg
    · exfalso
      have h3:m*g≤m*(-1):=Int.mul_le_mul_of_nonneg_left (by omega) (Int.le_of_lt hm);rw [Int.mul_neg,Int.mul_one] at h3
      omega
  intro n
  induction n with
  | zero=>
    intro m p hm hp h;unfold dfs at h
    split at h
    · rename_i h1
      exact fin m p hm hp h1 (of_decide_eq_true h)
    · cases h
  | succ n ih=>
    intro m p hm hp h;unfold dfs at h
    split at h
    · rename_i h1
      exact fin m p hm hp h1 (of_decide_eq_true h)
    · rename_i c t h1
      dsimp only at h
      rw [Bool.or_eq_true] at h
      rcases h with h | h
      · split at h
        · rename_i b hb
          refine ih m _ hm ?_ h;have hi:=jdq hf t;unfold linD at hp ⊢
          dsimp only
          rw [jb2,Int.neg_mul]
          split at hb
          · rename_i hc
            have h2:=hi.1 b hb;have h3:c*b≤c*t.den F ρ:=Int.mul_le_mul_of_nonneg_left h2 (Int.le_of_lt hc)
            omega
          · rename_i hc
            have h2:=hi.2 b hb;have h3:c*b≤c*t.den F ρ:=Int.mul_le_mul_of_nonpos_left (by omega) h2
            omega
        · cases h
      · obtain ⟨q,hm1,h2⟩:=List.any_eq_true.1 h
        split at h2
        · rename_i hcd
          generalize hd:coefA t q.1=d at h2 hcd
          have hd0:0<(d.natAbs:Int):=by
            have:d≠0:=fun e=>by rw [e,Int.mul_zero] at hcd;omega
            omega
          refine ih _ _ (Int.mul_pos hd0 hm) ?_ h2;have h3:=hq q hm1;have h4:(d.natAbs:Int)*linD F ρ p≤d.natAbs*(m*g):=Int.mul_le_mul_of_nonneg_left hp (Int.le_of_lt hd0);have h5:0≤(c.natAbs:Int)*linD F ρ q:=Int.mul_nonneg (Int.natCast_nonneg _) h3;unfold linD at h4 h5 ⊢
          dsimp only
          rw [jom,jll,Int.mul_assoc,Int.neg_mul];rw [Int.mul_add] at h4 h5
          omega
        · cases h2
theorem js2 {fs:List T} (hf:allT F ρ fs) {p:List (Int×T)×Int} (h:posF fs p=true):0≤linD F ρ p:=by
  unfold posF at h;rw [Bool.or_eq_true] at h
  rcases h with h | h
  · exact jzx hf h
  · refine j2r hf (qs:=fs.flatMap consF) (fun q hq=>?_) 3 1 p (by decide) (by rw [Int.one_mul];exact Int.le_refl _) h
    obtain ⟨f,h1,h2⟩:=List.mem_flatMap.1 hq;exact jvk (jdr hf f h1) q h2
theorem jb9 {fs:List T} (hf:allT F ρ fs) {t:T} (h:knownL fs t=true):t.bd F ρ=true:=by
  unfold knownL at h
  split at h
  · have:=js2 hf h
    rw [jaq,jaq] at this;simp only [linD,linS] at this;rw [bd_le,decide_eq_true_eq]
    omega
  · have:=js2 hf h
    rw [jaq,jaq,jaq,jc8] at this;simp only [linD,linS] at this;rw [bd_lt,decide_eq_true_eq]
    omega
  · cases h
end
def knownN (fs:List T) (t:T):Option Bool:=match knownL fs t with
  | true=>some true
  | false=>match t with
    | .le a b=>match knownL fs (.lt b a) with
      | true=>some false
      | false=>none
    | .lt a b=>match knownL fs (.le b a) with
      | true=>some false
      | false=>none
    | .eq a b=>match knownL fs (.lt a b) || knownL fs (.lt b a) with
      | true=>some false
      | false=>match knownL fs (.le a b) && knownL fs (.le b a) with
        | true=>some true
        | false=>none
    | _=>none
def known1 (fs:List T):T→Option Bool
  | .not a=>(known1 fs a).map (!·)
  | .and a b=>match known1 fs a,known1 fs b with
    | some false,_=>some false
    | _,some false=>some false
    | some true,some true=>some true
    | _,_=>known fs (.and a b)
  | .or a b=>match known1 fs a,known1 fs b with
    | some true,_=>some true
    | _,some true=>some true
    | some false,some false=>some false
    | _,_=>known fs (.or a b)
  | t=>match known fs t with
    | some b=>some b
    | none=>knownN fs t
section
variable {F:Nat→List Int→Int} {ρ:Nat→Int} {fs:List T}
theorem js3 (hf:allT F ρ fs) {t:T} {r:Bool} (h:knownN fs t=some r):t.bd F ρ=r:=by
  unfold knownN at h
  split at h
  · rename_i e;cases h;exact jb9 hf e
  · split at h
    · rename_i a b _
      split at h
      · rename_i e;cases h
        have:=jb9 hf e;rw [bd_lt,decide_eq_true_eq] at this;rw [bd_le,decide_eq_false_iff_not];omega
      · cases h
    · rename_i a b _
      split at h
      · rename_i e;cases h
        have:=jb9 hf e;rw [bd_le,decide_eq_true_eq] at this;rw [bd_lt,decide_eq_false_iff_not];omega
      · cases h
    · rename_i a b _
      split at h
      · rename_i e;cases h
        rw [Bool.or_eq_true] at e;rw [jc4,beq_eq_false_iff_ne]
        rcases e with e | e
        · have:=jb9 hf e
          rw [bd_lt,decide_eq_true_eq] at this
          omega
        · have:=jb9 hf e
          rw [bd_lt,decide_eq_true_eq] at this
          omega
      · split at h
        · rename_i e;cases h
          rw [Bool.and_eq_true] at e;have h1:=jb9 hf e.1;have h2:=jb9 hf e.2;rw [bd_le,decide_eq_true_eq] at h1 h2;rw [jc4,beq_iff_eq];omega
        · cases h
    · cases h
theorem ja6 (hf:allT F ρ fs) {t:T} {r:Bool} (h:(match known fs t with | some b=>some b | none=>knownN fs t)=some r):t.bd F ρ=r:=by
  split at h
  · rename_i b e;cases h;exact jbb hf t _ e
  · exact js3 hf h
theorem jbl (hf:allT F ρ fs):∀(t:T) (r:Bool),known1 fs t=some r→t.bd F ρ=r
  | .not a,r,h=>by
    simp only [known1] at h;obtain ⟨b,e,rfl⟩:=Option.map_eq_some_iff.1 h;rw [jax,jbl hf a b e]
  | .and a b,r,h=>by
    simp only [known1] at h
    split at h
    · rename_i e;cases h;rw [jbp,jbl hf a _ e];rfl
    · rename_i _ e;cases h;rw [jbp,jbl hf b false (by assumption),Bool.and_false]
    · rename_i e e';cases h;rw [jbp,jbl hf a _ e,jbl hf b _ e'];rfl
    · exact jbb hf _ _ h
  | .or a b,r,h=>by
    simp only [known1] at h
    split at h
    · rename_i e;cases h;rw [jfp,jbl hf a _ e];rfl
    · rename_i _ e;cases h;rw [jfp,jbl hf b true (by assumption),Bool.or_true]
    · rename_i e e';cases h;rw [jfp,jbl hf a _ e,jbl hf b _ e'];rfl
    · exact jbb hf _ _ h
  | .v i,r,h=>ja6 hf h
  | .n z,r,h=>ja6 hf h
  | .add a b,r,h=>ja6 hf h
  | .sub a b,r,h=>ja6 hf h
  | .mul a b,r,h=>ja6 hf h
  | .lt a b,r,h=>ja6 hf h
  | .le a b,r,h=>ja6 hf h
  | .eq a b,r,h=>ja6 hf h
  | .ite a b d,r,h=>ja6 hf h
  | .ap f l,r,h=>ja6 hf h
  | .e,r,h=>ja6 hf h
  | .c a l,r,h=>ja6 hf h
end
def redI (fs:List T):T→T
  | .ite c a b=>match known1 fs c with
    | some true=>redI fs a
    | some false=>redI fs b
    | none=>.ite c a b
  | .add a b=>.add (redI fs a) (redI fs b)
  | .sub a b=>.sub (redI fs a) (redI fs b)
  | .mul a b=>.mul (redI fs a) (redI fs b)
  | .lt a b=>.lt (redI fs a) (redI fs b)
  | .le a b=>.le (redI fs a) (redI fs b)
  | .eq a b=>.eq (redI fs a) (redI fs b)
  | .not a=>.not (redI fs a)
  | .and a b=>.and (redI fs a) (redI fs b)
  | .or a b=>.or (redI fs a) (redI fs b)
  | t=>t
def iteC:T→Option T
  | .ite c _ _=>some c
  | .add a b=>(iteC a).or (iteC b)
  | .sub a b=>(iteC a).or (iteC b)
  | .mul a b=>(iteC a).or (iteC b)
  | .lt a b=>(iteC a).or (iteC b)
  | .le a b=>(iteC a).or (iteC b)
  | .eq a b=>(iteC a).or (iteC b)
  | .not a=>iteC a
  | .and a b=>(iteC a).or (iteC b)
  | .or a b=>(iteC a).or (iteC b)
  | _=>none
def hasI:T→Bool
  | t=>(iteC t).isSome
def known2 (fs:List T) (t:T):Option Bool:=bif hasI t then known1 fs (redI fs t) else known1 fs t
def splT (fs:List T) (t:T):T:=match iteC (redI fs t) with
  | some c=>c
  | none=>t
section
variable {F:Nat→List Int→Int} {ρ:Nat→Int} {fs:List T}
theorem jbf (hf:allT F ρ fs):∀(t:T),(redI fs t).den F ρ=t.den F ρ
  | .ite c a b=>by
    simp only [redI]
    split
    · rename_i h
      have h1:=jbl hf c _ h;rw [jbf hf a,jc3,h1,if_pos rfl]
    · rename_i h
      have h1:=jbl hf c _ h;rw [jbf hf b,jc3,h1,if_neg (by decide)]
    · rfl
  | .add a b=>by rw [redI,jea,jea,jbf hf a,jbf hf b]
  | .sub a b=>by rw [redI,jf9,jf9,jbf hf a,jbf hf b]
  | .mul a b=>by rw [redI,jc2,jc2,jbf hf a,jbf hf b]
  | .lt a b=>by
    have h1:=jbf hf a;have h2:=jbf hf b;exact (congrArg (fun x:Int=>(fun y:Int=>b2i (decide (x<y))) ((redI fs b).den F ρ)) h1).trans (congrArg (fun y:Int=>(fun x:Int=>b2i (decide (x<y))) (a.den F ρ)) h2)
  | .le a b=>by
    have h1:=jbf hf a;have h2:=jbf hf b;exact (congrArg (fun x:Int=>(fun y:Int=>b2i (decide (x≤y))) ((redI fs b).den F ρ)) h1).trans (congrArg (fun y:Int=>(fun x:Int=>b2i (decide (x≤y))) (a.den F ρ)) h2)
  | .eq a b=>by
    have h1:=jbf hf a;have h2:=jbf hf b;exact (congrArg (fun x:Int=>(fun y:Int=>b2i (x == y)) ((redI fs b).den F ρ)) h1).trans (congrArg (fun y:Int=>(fun x:Int=>b2i (x == y)) (a.den F ρ)) h2)
  | .not a=>congrArg (fun x:Int=>b2i (!(x != 0))) (jbf hf a)
  | .and a b=>by
    have h1:=jbf hf a;have h2:=jbf hf b;exact (congrArg (fun x:Int=>(fun y:Int=>b2i (x != 0 && y != 0)) ((redI fs b).den F ρ)) h1).trans (congrArg (fun y:Int=>(fun x:Int=>b2i (x != 0 && y != 0)) (a.den F ρ)) h2)
  | .or a b=>by
    have h1:=jbf hf a;have h2:=jbf hf b;exact (congrArg (fun x:Int=>(fun y:Int=>b2i (x != 0 || y != 0)) ((redI fs b).den F ρ)) h1).trans (congrArg (fun y:Int=>(fun x:Int=>b2i (x != 0 || y != 0)) (a.den F ρ)) h2)
  | .v _=>rfl
  | .n _=>rfl
  | .ap _ _=>rfl
  | .e=>rfl
  | .c _ _=>rfl
theorem jar (hf:allT F ρ fs) (t:T) (r:Bool) (h:known2 fs t=some r):t.bd F ρ=r:=by
  unfold known2 at h
  cases hi:hasI t <;> rw [hi] at h
  · exact jbl hf t r h
  · have:=jbl hf _ r h
    unfold T.bd at this ⊢
    rwa [jbf hf t] at this
end
end V
namespace V
inductive Kc where
  | str (l:List Nat)
  | np
  | nf
  | ni
  | ifc (t:Nat) (l:List Int)
def Kc.val:Kc→Value
  | .str l=>.string ⟨(l.map UInt8.ofNat).toArray⟩
  | .np=>.pointer none
  | .nf=>.nilFunc
  | .ni=>.nilIface
  | .ifc t l=>.iface t (.agg (l.map (Value.int .i64)).toArray)
def eqZs:List Int→List Int→Bool
  | [],[]=>true
  | x::xs,y::ys=>x == y && eqZs xs ys
  | _,_=>false
theorem jm7:∀{a b:List Int},eqZs a b=true→a=b
  | [],[],_=>rfl
  | [],_::_,h=>by cases h
  | _::_,[],h=>by cases h
  | x::xs,y::ys,h=>by
    simp only [eqZs,Bool.and_eq_true,beq_iff_eq] at h;rw [h.1,jm7 h.2]
def eqN:List Nat→List Nat→Bool
  | [],[]=>true
  | x::xs,y::ys=>Nat.beq x y && eqN xs ys
  | _,_=>false
theorem jxg:∀{a b:List Nat},eqN a b=true→a=b
  | [],[],_=>rfl
  | [],_::_,h=>by cases h
  | _::_,[],h=>by cases h
  | x::xs,y::ys,h=>by
    simp only [eqN,Bool.and_eq_true] at h;rw [Nat.eq_of_beq_eq_true h.1,jxg h.2]
def Kc.same:Kc→Kc→Bool
  | .str a,.str b=>eqN a b
  | .np,.np=>true
  | .nf,.nf=>true
  | .ni,.ni=>true
  | .ifc t a,.ifc u b=>Nat.beq t u && eqZs a b
  | _,_=>false
theorem Kc.same_eq {a b:Kc} (h:a.same b=true):a=b:=by
  unfold Kc.same at h
  split at h
  · rw [jxg h]
  · rfl
  · rfl
  · rfl
  · rw [Bool.and_eq_true] at h
    rw [Nat.eq_of_beq_eq_true h.1,jm7 h.2]
  · cases h
inductive X where
  | i (k:IntKind) (t:T)
  | b (t:T)
  | z (k:Nat) (cn:Bool) (t:T)
  | p (box off:Nat)
  | s0
  | cst (c:Kc)
def X.w:X→Nat
  | .z _ _ _=>2
  | _=>1
section
variable (F:Nat→List Int→Int) (ρ:Nat→Int) (β:Nat→Nat) (w:World)
def X.has:X→List Value→Prop
  | .i k t,cs=>cs=[.int k (t.den F ρ)]
  | .b t,cs=>cs=[.bool (t.bd F ρ)]
  | .z k cn t,cs=>∃n A l c,cs=[.bool n,.slice A l c]∧Q w k n A l c (t.den F ρ)∧(cn=true→QB w 0 k n A l c (t.den F ρ))
  | .p g o,cs=>cs=[.pointer (some ⟨β g,o,none⟩)]
  | .s0,cs=>cs=[.slice none 0 0]
  | .cst c,cs=>cs=[c.val]
def hasL:List X→List Value→Prop
  | [],cs=>cs=[]
  | x::xs,cs=>∃c d,cs=c ++ d∧x.has F ρ β w c∧hasL xs d
end
inductive V1 where
  | sc (x:X)
  | ag (xs:List X)
  | fn (f:Nat) (caps:List X)
inductive A where
  | one (a:V1)
  | tup (l:List V1)
  | und
section
variable (F:Nat→List Int→Int) (ρ:Nat→Int) (β:Nat→Nat) (w:World)
def V1.has:V1→Value→Prop
  | .sc x,v=>x.has F ρ β w [v]
  | .ag xs,v=>∃cs,v=.agg cs.toArray∧hasL F ρ β w xs cs
  | .fn f caps,v=>∃cs,v=.func (.func f) #[] cs.toArray∧hasL F ρ β w caps cs
def hasV:List V1→List Value→Prop
  | [],vs=>vs=[]
  | a::l,vs=>∃v r,vs=v::r∧a.has F ρ β w v∧hasV l r
def A.has:A→Value→Prop
  | .one a,v=>a.has F ρ β w v
  | .tup l,v=>∃vs,v=.tuple vs.toArray∧hasV F ρ β w l vs
  | .und,v=>v=undef
end
section
variable {F:Nat→List Int→Int} {ρ:Nat→Int} {β:Nat→Nat} {w w':World}
theorem X.ext {x:X} {cs:List Value} (h:x.has F ρ β w cs) (he:Ext w w'):x.has F ρ β w' cs:=by
  cases x with
  | z k cn t=>
    obtain ⟨n,A,l,c,h1,h2,h3⟩:=h;exact ⟨n,A,l,c,h1,h2.ext he,fun hc=>(h3 hc).ext he⟩
  | _=>exact h
theorem hasL.ext (he:Ext w w'):∀{xs:List X} {cs:List Value},hasL F ρ β w xs cs→hasL F ρ β w' xs cs
  | [],_,h=>h
  | _::_,_,⟨c,d,h1,h2,h3⟩=>⟨c,d,h1,X.ext h2 he,hasL.ext he h3⟩
theorem V1.ext {a:V1} {v:Value} (h:a.has F ρ β w v) (he:Ext w w'):a.has F ρ β w' v:=by
  cases a with
  | sc x=>exact X.ext h he
  | ag xs=>obtain ⟨cs,h1,h2⟩:=h;exact ⟨cs,h1,hasL.ext he h2⟩
  | fn f caps=>obtain ⟨cs,h1,h2⟩:=h;exact ⟨cs,h1,h2.ext he⟩
theorem hasV.ext (he:Ext w w'):∀{l:List V1} {vs:List Value},hasV F ρ β w l vs→hasV F ρ β w' l vs
  | [],_,h=>h
  | _::_,_,⟨v,r,h1,h2,h3⟩=>⟨v,r,h1,V1.ext h2 he,hasV.ext he h3⟩
theorem A.ext {a:A} {v:Value} (h:a.has F ρ β w v) (he:Ext w w'):a.has F ρ β w' v:=by
  cases a with
  | one a=>exact V1.ext h he
  | tup l=>obtain ⟨vs,h1,h2⟩:=h;exact ⟨vs,h1,h2.ext he⟩
  | und=>exact h
theorem X.len {x:X} {cs:List Value} (h:x.has F ρ β w cs):cs.length=x.w:=by
  cases x with
  | z k cn t=>obtain ⟨n,A,l,c,h1,-⟩:=h;rw [h1];rfl
  | i k t=>rw [show cs=_ from h];rfl
  | b t=>rw [show cs=_ from h];rfl
  | p g o=>rw [show cs=_ from h];rfl
  | s0=>rw [show cs=_ from h];rfl
  | cst c=>rw [show cs=_ from h];rfl
def widths:List X→Nat
  | []=>0
  | x::xs=>x.w+widths xs
theorem hasL.len:∀{xs:List X} {cs:List Value},hasL F ρ β w xs cs→cs.length=widths xs
  | [],_,h=>by rw [show _=[] from h];rfl
  | _::_,_,⟨c,d,h1,h2,h3⟩=>by rw [h1,List.length_append,(X.len h2),hasL.len h3];rfl
theorem hasL.app:∀{xs ys:List X} {cs ds:List Value},hasL F ρ β w xs cs→hasL F ρ β w ys ds→hasL F ρ β w (xs ++ ys) (cs ++ ds)
  | [],_,_,_,h,k=>by rw [show _=[] from h];exact k
  | _::_,_,_,_,⟨c,d,h1,h2,h3⟩,k=>⟨c,_,by rw [h1,List.append_assoc],h2,hasL.app h3 k⟩
def dropW:List X→Nat→Option (List X)
  | xs,0=>some xs
  | [],_+1=>none
  | x::xs,n+1=>if x.w≤n+1 then dropW xs (n+1 - x.w) else none
def takeW:List X→Nat→Option (List X)
  | _,0=>some []
  | [],_+1=>none
  | x::xs,n+1=>if x.w≤n+1 then (takeW xs (n+1 - x.w)).map (x :: ·) else none
theorem jgs:∀{xs:List X} {n:Nat} {ys:List X} {cs:List Value},hasL F ρ β w xs cs→dropW xs n=some ys→hasL F ρ β w ys (cs.drop n)
  | xs,0,ys,cs,h,k=>by simp [dropW] at k;subst k;simpa using h
  | [],_+1,_,_,_,k=>by simp [dropW] at k
  | x::xs,n+1,ys,cs,⟨c,d,h1,h2,h3⟩,k=>by
    simp only [dropW] at k
    split at k
    · rename_i hw
      have:=jgs h3 k;have hl:=(X.len h2);rw [h1,List.drop_append,hl,List.drop_eq_nil_of_le (by omega),List.nil_append];exact this
    · cases k
theorem jhz:∀{xs:List X} {n:Nat} {ys:List X} {cs:List Value},hasL F ρ β w xs cs→dropW xs n=some ys→n≤cs.length
  | xs,0,ys,cs,h,k=>Nat.zero_le _
  | [],_+1,_,_,_,k=>by simp [dropW] at k
  | x::xs,n+1,ys,cs,⟨c,d,h1,h2,h3⟩,k=>by
    simp only [dropW] at k
    split at k
    · have:=jhz h3 k
      have hl:=X.len h2;rw [h1,List.length_append]
      omega
    · cases k
theorem jj3:∀{xs:List X} {n:Nat} {ys:List X} {cs:List Value},hasL F ρ β w xs cs→takeW xs n=some ys→hasL F ρ β w ys (cs.take n)∧n≤cs.length
  | xs,0,ys,cs,h,k=>by simp [takeW] at k;subst k;exact ⟨by simp [hasL],Nat.zero_le _⟩
  | [],_+1,_,_,_,k=>by simp [takeW] at k
  | x::xs,n+1,ys,cs,⟨c,d,h1,h2,h3⟩,k=>by
    simp only [takeW] at k
    split at k
    · rename_i hw
      cases hk:takeW xs (n+1 - x.w) with
      | none=>rw [hk] at k;cases k
      | some zs=>
        rw [hk] at k
        cases k
        obtain ⟨e1,e2⟩:=jj3 h3 hk;have hl:=(X.len h2);have hw0:0<x.w:=by cases x <;> simp [X.w]
        refine ⟨⟨c,_,?_,h2,e1⟩,by rw [h1,List.length_append];omega⟩;rw [h1,List.take_append,hl,List.take_of_length_le (by omega)]
    · cases k
end
end V
namespace V
def aggB (P:Program) (t:TypeId):Option Bool:=match P.underlying t with
  | some d=>some d.isRow
  | none=>none
def sizeN (P:Program) (t:TypeId):Option Nat:=(P.info? t).map (·.size)
def fldN (P:Program) (t:TypeId) (f:Nat):Option (Nat×TypeId):=match P.underlying t with
  | some (.struct fs)=>match fs[f]? with
    | some x=>some (x.offset,x.type)
    | none=>none
  | _=>none
def fld0 (P:Program) (t:TypeId) (f:Nat):Bool:=match P.underlying t with
  | some (.struct fs)=>match fs[f]? with
    | some x=>Nat.beq x.offset 0 && Nat.beq x.byteOffset 0
    | none=>false
  | _=>false
theorem js4 {P:Program} {w:World} {g:Nat} {ty:TypeId} (hb:w.heap[g]? = some (.cells #[] ty (0,0))) (hz:sizeN P ty=some 0) :
    (partAt ⟨g,0,none⟩ 0 0).run P w=.ok ⟨g,0,none⟩ w:=by
  have hc:P.cellsOf ty=0:=by
    unfold sizeN at hz;unfold Program.cellsOf
    cases hq:P.info? ty with
    | none=>rfl
    | some i=>rw [hq] at hz;simpa using hz
  have hbo:(byteOf ⟨g,0,none⟩).run P w=.ok 0 w:=by
    unfold byteOf;simp [go_sem,noView,viewAt,World.shape?,hb,hc]
  unfold partAt;simp [go_sem,hbo]
section
variable {P:Program} {w:World}
theorem jh0 {t:TypeId} {b:Bool} (h:aggB P t=some b):(isAgg t).run P w=.ok b w:=by
  unfold aggB at h
  split at h
  · rename_i d hd
    cases h
    unfold isAgg;rw [Sem.run_bind,run_underlying hd w]
    cases d <;> rfl
  · cases h
theorem jcq {t:TypeId} {n:Nat} (h:sizeN P t=some n):(sizeOf t).run P w=.ok n w:=by
  unfold sizeN at h
  cases hq:P.info? t with
  | none=>rw [hq] at h;cases h
  | some i=>
    rw [hq] at h
    cases h
    simp [sizeOf,typeInfo,hq]
end
def partX (P:Program) (t:TypeId) (xs:List X) (off:Nat):Option V1:=
  match aggB P t,dropW xs off with
  | some true,some ys=>match sizeN P t with
    | some n=>(takeW ys n).map V1.ag
    | none=>none
  | some false,some (x::_)=>if Nat.beq x.w 1 then some (.sc x) else none
  | _,_=>none
section
variable {F:Nat→List Int→Int} {ρ:Nat→Int} {β:Nat→Nat} {P:Program} {w:World}
theorem jon {t:TypeId} {xs:List X} {off:Nat} {a:V1} {cs:List Value} (h:hasL F ρ β w xs cs) (k:partX P t xs off=some a) :
    (∃n ds,aggB P t=some true∧sizeN P t=some n∧ds=(cs.drop off).take n∧ds.length=n∧off+n≤cs.length∧a.has F ρ β w (.agg ds.toArray))∨(∃v,aggB P t=some false∧cs[off]? = some v∧a.has F ρ β w v):=by
  unfold partX at k
  split at k
  · rename_i e1 e2
    split at k
    · rename_i n e3
      cases hk:takeW _ n with
      | none=>rw [hk] at k;cases k
      | some zs=>
        rw [hk] at k
        cases k
        have h1:=jgs h e2;obtain ⟨h2,h3⟩:=jj3 h1 hk;rw [List.length_drop] at h3;have h4:=jhz h e2;exact .inl ⟨n,_,e1,e3,rfl,by rw [List.length_take,List.length_drop];omega,by omega,_,rfl,h2⟩
    · cases k
  · rename_i e1 e2
    split at k
    · rename_i e3
      cases k
      obtain ⟨c,d,h1,h2,h3⟩:=jgs h e2;have hl:=X.len h2;rw [Nat.eq_of_beq_eq_true e3] at hl;obtain ⟨v,rfl⟩:=List.length_eq_one_iff.1 hl;refine .inr ⟨v,e1,?_,h2⟩;have:(cs.drop off)[0]? = some v:=by rw [h1];rfl
      rw [List.getElem?_drop] at this;exact this
    · cases k
  · cases k
theorem js5 {t:TypeId} {xs:List X} {off:Nat} {a:V1} {cs:List Value} (h:hasL F ρ β w xs cs) (k:partX P t xs off=some a) :
    ∃v,(part t cs.toArray off).run P w=.ok v w∧a.has F ρ β w v:=by
  rcases jon h k with ⟨n,ds,e1,e2,e3,e4,e5,e6⟩ | ⟨v,e1,e2,e3⟩
  · refine ⟨.agg ds.toArray,?_,e6⟩
    unfold part;simp only [Sem.run_bind,jh0 e1,Result.andThen_ok,if_true,jcq e2,Sem.run_pure];rw [e3]
    congr 2
    apply Array.ext';simp [List.extract_eq_take_drop]
  · refine ⟨v,?_,e3⟩
    unfold part;simp only [Sem.run_bind,jh0 e1,Result.andThen_ok,Bool.false_eq_true,if_false];simp [e2]
theorem jlm {t:TypeId} {xs:List X} {off:Nat} {a:V1} {g:Nat} {ty:TypeId} {cs:List Value} (hb:Blk w g ty cs.toArray) (h:hasL F ρ β w xs cs) (k:partX P t xs off=some a) :
    ∃v,(Instr.loadAt t (.pointer (some ⟨g,off,none⟩))).run P w=.ok v w∧a.has F ρ β w v:=by
  rcases jon h k with ⟨n,ds,e1,e2,e3,e4,e5,e6⟩ | ⟨v,e1,e2,e3⟩
  · refine ⟨.agg ds.toArray,?_,e6⟩
    unfold aggB at e1
    split at e1
    · rename_i d hd
      cases hd':d.isRow with
      | false=>rw [hd'] at e1;cases e1
      | true=>
        refine run_loadAt_mid w g off t ds d (fun j u hu=>?_) hd hd' (by rw [e4];exact e2);rw [hb.cell];rw [e3,List.getElem?_take] at hu
        split at hu
        · rw [List.getElem?_drop] at hu
          simpa using hu
        · cases hu
    · cases e1
  · refine ⟨v,?_,e3⟩
    have hc:w.cell? ⟨g,off,none⟩=some v:=by rw [hb.cell];simpa using e2
    simp only [Instr.loadAt,Instr.sureAddr,Sem.run_bind,Sem.run_pure,Result.andThen_ok,loadVar,jh0 e1,Bool.false_eq_true,if_false,run_load,hc]
end
end V
namespace V
def loK:IntKind→Int
  | .i8 => -128 | .i16 => -32768 | .i32 => -2147483648 | .i64 => -9223372036854775808
  | _=>0
def hiK:IntKind→Int
  | .i8=>127 | .i16=>32767 | .i32=>2147483647 | .i64=>9223372036854775807
  | .u8=>255 | .u16=>65535 | .u32=>4294967295 | .u64=>18446744073709551615
theorem jc5 (k:IntKind) {n:Int} (h:loK k≤n∧n≤hiK k):k.wrap n=n:=by
  have key:∀(H:Int),0<H→-H≤n→n≤H - 1→(if (true && decide (n%(2*H)≥H))=true then n%(2*H) - 2*H else n%(2*H))=n:=by
    intro H hH h1 h2
    rcases Int.lt_or_le n 0 with hn | hn
    · have e:n%(2*H)=n+2*H:=by
        rw [←Int.add_emod_right,Int.emod_eq_of_lt (by omega) (by omega)]
      rw [e];simp only [Bool.true_and,decide_eq_true_eq]
      split <;> omega
    · rw [Int.emod_eq_of_lt hn (by omega)]
      simp only [Bool.true_and,decide_eq_true_eq]
      split <;> omega
  cases k <;> simp only [loK,hiK] at h
  · exact key 128 (by omega) h.1 h.2
  · exact key 32768 (by omega) h.1 h.2
  · exact key 2147483648 (by omega) h.1 h.2
  · exact key 9223372036854775808 (by omega) h.1 h.2
  all_goals
    simp only [IntKind.wrap,IntKind.bits,IntKind.signed,Bool.false_and,Bool.false_eq_true,if_false];exact Int.emod_eq_of_lt h.1 (by omega)
def inKind1 (fs:List T) (k:IntKind) (t:T):Bool:=within fs t (loK k) (hiK k) || (knownL fs (.le (.n (loK k)) t) && knownL fs (.le t (.n (hiK k))))
theorem ji0 {F:Nat→List Int→Int} {ρ:Nat→Int} {fs:List T} (hf:allT F ρ fs) {k:IntKind} {t:T} (h:inKind1 fs k t=true):loK k≤t.den F ρ∧t.den F ρ≤hiK k:=by
  unfold inKind1 at h;rw [Bool.or_eq_true] at h
  rcases h with h | h
  · exact js0 hf h
  · rw [Bool.and_eq_true] at h
    have h1:=jb9 hf h.1;have h2:=jb9 hf h.2;rw [bd_le,decide_eq_true_eq,jc8] at h1 h2;exact ⟨h1,h2⟩
def inKind (fs:List T) (k:IntKind) (t:T):Bool:=inKind1 fs k t || (hasI t && inKind1 fs k (redI fs t))
theorem jed {F:Nat→List Int→Int} {ρ:Nat→Int} {fs:List T} (hf:allT F ρ fs) {k:IntKind} {t:T} (h:inKind fs k t=true):loK k≤t.den F ρ∧t.den F ρ≤hiK k:=by
  unfold inKind at h;rw [Bool.or_eq_true] at h
  rcases h with h | h
  · exact ji0 hf h
  · rw [Bool.and_eq_true] at h
    have h1:=ji0 hf h.2;rw [jbf hf] at h1;exact h1
def binI (fs:List T) (op:BinOp) (k:IntKind) (a b:T):Option X:=
  match op with
  | .add=>if inKind fs k (.add a b) then some (.i k (.add a b)) else none
  | .sub=>if inKind fs k (.sub a b) then some (.i k (.sub a b)) else none
  | .mul=>if inKind fs k (.mul a b) then some (.i k (.mul a b)) else none
  | .eql=>some (.b (.eq a b))
  | .neq=>some (.b (.not (.eq a b)))
  | .lss=>some (.b (.lt a b))
  | .leq=>some (.b (.le a b))
  | .gtr=>some (.b (.lt b a))
  | .geq=>some (.b (.le b a))
  | _=>none
section
variable {F:Nat→List Int→Int} {ρ:Nat→Int} {β:Nat→Nat} {P:Program} {w:World}
theorem jvl {fs:List T} (hf:allT F ρ fs) {op:BinOp} {k:IntKind} {a b:T} {x:X} (h:binI fs op k a b=some x) (t:TypeId) (o1 o2:Operand) :
    ∃v,((do eqGuard op t o1 o2 (.int k (a.den F ρ)) (.int k (b.den F ρ));binOp op t (.int k (a.den F ρ)) (.int k (b.den F ρ))):Sem Value).run P w=.ok v w∧x.has F ρ β w [v]:=by
  unfold binI at h
  split at h
  · split at h
    · rename_i hw
      cases h
      have:=jed hf hw;exact ⟨.int k ((T.add a b).den F ρ),by simp [eqGuard,binOp,Op.intArith,jc5 k (show loK k≤a.den F ρ+b.den F ρ∧_ from this)];rfl,rfl⟩
    · cases h
  · split at h
    · rename_i hw
      cases h
      have:=jed hf hw;exact ⟨.int k ((T.sub a b).den F ρ),by simp [eqGuard,binOp,Op.intArith,jc5 k (show loK k≤a.den F ρ - b.den F ρ∧_ from this)];rfl,rfl⟩
    · cases h
  · split at h
    · rename_i hw
      cases h
      have:=jed hf hw;exact ⟨.int k ((T.mul a b).den F ρ),by simp [eqGuard,binOp,Op.intArith,jc5 k (show loK k≤a.den F ρ*b.den F ρ∧_ from this)];rfl,rfl⟩
    · cases h
  · cases h
    exact ⟨.bool (a.den F ρ == b.den F ρ),by simp [eqGuard,binOp,Op.intCmp],by show _=_;rw [jc4]⟩
  · cases h
    exact ⟨.bool (a.den F ρ != b.den F ρ),by simp [eqGuard,binOp,Op.intCmp],by show _=_;rw [jax,jc4];rfl⟩
  · cases h
    exact ⟨.bool (decide (a.den F ρ<b.den F ρ)),by simp [eqGuard,binOp,Op.intCmp],by show _=_;rw [bd_lt]⟩
  · cases h
    exact ⟨.bool (decide (a.den F ρ≤b.den F ρ)),by simp [eqGuard,binOp,Op.intCmp],by show _=_;rw [bd_le]⟩
  · cases h
    exact ⟨.bool (decide (b.den F ρ<a.den F ρ)),by simp [eqGuard,binOp,Op.intCmp],by show _=_;rw [bd_lt]⟩
  · cases h
    exact ⟨.bool (decide (b.den F ρ≤a.den F ρ)),by simp [eqGuard,binOp,Op.intCmp],by show _=_;rw [bd_le]⟩
  · cases h
end
end V
namespace V
structure Bx where
  id:Nat
  ty:TypeId
  xs:List X
  ro:Bool
structure St where
  sl:List (Nat×A)
  bx:List Bx
  fs:List T
def get:List (Nat×A)→Nat→Option A
  | [],_=>none
  | (i,a)::l,t=>if Nat.beq i t then some a else get l t
def getB:List Bx→Nat→Option Bx
  | [],_=>none
  | b::l,t=>if Nat.beq b.id t then some b else getB l t
def constC:List Value→Option (List X)
  | []=>some []
  | .bool false::.slice none 0 0::r=>(constC r).map (X.z 0 true (.n 0) :: ·)
  | .bool b::r=>(constC r).map (X.b (.n (b2i b)) :: ·)
  | .int k n::r=>(constC r).map (X.i k (.n n) :: ·)
  | .slice none 0 0::r=>(constC r).map (X.s0 :: ·)
  | _=>none
def constA:Value→Option V1
  | .int k n=>some (.sc (.i k (.n n)))
  | .bool b=>some (.sc (.b (.n (b2i b))))
  | .slice none 0 0=>some (.sc .s0)
  | .agg cs=>(constC cs.toList).map V1.ag
  | .func (.func f) ⟨[]⟩ ⟨[]⟩=>some (.fn f [])
  | .string b=>some (.sc (.cst (.str (b.data.toList.map UInt8.toNat))))
  | .pointer none=>some (.sc (.cst .np))
  | .nilFunc=>some (.sc (.cst .nf))
  | .nilIface=>some (.sc (.cst .ni))
  | _=>none
def evO (st:St):Operand→Option A
  | .tmp t=>get st.sl t
  | .const v=>(constA v).map A.one
  | .func f=>some (.one (.fn f []))
  | .global _=>none
section
variable {F:Nat→List Int→Int} {ρ:Nat→Int} {β:Nat→Nat} {P:Program} {w:World}
theorem bd_n {b:Bool}:(T.n (b2i b)).bd F ρ=b:=jc9 b
theorem jbz:∀{cs:List Value} {xs:List X},constC cs=some xs→hasL F ρ β w xs cs
  | [],xs,h=>by simp [constC] at h;subst h;rfl
  | .bool false::.slice none 0 0::r,xs,h=>by
    simp only [constC] at h
    cases hr:constC r with
    | none=>rw [hr] at h;cases h
    | some ys=>
      rw [hr] at h;cases h;exact ⟨[.bool false,.slice none 0 0],r,rfl,⟨_,_,_,_,rfl,(QB.zero _ 0 0).q,fun _=>QB.zero _ 0 0⟩,jbz hr⟩
  | .bool b::r,xs,h=>by
    unfold constC at h
    split at h
    · simp at *
    · rename_i r' e
      cases e
      cases hr:constC r' with
      | none=>rw [hr] at h;cases h
      | some ys=>rw [hr] at h;cases h;exact ⟨[.bool false,.slice none 0 0],r',rfl,⟨_,_,_,_,rfl,(QB.zero _ 0 0).q,fun _=>QB.zero _ 0 0⟩,jbz hr⟩
    · rename_i b' r' _ e
      cases e
      cases hr:constC r with
      | none=>rw [hr] at h;cases h
      | some ys=>rw [hr] at h;cases h;exact ⟨[.bool b],r,rfl,by show _=_;rw [bd_n],jbz hr⟩
    all_goals (try simp at *)
  | .int k n::r,xs,h=>by
    simp only [constC] at h
    cases hr:constC r with
    | none=>rw [hr] at h;cases h
    | some ys=>rw [hr] at h;cases h;exact ⟨[.int k n],r,rfl,rfl,jbz hr⟩
  | .slice none 0 0::r,xs,h=>by
    simp only [constC] at h
    cases hr:constC r with
    | none=>rw [hr] at h;cases h
    | some ys=>rw [hr] at h;cases h;exact ⟨[.slice none 0 0],r,rfl,rfl,jbz hr⟩
  | v::r,xs,h=>by
    unfold constC at h
    split at h
    · simp at *
    · rename_i r' e
      cases e
      cases hr:constC r' with
      | none=>rw [hr] at h;cases h
      | some ys=>rw [hr] at h;cases h;exact ⟨[.bool false,.slice none 0 0],r',rfl,⟨_,_,_,_,rfl,(QB.zero _ 0 0).q,fun _=>QB.zero _ 0 0⟩,jbz hr⟩
    · rename_i b' r' _ e
      cases e
      cases hr:constC r with
      | none=>rw [hr] at h;cases h
      | some ys=>rw [hr] at h;cases h;exact ⟨_,r,rfl,by show _=_;rw [bd_n],jbz hr⟩
    · rename_i k n r' e
      cases e
      cases hr:constC r with
      | none=>rw [hr] at h;cases h
      | some ys=>rw [hr] at h;cases h;exact ⟨_,r,rfl,rfl,jbz hr⟩
    · rename_i r' e
      cases e
      cases hr:constC r with
      | none=>rw [hr] at h;cases h
      | some ys=>rw [hr] at h;cases h;exact ⟨_,r,rfl,rfl,jbz hr⟩
    · cases h
theorem strK (b:ByteArray):Value.string b=(Kc.str (b.data.toList.map UInt8.toNat)).val:=by
  unfold Kc.val
  congr 1
  rw [List.map_map,show UInt8.ofNat ∘ UInt8.toNat=id from funext fun x=>by simp,List.map_id]
theorem jln {v:Value} {a:V1} (h:constA v=some a):a.has F ρ β w v:=by
  unfold constA at h
  split at h
  · cases h;rfl
  · cases h;show _=_;rw [bd_n]
  · cases h;rfl
  · rename_i cs
    cases hc:constC cs.toList with
    | none=>rw [hc] at h;cases h
    | some xs=>rw [hc] at h;cases h;exact ⟨cs.toList,by simp,jbz hc⟩
  · cases h;exact ⟨[],rfl,rfl⟩
  · rename_i b
    cases h
    show [_]=[_]
    rw [strK]
  · cases h;rfl
  · cases h;rfl
  · cases h;rfl
  · cases h
def slOK (F:Nat→List Int→Int) (ρ:Nat→Int) (β:Nat→Nat) (w:World) (a:Act) (sl:List (Nat×A)):Prop:=∀t x,get sl t=some x→x.has F ρ β w (a.tmps.getD t undef)
theorem jay {st:St} {a:Act} (hs:slOK F ρ β w a st.sl) {o:Operand} {x:A} (h:evO st o=some x):x.has F ρ β w (a.eval o):=by
  cases o with
  | tmp t=>exact hs t x h
  | const v=>
    simp only [evO] at h
    cases hc:constA v with
    | none=>rw [hc] at h;cases h
    | some y=>rw [hc] at h;cases h;exact jln hc
  | global g=>cases h
  | func f=>cases h;exact ⟨[],rfl,rfl⟩
structure bxOK (F:Nat→List Int→Int) (ρ:Nat→Int) (β:Nat→Nat) (w:World) (bx:List Bx):Prop where
  at_:∀i b,getB bx i=some b→∃cs,Blk w (β i) b.ty cs.toArray∧True∧hasL F ρ β w b.xs cs
  ne:∀i j b c,getB bx i=some b→getB bx j=some c→i≠j→β i≠β j
end
end V
namespace V
def capsX (st:St):List Operand→Option (List X)
  | []=>some []
  | o::r=>match evO st o,capsX st r with
    | some (.one (.sc x)),some xs=>if Nat.beq x.w 1 then some (x::xs) else none
    | _,_=>none
def intK (P:Program) (t:TypeId):Option IntKind:=match P.underlying t with
  | some (.int k)=>some k
  | _=>none
def iffT (a b:T):T:=.or (.and a b) (.and (.not a) (.not b))
def binB (P:Program) (ty:TypeId) (op:BinOp) (a b:T):Option T:=match P.underlying ty with
  | some .bool=>match op with
    | .eql=>some (iffT a b)
    | .neq=>some (.not (iffT a b))
    | _=>none
  | _=>none
def eqU (a b:List Nat):Bool:=a.map UInt8.ofNat == b.map UInt8.ofNat
def binS (op:BinOp) (a b:List Nat):Option T:=match op with
  | .eql=>some (.n (b2i (eqU a b)))
  | .neq=>some (.n (b2i (!(eqU a b))))
  | _=>none
section
variable {F:Nat→List Int→Int} {ρ:Nat→Int} {P:Program} {w:World}
theorem jxh {a b:T}:(iffT a b).bd F ρ=(a.bd F ρ == b.bd F ρ):=by
  unfold iffT;rw [jfp,jbp,jbp,jax,jax]
  cases a.bd F ρ <;> cases b.bd F ρ <;> rfl
theorem jvm {op:BinOp} {a b t:T} {ty:TypeId} (h:binB P ty op a b=some t) (o1 o2:Operand) :
    ((do eqGuard op ty o1 o2 (.bool (a.bd F ρ)) (.bool (b.bd F ρ));binOp op ty (.bool (a.bd F ρ)) (.bool (b.bd F ρ))):Sem Value).run P w=.ok (.bool (t.bd F ρ)) w:=by
  unfold binB at h
  split at h
  · rename_i hb
    split at h
    · cases h
      rw [jxh];simp only [eqGuard_at_bool,Sem.run_bind,Sem.run_pure,Result.andThen_ok,run_eql_bool _ _ _ _ hb]
    · cases h
      rw [jax,jxh];simp only [eqGuard_at_bool,Sem.run_bind,Sem.run_pure,Result.andThen_ok,run_neq_bool _ _ _ _ hb]
    · cases h
  · cases h
theorem jvn {op:BinOp} {a b:List Nat} {t:T} (h:binS op a b=some t) (ty:TypeId) (o1 o2:Operand) :
    ((do eqGuard op ty o1 o2 (Kc.str a).val (Kc.str b).val;binOp op ty (Kc.str a).val (Kc.str b).val):Sem Value).run P w=.ok (.bool (t.bd F ρ)) w:=by
  have e:((⟨(a.map UInt8.ofNat).toArray⟩:ByteArray).toList == (⟨(b.map UInt8.ofNat).toArray⟩:ByteArray).toList)=eqU a b:=by
    rw [ByteArray.toList_eq,ByteArray.toList_eq]
    rfl
  unfold binS at h
  split at h
  · cases h
    show _=Result.ok (Value.bool (b2i (eqU a b) != 0)) w
    rw [jc9,←e];simp only [Kc.val,eqGuard_at_string,Sem.run_bind,Sem.run_pure,Result.andThen_ok,binOp_string_eql]
  · cases h
    show _=Result.ok (Value.bool (b2i (!(eqU a b)) != 0)) w
    rw [jc9,←e];simp only [Kc.val,eqGuard_at_string,Sem.run_bind,Sem.run_pure,Result.andThen_ok,binOp_string_neq]
  · cases h
end
def forceN {α:Type} (n:Nat) (k:Nat→α):α:=match n with
  | 0=>k 0
  | m+1=>k (m+1)
theorem jlo {α:Type} (n:Nat) (k:Nat→α):forceN n k=k n:=by cases n <;> rfl
def forceZ {α:Type} (z:Int) (k:Int→α):α:=match z with
  | .ofNat n=>forceN n fun n=>k (.ofNat n)
  | .negSucc n=>forceN n fun n=>k (.negSucc n)
theorem jcw {α:Type} (z:Int) (k:Int→α):forceZ z k=k z:=by
  cases z with
  | ofNat n=>exact jlo n (fun n=>k (.ofNat n))
  | negSucc n=>exact jlo n (fun n=>k (.negSucc n))
def litT1:T→T
  | .add (.n x) (.n y)=>forceZ (x+y) T.n
  | .sub (.n x) (.n y)=>forceZ (x - y) T.n
  | .mul (.n x) (.n y)=>forceZ (x*y) T.n
  | t=>t
theorem jvo {F:Nat→List Int→Int} {ρ:Nat→Int} (t:T):(litT1 t).den F ρ=t.den F ρ:=by
  unfold litT1
  split
  · rw [jcw];rfl
  · rw [jcw];rfl
  · rw [jcw];rfl
  · rfl
def X.lit:X→X
  | .i k t=>.i k (litT1 t)
  | x=>x
theorem X.lit_ok {F:Nat→List Int→Int} {ρ:Nat→Int} {β:Nat→Nat} {w:World} {x:X} {cs:List Value} (h:x.has F ρ β w cs):x.lit.has F ρ β w cs:=by
  cases x with
  | i k t=>show cs=_;rw [jvo];exact h
  | _=>exact h
def minX (st:St) (x y:Operand) (mx:Bool):Option A:=match evO st x,evO st y with
  | some (.one (.sc (.i k a))),some (.one (.sc (.i k' b)))=>if k=k' then (match known2 st.fs (bif mx then .lt a b else .lt b a) with
    | some true=>some (.one (.sc (.i k b)))
    | some false=>some (.one (.sc (.i k a)))
    | none=>none) else none
  | _,_=>none
def needX (st:St):Op→Option T
  | .call c=>match c.callee,c.args with
    | .builtin .min,⟨[x,y]⟩=>match evO st x,evO st y with
      | some (.one (.sc (.i _ a))),some (.one (.sc (.i _ b)))=>match known2 st.fs (.lt b a) with
        | some _=>none
        | none=>some (.lt b a)
      | _,_=>none
    | .builtin .max,⟨[x,y]⟩=>match evO st x,evO st y with
      | some (.one (.sc (.i _ a))),some (.one (.sc (.i _ b)))=>match known2 st.fs (.lt a b) with
        | some _=>none
        | none=>some (.lt a b)
      | _,_=>none
    | _,_=>none
  | _=>none
def litXs:List X→Option (List Int)
  | []=>some []
  | .i .i64 (.n z)::l=>(litXs l).map (z :: ·)
  | _=>none
def pureX (P:Program) (st:St):Op→Option A
  | .move x=>evO st x
  | .assign x=>evO st x
  | .extract t ix=>match evO st t with
    | some (.tup l)=>l[ix]?.map A.one
    | _=>none
  | .field T x f=>match evO st x,fldN P T f with
    | some (.one (.ag xs)),some (off,ft)=>(partX P ft xs off).map A.one
    | _,_=>none
  | .fieldAddr T x f=>match evO st x,fldN P T f with
    | some (.one (.sc (.p b o))),some (off,ft)=>match sizeN P ft with
      | some (_+1)=>some (.one (.sc (.p b (o+off))))
      | some 0=>match getB st.bx b with
        | some bb=>match bb.xs,sizeN P bb.ty with
          | [],some 0=>if Nat.beq o 0 && fld0 P T f then some (.one (.sc (.p b 0))) else none
          | _,_=>none
        | none=>none
      | none=>none
    | _,_=>none
  | .load t x=>match evO st x with
    | some (.one (.sc (.p b o)))=>match getB st.bx b with
      | some bb=>(partX P t bb.xs o).map A.one
      | none=>none
    | _=>none
  | .binOp op ty x y _=>match evO st x,evO st y with
    | some (.one (.sc (.i k a))),some (.one (.sc (.i k' b)))=>if k=k' then (binI st.fs op k a b).map (fun x=>A.one (.sc x.lit)) else none
    | some (.one (.sc (.b a))),some (.one (.sc (.b b)))=>(binB P ty op a b).map (fun t=>A.one (.sc (.b t)))
    | some (.one (.sc (.cst (.str a)))),some (.one (.sc (.cst (.str b))))=>(binS op a b).map (fun t=>A.one (.sc (.b t)))
    | _,_=>none
  | .unOp op _ x=>match op,evO st x with
    | .not,some (.one (.sc (.b c)))=>some (.one (.sc (.b (.not c))))
    | .neg,some (.one (.sc (.i k a)))=>(binI st.fs .sub k (.n 0) a).map (fun x=>A.one (.sc x.lit))
    | _,_=>none
  | .pick c x y=>match evO st c with
    | some (.one (.sc (.b c)))=>match known2 st.fs c with
      | some true=>evO st x
      | some false=>evO st y
      | none=>none
    | _=>none
  | .convert src dst x=>match evO st x,intK P src,intK P dst with
    | some (.one (.sc (.i _ a))),some _,some k=>if inKind st.fs k a then some (.one (.sc (.i k a))) else none
    | _,_,_=>none
  | .makeFunc (.func f) ⟨[]⟩ caps=>(capsX st caps.toList).map (fun xs=>A.one (.fn f xs))
  | .nilCheck x=>match evO st x with
    | some (.one (.sc (.p b o)))=>some (.one (.sc (.p b o)))
    | some (.one (.sc (.cst (.ifc t l))))=>some (.one (.sc (.cst (.ifc t l))))
    | _=>none
  | .makeInterface t x=>match evO st x,P.concrete t with
    | some (.one (.ag xs)),true=>(litXs xs).map fun l=>A.one (.sc (.cst (.ifc t l)))
    | _,_=>none
  | .call c=>match c.callee,c.args with
    | .builtin .min,⟨[x,y]⟩=>minX st x y false
    | .builtin .max,⟨[x,y]⟩=>minX st x y true
    | _,_=>none
  | _=>none
section
variable {F:Nat→List Int→Int} {ρ:Nat→Int} {β:Nat→Nat} {P:Program} {w:World}
theorem joo:∀{l:List V1} {vs:List Value} {i:Nat} {a:V1},hasV F ρ β w l vs→l[i]? = some a→∃v,vs[i]? = some v∧a.has F ρ β w v
  | [],_,_,_,_,k=>by simp at k
  | b::l,_,0,a,⟨v,r,h1,h2,h3⟩,k=>by simp at k;subst k;exact ⟨v,by rw [h1];rfl,h2⟩
  | b::l,_,i+1,a,⟨v,r,h1,h2,h3⟩,k=>by
    obtain ⟨u,e1,e2⟩:=joo h3 (by simpa using k);exact ⟨u,by rw [h1];simpa using e1,e2⟩
theorem jop {st:St} {a:Act} (hs:slOK F ρ β w a st.sl):∀{os:List Operand} {xs:List X},capsX st os=some xs→hasL F ρ β w xs (os.map a.eval)
  | [],xs,h=>by simp [capsX] at h;subst h;rfl
  | o::r,xs,h=>by
    simp only [capsX] at h
    split at h
    · rename_i x ys e1 e2
      split at h
      · cases h
        exact ⟨[a.eval o],_,rfl,jay hs e1,jop hs e2⟩
      · cases h
    · cases h
theorem js6 {t:TypeId} {k:IntKind} (h:intK P t=some k):P.underlying t=some (.int k):=by
  unfold intK at h
  split at h
  · rename_i e;cases h;exact e
  · cases h
theorem jm8 {T:TypeId} {f off:Nat} {ft:TypeId} (h:fldN P T f=some (off,ft)):∃fs x,P.underlying T=some (.struct fs)∧fs[f]? = some x∧x.offset=off∧x.type=ft:=by
  unfold fldN at h
  split at h
  · rename_i fs e
    split at h
    · rename_i x e2
      cases h
      exact ⟨fs,x,e,e2,rfl,rfl⟩
    · cases h
  · cases h
theorem js7 {st:St} {a:Act} (hs:slOK F ρ β w a st.sl) (hf:allT F ρ st.fs) {x y:Operand} {mx:Bool} {r:A} (h:minX st x y mx=some r) :
    ∃v,((mx=false→∀(ts:Array TypeId) (t:TypeId),(Builtin.min_ ts t #[a.eval x,a.eval y]).run P w=.ok v w)∧(mx=true→∀(ts:Array TypeId) (t:TypeId),(Builtin.max_ ts t #[a.eval x,a.eval y]).run P w=.ok v w))∧r.has F ρ β w v:=by
  unfold minX at h
  split at h
  · rename_i k a' k' b' e1 e2
    have h1:a.eval x=.int k (a'.den F ρ):=List.head_eq_of_cons_eq (jay hs e1);have h2:a.eval y=.int k' (b'.den F ρ):=List.head_eq_of_cons_eq (jay hs e2)
    split at h
    · rename_i ek
      subst ek;rw [h1,h2]
      cases mx with
      | false=>
        simp only [cond_false] at h
        split at h
        · rename_i e3
          cases h
          have:=jar hf _ _ e3;rw [bd_lt,decide_eq_true_eq] at this;exact ⟨_,⟨fun _ ts t=>by rw [run_min_int2,if_pos this],fun h=>by cases h⟩,rfl⟩
        · rename_i e3
          cases h
          have:=jar hf _ _ e3;rw [bd_lt,decide_eq_false_iff_not] at this;exact ⟨_,⟨fun _ ts t=>by rw [run_min_int2,if_neg this],fun h=>by cases h⟩,rfl⟩
        · cases h
      | true=>
        simp only [cond_true] at h
        split at h
        · rename_i e3
          cases h
          have:=jar hf _ _ e3;rw [bd_lt,decide_eq_true_eq] at this;exact ⟨_,⟨fun h=>(by cases h),fun _ ts t=>by rw [run_max_int2,if_pos this]⟩,rfl⟩
        · rename_i e3
          cases h
          have:=jar hf _ _ e3;rw [bd_lt,decide_eq_false_iff_not] at this;exact ⟨_,⟨fun h=>(by cases h),fun _ ts t=>by rw [run_max_int2,if_neg (by omega)]⟩,rfl⟩
        · cases h
    · cases h
  · cases h
theorem joq:∀{xs:List X} {l:List Int} {cs:List Value},litXs xs=some l→hasL F ρ β w xs cs→cs=l.map (Value.int .i64)
  | [],l,cs,h,k=>by simp only [litXs] at h;cases h;exact k
  | x::xs,l,cs,h,⟨c,d,h1,h2,h3⟩=>by
    unfold litXs at h
    split at h
    · rename_i e;cases e
    · rename_i z l' e
      cases e
      obtain ⟨r,e2,rfl⟩:=Option.map_eq_some_iff.1 h;have h4:c=[Value.int .i64 z]:=h2;rw [h1,h4,joq e2 h3]
      rfl
    · cases h
theorem jzy {st:St} {a:Act} (hs:slOK F ρ β w a st.sl) (hb:bxOK F ρ β w st.bx) (hf:allT F ρ st.fs) {o:Oper} {x:A} (h:pureX P st o.op=some x) :
    ∃v,(execOp a.eval o).run P w=.ok (.value v) w∧x.has F ρ β w v:=by
  unfold execOp
  generalize o.op=op at h ⊢
  unfold pureX at h
  split at h
  · exact ⟨_,rfl,jay hs h⟩
  · exact ⟨_,rfl,jay hs h⟩
  · -- extract
    rename_i t ix
    split at h
    · rename_i l e
      obtain ⟨vs,h1,h2⟩:=jay hs e
      cases hl:l[ix]? with
      | none=>rw [hl] at h;cases h
      | some b=>
        rw [hl] at h
        cases h
        obtain ⟨v,e1,e2⟩:=joo h2 hl;refine ⟨v,?_,e2⟩;simp only [h1,Instr.extract,Sem.run_bind];simp [e1]
    · cases h
  · -- field
    split at h
    · rename_i xs off ft e1 e2
      obtain ⟨cs,h1,h2⟩:=jay hs e1;obtain ⟨fs,y,g1,g2,g3,g4⟩:=jm8 e2
      cases hp:partX P ft xs off with
      | none=>rw [hp] at h;cases h
      | some b=>
        rw [hp] at h
        cases h
        obtain ⟨v,k1,k2⟩:=js5 (P:=P) h2 hp;refine ⟨v,?_,k2⟩;simp only [h1,Instr.field,Sem.run_bind,run_underlying g1 w,Result.andThen_ok,g2,asAgg,Sem.run_pure,g3,g4,k1]
    · cases h
  · -- fieldAddr
    split at h
    · rename_i g o' off ft e1 e2
      split at h
      · rename_i n e3
        cases h
        have h1:=jay hs e1;have h1':a.eval _=.pointer (some ⟨β g,o',none⟩):=List.head_eq_of_cons_eq h1;obtain ⟨fs,y,g1,g2,g3,g4⟩:=jm8 e2;refine ⟨.pointer (some ⟨β g,o'+off,none⟩),?_,rfl⟩;have hz:=jcq (P:=P) (w:=w) e3;simp only [h1',Instr.fieldAt,Sem.run_bind,run_underlying g1 w,Result.andThen_ok,g2,Instr.sureAddr,Sem.run_pure,fieldPlace,g3,g4,hz];rw [if_neg (by omega)];simp only [Sem.run_pure,Result.andThen_ok,Addr.add_mid]
      · rename_i e3
        split at h
        · rename_i bb e4
          split at h
          · rename_i e5 e6
            split at h
            · rename_i e7
              cases h
              rw [Bool.and_eq_true] at e7;obtain rfl:=Nat.eq_of_beq_eq_true e7.1;have h1:=jay hs e1;have h1':a.eval _=.pointer (some ⟨β g,0,none⟩):=List.head_eq_of_cons_eq h1;obtain ⟨fs,y,g1,g2,g3,g4⟩:=jm8 e2;obtain ⟨cs,k1,k2,k3⟩:=hb.at_ g bb e4;rw [e5] at k3;have k4:cs=[]:=k3;subst k4;have hz:=jcq (P:=P) (w:=w) e3;have e8:=e7.2;unfold fld0 at e8;rw [g1] at e8;simp only [g2,Bool.and_eq_true] at e8;have hp:=js4 (P:=P) k1 e6;refine ⟨.pointer (some ⟨β g,0,none⟩),?_,rfl⟩;simp only [h1',Instr.fieldAt,Sem.run_bind,run_underlying g1 w,Result.andThen_ok,g2,Instr.sureAddr,Sem.run_pure,fieldPlace,g4,hz,Nat.eq_of_beq_eq_true e8.1,Nat.eq_of_beq_eq_true e8.2];rw [if_pos trivial,hp]
              rfl
            · cases h
          · cases h
        · cases h
      · cases h
    · cases h
  · -- load
    split at h
    · rename_i g o' e1
      split at h
      · rename_i bb e2
        have h1:=jay hs e1;have h1':a.eval _=.pointer (some ⟨β g,o',none⟩):=List.head_eq_of_cons_eq h1;obtain ⟨cs,k1,k2,k3⟩:=hb.at_ g bb e2
        cases hp:partX P _ bb.xs o' with
        | none=>rw [hp] at h;cases h
        | some b=>
          rw [hp] at h
          cases h
          obtain ⟨v,m1,m2⟩:=jlm (P:=P) k1 k3 hp;refine ⟨v,?_,m2⟩;simp only [h1',Sem.run_bind,m1,Result.andThen_ok,Sem.run_pure]
      · cases h
    · cases h
  · -- binOp
    rename_i op T ox oy T2
    split at h
    · rename_i k a' k' b' e1 e2
      split at h
      · rename_i ek
        subst ek
        cases hx:binI st.fs _ k a' b' with
        | none=>rw [hx] at h;cases h
        | some x'=>
          rw [hx] at h
          cases h
          have h1:a.eval _=.int k (a'.den F ρ):=List.head_eq_of_cons_eq (jay hs e1);have h2:a.eval _=.int k (b'.den F ρ):=List.head_eq_of_cons_eq (jay hs e2);obtain ⟨v,k1,k2⟩:=jvl (P:=P) (w:=w) (β:=β) hf hx T ox oy;refine ⟨v,?_,X.lit_ok k2⟩;rw [←h1,←h2] at k1;simp only [Sem.run_bind] at k1 ⊢;rw [k1]
          rfl
      · cases h
    · rename_i a' b' e1 e2
      cases hx:binB P T op a' b' with
      | none=>rw [hx] at h;cases h
      | some t=>
        rw [hx] at h
        cases h
        have h1:a.eval _=.bool (a'.bd F ρ):=List.head_eq_of_cons_eq (jay hs e1);have h2:a.eval _=.bool (b'.bd F ρ):=List.head_eq_of_cons_eq (jay hs e2);have k1:=jvm (F:=F) (ρ:=ρ) (P:=P) (w:=w) hx ox oy;refine ⟨_,?_,rfl⟩;rw [←h1,←h2] at k1;simp only [Sem.run_bind] at k1 ⊢;rw [k1]
        rfl
    · rename_i a' b' e1 e2
      cases hx:binS _ a' b' with
      | none=>rw [hx] at h;cases h
      | some t=>
        rw [hx] at h
        cases h
        have h1:a.eval _=(Kc.str a').val:=List.head_eq_of_cons_eq (jay hs e1);have h2:a.eval _=(Kc.str b').val:=List.head_eq_of_cons_eq (jay hs e2);have k1:=jvn (F:=F) (ρ:=ρ) (P:=P) (w:=w) hx T ox oy;refine ⟨_,?_,rfl⟩;rw [←h1,←h2] at k1;simp only [Sem.run_bind] at k1 ⊢;rw [k1]
        rfl
    · cases h
  · -- unOp
    split at h
    · rename_i c e1
      cases h
      have h1:a.eval _=.bool (c.bd F ρ):=List.head_eq_of_cons_eq (jay hs e1);refine ⟨.bool (!(c.bd F ρ)),?_,by show _=_;rw [jax]⟩;simp [h1,Op.unary]
    · rename_i k a' e1
      cases hx:binI st.fs .sub k (.n 0) a' with
      | none=>rw [hx] at h;cases h
      | some x'=>
        rw [hx] at h
        cases h
        have h1:a.eval _=.int k (a'.den F ρ):=List.head_eq_of_cons_eq (jay hs e1);simp only [binI] at hx
        split at hx
        · rename_i hw
          cases hx
          have hh:=jed hf hw;refine ⟨.int k ((T.sub (.n 0) a').den F ρ),?_,X.lit_ok (x:=.i k (.sub (.n 0) a')) (β:=β) (w:=w) rfl⟩;have e:=jc5 k (show loK k≤0 - a'.den F ρ∧_ from hh);simp only [h1,Op.unary,Op.intArith,e,Sem.run_bind,Sem.run_pure,Result.andThen_ok]
          rfl
        · cases hx
    · cases h
  · -- pick
    split at h
    · rename_i c e1
      have h1:a.eval _=.bool (c.bd F ρ):=List.head_eq_of_cons_eq (jay hs e1)
      split at h
      · rename_i e2
        refine ⟨_,?_,jay hs h⟩;simp [h1,asBool,jar hf c _ e2]
      · rename_i e2
        refine ⟨_,?_,jay hs h⟩;simp [h1,asBool,jar hf c _ e2]
      · cases h
    · cases h
  · -- convert
    split at h
    · rename_i k' a' k0 k e1 e2 e3
      split at h
      · rename_i hw
        cases h
        have h1:a.eval _=.int k' (a'.den F ρ):=List.head_eq_of_cons_eq (jay hs e1);refine ⟨.int k (a'.den F ρ),?_,rfl⟩;have e:=jc5 k (jed hf hw);simp [h1,convert,run_underlying (js6 e2),run_underlying (js6 e3),Conv.intToInt,e]
      · cases h
    · cases h
  · -- makeFunc
    rename_i f caps
    cases hx:capsX st caps.toList with
    | none=>rw [hx] at h;cases h
    | some xs=>
      rw [hx] at h
      cases h
      refine ⟨.func (.func f) #[] (caps.map a.eval),?_,caps.toList.map a.eval,?_,jop hs hx⟩
      · simp [Instr.makeFunc]
      · congr 1
        apply Array.ext';simp
  · -- nilCheck
    rename_i x
    split at h
    · rename_i b o' e
      cases h
      have h1:a.eval x=.pointer (some ⟨β b,o',none⟩):=List.head_eq_of_cons_eq (jay hs e);refine ⟨_,?_,jay hs e⟩;simp [h1]
    · rename_i t l e
      cases h
      have h1:a.eval x=(Kc.ifc t l).val:=List.head_eq_of_cons_eq (jay hs e);refine ⟨_,?_,jay hs e⟩;simp [h1,Kc.val]
    · cases h
  · -- makeInterface
    rename_i t x
    split at h
    · rename_i xs e1 e2
      obtain ⟨l,e3,rfl⟩:=Option.map_eq_some_iff.1 h;obtain ⟨cs,h1,h2⟩:=jay hs e1;refine ⟨_,?_,rfl⟩;simp only [h1,joq e3 h2,Sem.run_bind,run_makeInterface _ _ _ e2,Result.andThen_ok,Sem.run_pure]
      rfl
    · cases h
  · -- min, max
    rename_i c
    split at h
    · rename_i x y e1 e2
      obtain ⟨v,k1,k2⟩:=js7 hs hf h;refine ⟨v,?_,k2⟩;have k3:=k1.1 rfl c.argTypes o.type;simp only [resolve,e1,e2,Sem.run_bind,Sem.run_pure,Result.andThen_ok,invoke,(show ∀ats ty cs args,builtin .min ats ty cs args=(do pure (.value (← Builtin.min_ ats ty args))) from fun _ _ _ _=>rfl)];have:(#[x,y].map a.eval)=#[a.eval x,a.eval y]:=by simp
      rw [show (⟨[x,y]⟩:Array Operand)=#[x,y] from rfl,this,k3]
      rfl
    · rename_i x y e1 e2
      obtain ⟨v,k1,k2⟩:=js7 hs hf h;refine ⟨v,?_,k2⟩;have k3:=k1.2 rfl c.argTypes o.type;simp only [resolve,e1,e2,Sem.run_bind,Sem.run_pure,Result.andThen_ok,invoke,(show ∀ats ty cs args,builtin .max ats ty cs args=(do pure (.value (← Builtin.max_ ats ty args))) from fun _ _ _ _=>rfl)];have:(#[x,y].map a.eval)=#[a.eval x,a.eval y]:=by simp
      rw [show (⟨[x,y]⟩:Array Operand)=#[x,y] from rfl,this,k3]
      rfl
    · cases h
  · cases h
end
end V
namespace V
def hasA (F:Nat→List Int→Int) (ρ:Nat→Int) (β:Nat→Nat) (w:World):List A→List Value→Prop
  | [],vs=>vs=[]
  | a::l,vs=>∃v r,vs=v::r∧a.has F ρ β w v∧hasA F ρ β w l r
structure Ctr (P:Program) (F:Nat→List Int→Int) where
  f:FuncId
  inst:List T→List Bx→List A→Option (List T×A×List T)
  ent:Enters P f
  ok:∀{ρ:Nat→Int} {β:Nat→Nat} {w:World} {fs:List T} {bx:List Bx} {ar:List A} {vs:List Value} {pre:List T} {res:A} {post:List T},allT F ρ fs→bxOK F ρ β w bx→hasA F ρ β w ar vs→inst fs bx ar=some (pre,res,post)→allT F ρ pre→
    allT F ρ post∧Calls P f vs.toArray w (fun e w'=>Below w.heap.size w w'∧∃u,e=.returned u∧res.has F ρ β w' u)
  opI:List T→BinOp→IntKind→T→T→Option (List T×X×List T):=fun _ _ _ _ _=>none
  opOk:∀{ρ:Nat→Int} {β:Nat→Nat} {w:World} {op:BinOp} {k:IntKind} {fs:List T} {a b:T} {pre:List T} {x:X} {post:List T},allT F ρ fs→opI fs op k a b=some (pre,x,post)→allT F ρ pre→
    allT F ρ post∧∀(t:TypeId) (o1 o2:Operand),∃v,((do eqGuard op t o1 o2 (.int k (a.den F ρ)) (.int k (b.den F ρ));binOp op t (.int k (a.den F ρ)) (.int k (b.den F ρ))):Sem Value).run P w=.ok v w∧x.has F ρ β w [v]:=by
    intro _ _ _ _ _ _ _ _ _ _ _ _ h;cases h
  mn:Option (Nat×List Int×String):=none
  mok:∀{t:Nat} {l:List Int} {s:String},mn=some (t,l,s)→∀(w:World) (args:Array Value),(callMethod (Kc.ifc t l).val s args).run P w=.ok (.enter f (#[Value.agg (l.map (Value.int .i64)).toArray] ++ args)) w:=by
    intro _ _ _ h;cases h
def Ctr.meth {P:Program} {F:Nat→List Int→Int} (c:Ctr P F) (t:Nat) (l:List Int) (s:String) (h:∀(w:World) (args:Array Value),(callMethod (Kc.ifc t l).val s args).run P w=.ok (.enter c.f (#[Value.agg (l.map (Value.int .i64)).toArray] ++ args)) w):Ctr P F:=
  { c with mn:=some (t,l,s),mok:=by intro t' l' s' e;cases e;exact h }
def findO {P:Program} {F:Nat→List Int→Int}:List (Ctr P F)→List T→BinOp→IntKind→T→T→Option (List T×X×List T)
  | [],_,_,_,_,_=>none
  | c::l,fs,op,k,a,b=>match c.opI fs op k a b with
    | some r=>some r
    | none=>findO l fs op k a b
theorem jor {P:Program} {F:Nat→List Int→Int} {ρ:Nat→Int} {β:Nat→Nat} {w:World} {op:BinOp} {k:IntKind} {fs:List T} {a b:T} {pre:List T} {x:X} {post:List T} (hf:allT F ρ fs):∀{tab:List (Ctr P F)},findO tab fs op k a b=some (pre,x,post)→allT F ρ pre→
    allT F ρ post∧∀(t:TypeId) (o1 o2:Operand),∃v,((do eqGuard op t o1 o2 (.int k (a.den F ρ)) (.int k (b.den F ρ));binOp op t (.int k (a.den F ρ)) (.int k (b.den F ρ))):Sem Value).run P w=.ok v w∧x.has F ρ β w [v]
  | [],h,_=>by cases h
  | c::l,h,hp=>by
    simp only [findO] at h
    split at h
    · rename_i r e
      cases h
      exact c.opOk hf e hp
    · exact jor hf h hp
def evOs (st:St):List Operand→Option (List A)
  | []=>some []
  | o::r=>match evO st o,evOs st r with
    | some x,some xs=>some (x::xs)
    | _,_=>none
def allKnown (fs:List T):List T→Bool
  | []=>true
  | t::l=>(match known2 fs t with | some true=>true | _=>false) && allKnown fs l
def isSh:BinOp→Bool
  | .shl=>true
  | .shr=>true
  | _=>false
theorem jzz {P:Program} {w:World} {op:BinOp} (h:isSh op=true) (t:TypeId) (o1 o2:Operand) (k k':IntKind) (a b:Int) :
    ((do eqGuard op t o1 o2 (.int k a) (.int k' b);binOp op t (.int k a) (.int k' b)):Sem Value).run P w=((do eqGuard op t o1 o2 (.int k a) (.int k b);binOp op t (.int k a) (.int k b)):Sem Value).run P w:=by
  cases op <;> first | (cases h;done) | skip
  · simp only [eqGuard_shl,Sem.run_bind,Sem.run_pure,Result.andThen_ok,binOp_shl,Op.shift]
  · simp only [eqGuard_shr,Sem.run_bind,Sem.run_pure,Result.andThen_ok,binOp_shr,Op.shift]
def firstC {P:Program} {F:Nat→List Int→Int}:List (Ctr P F)→Nat→List T→List Bx→List A→Option (A×List T)
  | [],_,_,_,_=>none
  | c::l,f,fs,bx,ar=>match Nat.beq c.f f with
    | true=>match c.inst fs bx ar with
      | some (pre,res,post)=>match allKnown fs pre with
        | true=>some (res,post)
        | false=>firstC l f fs bx ar
      | none=>firstC l f fs bx ar
    | false=>firstC l f fs bx ar
theorem jfq {P:Program} {F:Nat→List Int→Int} {f:Nat} {fs:List T} {bx:List Bx} {ar:List A} {res:A} {post:List T}:∀{l:List (Ctr P F)},firstC l f fs bx ar=some (res,post)→∃(c:Ctr P F) (pre:List T),c.f=f∧c.inst fs bx ar=some (pre,res,post)∧allKnown fs pre=true
  | [],h=>by cases h
  | c::l,h=>by
    simp only [firstC] at h
    split at h
    · rename_i e
      split at h
      · rename_i pre res' post' e2
        split at h
        · rename_i e3
          cases h
          exact ⟨c,pre,Nat.eq_of_beq_eq_true e,e2,e3⟩
        · exact jfq h
      · exact jfq h
    · exact jfq h
def firstM {P:Program} {F:Nat→List Int→Int}:List (Ctr P F)→Nat→List Int→String→List T→List Bx→List A→Option (A×List T)
  | [],_,_,_,_,_,_=>none
  | c::r,t,l,s,fs,bx,ar=>match c.mn with
    | some (t',l',s')=>match Nat.beq t' t && eqZs l' l && (s' == s) with
      | true=>match c.inst fs bx ar with
        | some (pre,res,post)=>match allKnown fs pre with
          | true=>some (res,post)
          | false=>firstM r t l s fs bx ar
        | none=>firstM r t l s fs bx ar
      | false=>firstM r t l s fs bx ar
    | none=>firstM r t l s fs bx ar
theorem jee {P:Program} {F:Nat→List Int→Int} {t:Nat} {l:List Int} {s:String} {fs:List T} {bx:List Bx} {ar:List A} {res:A} {post:List T}:∀{tab:List (Ctr P F)},firstM tab t l s fs bx ar=some (res,post)→∃(c:Ctr P F) (pre:List T),c.mn=some (t,l,s)∧c.inst fs bx ar=some (pre,res,post)∧allKnown fs pre=true
  | [],h=>by cases h
  | c::r,h=>by
    simp only [firstM] at h
    split at h
    · rename_i t' l' s' em
      split at h
      · rename_i e
        simp only [Bool.and_eq_true,beq_iff_eq] at e
        split at h
        · rename_i pre res' post' e2
          split at h
          · rename_i e3
            cases h
            exact ⟨c,pre,by rw [em,Nat.eq_of_beq_eq_true e.1.1,jm7 e.1.2,e.2],e2,e3⟩
          · exact jee h
        · exact jee h
      · exact jee h
    · exact jee h
def callX {P:Program} {F:Nat→List Int→Int} (tab:List (Ctr P F)) (st:St):Op→Option (A×List T)
  | .call c=>match c.callee with
    | .value fo=>match evO st fo,evOs st c.args.toList with
      | some (.one (.fn f caps)),some ar=>match caps.all (fun x=>Nat.beq x.w 1) with
        | true=>firstC tab f st.fs st.bx (ar ++ caps.map fun x=>A.one (.sc x))
        | false=>none
      | _,_=>none
    | .invoke r s=>match evO st r,evOs st c.args.toList with
      | some (.one (.sc (.cst (.ifc t l)))),some ar=>firstM tab t l s st.fs st.bx (.one (.ag (l.map fun z=>.i .i64 (.n z)))::ar)
      | _,_=>none
    | _=>none
  | .binOp op _ x y _=>match evO st x,evO st y with
    | some (.one (.sc (.i k a))),some (.one (.sc (.i k' b)))=>if k=k'∨isSh op=true then (match findO tab st.fs op k a b with
      | some (pre,x,post)=>if allKnown st.fs pre then some (.one (.sc x),post) else none
      | none=>none) else none
    | _,_=>none
  | _=>none
section
variable {F:Nat→List Int→Int} {ρ:Nat→Int} {β:Nat→Nat} {P:Program} {w:World}
theorem jm9 {st:St} {a:Act} (hs:slOK F ρ β w a st.sl):∀{os:List Operand} {xs:List A},evOs st os=some xs→hasA F ρ β w xs (os.map a.eval)
  | [],xs,h=>by simp [evOs] at h;subst h;rfl
  | o::r,xs,h=>by
    simp only [evOs] at h
    split at h
    · rename_i x ys e1 e2
      cases h
      exact ⟨a.eval o,_,rfl,jay hs e1,jm9 hs e2⟩
    · cases h
theorem jos:∀{xs ys:List A} {us vs:List Value},hasA F ρ β w xs us→hasA F ρ β w ys vs→hasA F ρ β w (xs ++ ys) (us ++ vs)
  | [],_,_,_,h,k=>by rw [show _=[] from h];exact k
  | _::_,_,_,_,⟨v,r,h1,h2,h3⟩,k=>⟨v,_,by rw [h1];rfl,h2,jos h3 k⟩
theorem jlp:∀{xs:List X} {cs:List Value},hasL F ρ β w xs cs→xs.all (fun x=>Nat.beq x.w 1)=true→hasA F ρ β w (xs.map fun x=>A.one (.sc x)) cs
  | [],_,h,_=>h
  | x::xs,_,⟨c,d,h1,h2,h3⟩,k=>by
    simp only [List.all_cons,Bool.and_eq_true] at k;have hl:=X.len h2;rw [Nat.eq_of_beq_eq_true k.1] at hl;obtain ⟨v,rfl⟩:=List.length_eq_one_iff.1 hl;exact ⟨v,d,h1,h2,jlp h3 k.2⟩
theorem jbg {fs:List T} (hf:allT F ρ fs):∀{l:List T},allKnown fs l=true→allT F ρ l
  | [],_=>trivial
  | t::l,h=>by
    simp only [allKnown,Bool.and_eq_true] at h;refine ⟨?_,jbg hf h.2⟩;have h1:=h.1
    split at h1
    · rename_i e;exact jar hf t _ e
    · cases h1
theorem jlq:∀(l:List Int),hasL F ρ β w (l.map fun z=>X.i .i64 (.n z)) (l.map (Value.int .i64))
  | []=>rfl
  | z::l=>⟨[Value.int .i64 z],_,rfl,rfl,jlq l⟩
theorem ext1 (x:Value) (l:Array Value):(#[x] ++ l)[0]? = some x∧(#[x] ++ l).extract 1 (#[x] ++ l).size=l:=by
  obtain ⟨l⟩:=l;refine ⟨by simp,?_⟩;apply Array.ext';simp
theorem js8 {tab:List (Ctr P F)} {st:St} {a:Act} (hs:slOK F ρ β w a st.sl) (hb:bxOK F ρ β w st.bx) (hf:allT F ρ st.fs) {o:Oper} {x:A} {post:List T} (h:callX tab st o.op=some (x,post))
    {K:Act→World→Prop} {Q:Exit→Act→World→Prop} (hk:allT F ρ post→∀u w',Below w.heap.size w w'→x.has F ρ β w' u→K (a.put o.dst u) w'):o.wp P a w K Q:=by
  unfold callX at h
  split at h
  · rename_i c eop
    split at h
    · rename_i fo ec
      split at h
      · rename_i f caps ar e1 e2
        split at h
        · rename_i e5
          obtain ⟨ct,pre,ef,e4,e6⟩:=jfq h;obtain ⟨cs,g1,g2⟩:=jay hs e1;obtain ⟨k1,k2⟩:=ct.ok hf hb (jos (jm9 hs e2) (jlp g2 e5)) e4 (jbg hf e6);subst ef;unfold Oper.wp execOp
          have hrun:(do let d ← resolve a.eval c o.type;invoke d.target d.args:Sem Next).run P w=.ok (.enter ct.f (c.args.toList.map a.eval ++ cs).toArray) w:=by
            simp only [Sem.run_bind,resolve,ec,Deferred.ofValue,g1,Sem.run_pure,Result.andThen_ok,invoke]
            have:(#[] ++ c.args.map a.eval ++ cs.toArray)=(c.args.toList.map a.eval ++ cs).toArray:=by
              apply Array.ext';simp
            rw [this];exact ct.ent _ _
          rw [eop];simp only [hrun,Oper.upon_enter];refine Calls.mono k2 ?_;rintro e w' ⟨hb',u,rfl,hu⟩;exact hk k1 u w' hb' hu
        · cases h
      · cases h
    · rename_i r s ec
      split at h
      · rename_i t l ar e1 e2
        obtain ⟨ct,pre,em,e4,e6⟩:=jee h;have g1:a.eval r=(Kc.ifc t l).val:=List.head_eq_of_cons_eq (jay hs e1);have ha:hasA F ρ β w (.one (.ag (l.map fun z=>.i .i64 (.n z)))::ar) (Value.agg (l.map (Value.int .i64)).toArray::c.args.toList.map a.eval):=⟨_,_,rfl,⟨_,rfl,jlq l⟩,jm9 hs e2⟩;obtain ⟨k1,k2⟩:=ct.ok hf hb ha e4 (jbg hf e6);unfold Oper.wp execOp
        have hrun:(do let d ← resolve a.eval c o.type;invoke d.target d.args:Sem Next).run P w=.ok (.enter ct.f (Value.agg (l.map (Value.int .i64)).toArray::c.args.toList.map a.eval).toArray) w:=by
          simp only [Sem.run_bind,resolve,ec,g1,Sem.run_pure,Result.andThen_ok];obtain ⟨h1,h2⟩:=ext1 (Kc.ifc t l).val (c.args.map a.eval)
          have h3:#[Value.agg (l.map (Value.int .i64)).toArray] ++ c.args.map a.eval=(Value.agg (l.map (Value.int .i64)).toArray::c.args.toList.map a.eval).toArray:=by
            apply Array.ext';simp
          have h4:=ct.mok em w (c.args.map a.eval);rw [h3] at h4;unfold invoke;simp only [h1,h2];exact h4
        rw [eop];simp only [hrun,Oper.upon_enter];refine Calls.mono k2 ?_;rintro e w' ⟨hb',u,rfl,hu⟩;exact hk k1 u w' hb' hu
      · cases h
    · cases h
  · rename_i op t x' y' yt eop
    split at h
    · rename_i k a' k' b' e1 e2
      split at h
      · rename_i hkk
        split at h
        · rename_i pre x1 post' e3
          split at h
          · rename_i e5
            cases h
            obtain ⟨k1,k2⟩:=jor (β:=β) (w:=w) hf e3 (jbg hf e5);obtain ⟨v,g1,g2⟩:=k2 t x' y';have h1:a.eval x'=.int k (a'.den F ρ):=List.head_eq_of_cons_eq (jay hs e1);have h2:a.eval y'=.int k' (b'.den F ρ):=List.head_eq_of_cons_eq (jay hs e2)
            have g3:((do eqGuard op t x' y' (.int k (a'.den F ρ)) (.int k' (b'.den F ρ));binOp op t (.int k (a'.den F ρ)) (.int k' (b'.den F ρ))):Sem Value).run P w=.ok v w:=by
              rcases hkk with rfl | hsh
              · exact g1
              · rw [jzz hsh];exact g1
            unfold Oper.wp execOp;rw [eop];simp only [h1,h2];simp only [Sem.run_bind] at g3 ⊢;rw [g3];simp only [Result.andThen_ok,Sem.run_pure,Oper.upon_value];exact hk k1 v w (Below.refl _ _) g2
          · cases h
        · cases h
      · cases h
    · cases h
  · cases h
end
end V
namespace V
def del:Nat→List (Nat×A)→List (Nat×A)
  | _,[]=>[]
  | d,(i,a)::l=>if Nat.beq i d then del d l else (i,a)::del d l
def delB:Nat→List Bx→List Bx
  | _,[]=>[]
  | d,b::l=>if Nat.beq b.id d then delB d l else b::delB d l
theorem jgb {d t:Nat}:∀{l:List (Nat×A)} {x:A},get (del d l) t=some x→get l t=some x∧t≠d
  | [],_,h=>by cases h
  | (i,a)::l,x,h=>by
    simp only [del] at h
    split at h
    · rename_i e
      obtain ⟨h1,h2⟩:=jgb h;refine ⟨?_,h2⟩;simp only [get];rw [if_neg]
      · exact h1
      · intro e2
        exact h2 ((Nat.eq_of_beq_eq_true e2).symm.trans (Nat.eq_of_beq_eq_true e))
    · rename_i e
      simp only [get] at h ⊢
      split at h
      · rename_i e2
        rw [if_pos e2];refine ⟨h,fun e3=>e ?_⟩;rw [←e3];exact e2
      · rename_i e2
        rw [if_neg e2];exact jgb h
theorem jds {d t:Nat}:∀{l:List Bx} {x:Bx},getB (delB d l) t=some x→getB l t=some x∧t≠d
  | [],_,h=>by cases h
  | b::l,x,h=>by
    simp only [delB] at h
    split at h
    · rename_i e
      obtain ⟨h1,h2⟩:=jds h;refine ⟨?_,h2⟩;simp only [getB];rw [if_neg]
      · exact h1
      · intro e2
        exact h2 ((Nat.eq_of_beq_eq_true e2).symm.trans (Nat.eq_of_beq_eq_true e))
    · rename_i e
      simp only [getB] at h ⊢
      split at h
      · rename_i e2
        rw [if_pos e2];refine ⟨h,fun e3=>e ?_⟩;rw [←e3];exact e2
      · rename_i e2
        rw [if_neg e2];exact jds h
def X.mp (d:Nat):X→Bool
  | .p q _=>Nat.beq q d
  | _=>false
def V1.mp (d:Nat):V1→Bool
  | .sc x=>x.mp d
  | .ag xs=>xs.any (X.mp d)
  | .fn _ xs=>xs.any (X.mp d)
def A.mp (d:Nat):A→Bool
  | .one a=>a.mp d
  | .tup l=>l.any (V1.mp d)
  | .und=>false
def upd (β:Nat→Nat) (d g:Nat):Nat→Nat:=fun i=>if i=d then g else β i
section
variable {F:Nat→List Int→Int} {ρ:Nat→Int} {β:Nat→Nat} {P:Program} {w:World} {d g:Nat}
theorem X.upd {x:X} {cs:List Value} (h:x.has F ρ β w cs) (k:x.mp d=false):x.has F ρ (upd β d g) w cs:=by
  cases x with
  | p b o=>
    have k':Nat.beq b d=false:=k;have:b≠d:=fun e=>by subst e;simp at k'
    show cs=_
    unfold V.upd;rw [if_neg this];exact h
  | _=>exact h
theorem hasL.upd:∀{xs:List X} {cs:List Value},hasL F ρ β w xs cs→xs.any (X.mp d)=false→hasL F ρ (V.upd β d g) w xs cs
  | [],_,h,_=>h
  | _::_,_,⟨c,e,h1,h2,h3⟩,k=>by
    simp only [List.any_cons,Bool.or_eq_false_iff] at k;exact ⟨c,e,h1,X.upd h2 k.1,hasL.upd h3 k.2⟩
theorem V1.upd {a:V1} {v:Value} (h:a.has F ρ β w v) (k:a.mp d=false):a.has F ρ (V.upd β d g) w v:=by
  cases a with
  | sc x=>exact X.upd h k
  | ag xs=>obtain ⟨cs,h1,h2⟩:=h;exact ⟨cs,h1,hasL.upd h2 k⟩
  | fn f xs=>obtain ⟨cs,h1,h2⟩:=h;exact ⟨cs,h1,hasL.upd h2 k⟩
theorem hasV.upd:∀{l:List V1} {vs:List Value},hasV F ρ β w l vs→l.any (V1.mp d)=false→hasV F ρ (V.upd β d g) w l vs
  | [],_,h,_=>h
  | _::_,_,⟨v,r,h1,h2,h3⟩,k=>by
    simp only [List.any_cons,Bool.or_eq_false_iff] at k;exact ⟨v,r,h1,V1.upd h2 k.1,hasV.upd h3 k.2⟩
theorem A.upd {a:A} {v:Value} (h:a.has F ρ β w v) (k:a.mp d=false):a.has F ρ (V.upd β d g) w v:=by
  cases a with
  | one a=>exact V1.upd h k
  | tup l=>obtain ⟨vs,h1,h2⟩:=h;exact ⟨vs,h1,hasV.upd h2 k⟩
  | und=>exact h
end
structure SH (F:Nat→List Int→Int) (ρ:Nat→Int) (β:Nat→Nat) (w0:World) (n:Nat) (st:St) (a:Act) (w:World):Prop where
  sl:slOK F ρ β w a st.sl
  bx:bxOK F ρ β w st.bx
  base:∀i b,getB st.bx i=some b→b.ro=false→w0.heap.size≤β i
  fs:allT F ρ st.fs
  low:Below w0.heap.size w0 w
  df:a.defers=[]
  sz:a.tmps.size=n
  lt:∀d x,get st.sl d=some x→d<n
theorem jaa {F:Nat→List Int→Int} {ρ:Nat→Int}:∀{l m:List T},allT F ρ l→allT F ρ m→allT F ρ (l ++ m)
  | [],_,_,k=>k
  | _::_,_,h,k=>⟨h.1,jaa h.2 k⟩
section
variable {F:Nat→List Int→Int} {ρ:Nat→Int} {β:Nat→Nat} {P:Program} {w w' w0:World} {n:Nat} {st:St} {a:Act}
theorem jgc (a:Act) (d t:Nat) (u:Value) (hd:d<a.tmps.size):(a.put (some d) u).tmps.getD t undef=if t=d then u else a.tmps.getD t undef:=by
  simp only [Act.put,Array.getD_eq_getD_getElem?,Array.getElem?_setIfInBounds]
  by_cases h:d=t
  · subst h;simp [hd]
  · rw [if_neg h,if_neg (fun e=>h e.symm)]
theorem slOK.ext {sl:List (Nat×A)} (h:slOK F ρ β w a sl) (he:Ext w w'):slOK F ρ β w' a sl:=fun t x hx=>A.ext (h t x hx) he
theorem slOK.sub {sl:List (Nat×A)} (h:slOK F ρ β w a sl) (d:Nat):slOK F ρ β w a (V.del d sl):=fun t x hx=>h t x (jgb hx).1
theorem slOK.put {sl:List (Nat×A)} {d:Nat} (h:slOK F ρ β w a (V.del d sl)) {x:A} {u:Value} (hx:x.has F ρ β w u) (hd:d<a.tmps.size):slOK F ρ β w (a.put (some d) u) ((d,x)::V.del d sl):=by
  intro t y hy;rw [jgc a d t u hd];simp only [get] at hy
  split at hy
  · rename_i e
    cases hy
    rw [if_pos (Nat.eq_of_beq_eq_true e).symm];exact hx
  · rw [if_neg (jgb hy).2]
    exact h t y hy
theorem slOK.del {sl:List (Nat×A)} (h:slOK F ρ β w a sl) {d:Nat} {u:Value} (hd:d<a.tmps.size):slOK F ρ β w (a.put (some d) u) (V.del d sl):=by
  intro t y hy;rw [jgc a d t u hd];obtain ⟨h1,h2⟩:=jgb hy;rw [if_neg h2];exact h t y h1
theorem bxOK.below {bx:List Bx} (h:bxOK F ρ β w bx) (hb:Below w.heap.size w w'):bxOK F ρ β w' bx:=
  ⟨fun i b hi=>by
    obtain ⟨cs,h1,h2,h3⟩:=h.at_ i b hi;exact ⟨cs,h1.below hb h1.lt,h2,h3.ext (jau hb)⟩,h.ne⟩
theorem jfr (a:Act) (d:Option Nat) (u:Value):(a.put d u).tmps.size=a.tmps.size:=by
  cases d <;> simp [Act.put]
theorem jda (a:Act) (d:Option Nat) (u:Value):(a.put d u).defers=a.defers:=by
  cases d <;> rfl
theorem js9 {sl:List (Nat×A)} {n d:Nat} {x:A} (h:∀d x,get sl d=some x→d<n) (hd:d<n):∀i y,get ((d,x)::V.del d sl) i=some y→i<n:=by
  intro i y hi;simp only [get] at hi
  split at hi
  · rename_i e;rw [←Nat.eq_of_beq_eq_true e];exact hd
  · exact h i y (jgb hi).1
theorem SH.val (h:SH F ρ β w0 n st a w) {d:Nat} {x:A} {u:Value} {post:List T} (hb:Below w.heap.size w w') (hx:x.has F ρ β w' u) (hd:d<n) (hp:allT F ρ post) :
    SH F ρ β w0 n { st with sl:=(d,x)::V.del d st.sl,fs:=post ++ st.fs } (a.put (some d) u) w':=
  ⟨((h.sl.ext (jau hb)).sub d).put hx (by rw [h.sz];exact hd),h.bx.below hb,h.base,jaa hp h.fs,h.low.trans (hb.mono h.low.size),by rw [jda];exact h.df,by rw [jfr];exact h.sz,js9 h.lt hd⟩
def fresh (d:Nat) (st:St):Bool:=(del d st.sl).all (fun p=>!(p.2.mp d)) && (delB d st.bx).all (fun b=>!(b.xs.any (X.mp d)))
theorem jvp {d:Nat} (h:(del d st.sl).all (fun p=>!(p.2.mp d))=true):∀t x,get (del d st.sl) t=some x→x.mp d=false:=by
  generalize del d st.sl=l at *
  intro t x hx
  induction l with
  | nil=>cases hx
  | cons p l ih=>
    simp only [List.all_cons,Bool.and_eq_true,Bool.not_eq_true'] at h;simp only [get] at hx
    split at hx
    · cases hx;exact h.1
    · exact ih h.2 hx
theorem jvq {d:Nat} (h:(delB d st.bx).all (fun b=>!(b.xs.any (X.mp d)))=true):∀t x,getB (delB d st.bx) t=some x→x.xs.any (X.mp d)=false:=by
  generalize delB d st.bx=l at *
  intro t x hx
  induction l with
  | nil=>cases hx
  | cons p l ih=>
    simp only [List.all_cons,Bool.and_eq_true,Bool.not_eq_true'] at h;simp only [getB] at hx
    split at hx
    · cases hx;exact h.1
    · exact ih h.2 hx
def X.noU:X→Bool
  | .i .u64 _=>false
  | _=>true
theorem jta:∀{xs:List X} {cs:List Value},hasL F ρ β w xs cs→xs.all X.noU=true→∀v∈cs,∀x:Int,v≠.int .u64 x
  | [],_,h,_=>by rw [show _=[] from h];intro v hv;cases hv
  | y::ys,_,⟨c,d,h1,h2,h3⟩,k=>by
    simp only [List.all_cons,Bool.and_eq_true] at k;intro v hv x hvx;rw [h1] at hv
    rcases List.mem_append.1 hv with hv | hv
    · cases y with
      | i kk t=>
        rw [show c=_ from h2] at hv;simp at hv;subst hv
        cases hvx
        cases k.1
      | b t=>rw [show c=_ from h2] at hv;simp at hv;subst hv;cases hvx
      | z kk cn t=>
        obtain ⟨nn,A',l,cc,e,-⟩:=h2;rw [e] at hv;simp at hv
        rcases hv with rfl | rfl <;> cases hvx
      | p b o=>rw [show c=_ from h2] at hv;simp at hv;subst hv;cases hvx
      | s0=>rw [show c=_ from h2] at hv;simp at hv;subst hv;cases hvx
      | cst q=>rw [show c=_ from h2] at hv;simp at hv;subst hv;cases q <;> cases hvx
    · exact jta h3 k.2 v hv x hvx
theorem jtb {cs:List Value} (h:∀v∈cs,∀x:Int,v≠.int .u64 x):NoU cs.toArray:=by
  intro i x hx;rw [List.getElem?_toArray] at hx;exact h _ (List.mem_of_getElem? hx) x rfl
theorem jtc:∀{xs:List X} {cs:List Value},hasL F ρ β w xs cs→∀v∈cs,v.oneCell'=true
  | [],_,h=>by rw [show _=[] from h];intro v hv;cases hv
  | y::ys,_,⟨c,d,h1,h2,h3⟩=>by
    intro v hv;rw [h1] at hv
    rcases List.mem_append.1 hv with hv | hv
    · cases y with
      | z kk cn t=>
        obtain ⟨nn,A',l,cc,e,-⟩:=h2;rw [e] at hv;simp at hv
        rcases hv with rfl | rfl <;> rfl
      | cst q=>rw [show c=_ from h2] at hv;simp at hv;subst hv;cases q <;> rfl
      | _=>rw [show c=_ from h2] at hv;simp at hv;subst hv;rfl
    · exact jtc h3 v hv
theorem SH.newBox (h:SH F ρ β w0 n st a w) {d:Nat} {T:TypeId} {xs:List X} {cs:List Value} (hx:hasL F ρ β w xs cs) (hd:d<n) (hf:fresh d st=true) (hm:xs.any (X.mp d)=false) :
    SH F ρ (V.upd β d w.heap.size) w0 n { st with sl:=(d,.one (.sc (.p d 0)))::V.del d st.sl,bx:=⟨d,T,xs,false⟩::delB d st.bx } (a.put (some d) (.pointer (some ⟨w.heap.size,0,none⟩))) (w.alloc (.cells cs.toArray T)):=by
  have hb:Below w.heap.size w (w.alloc (.cells cs.toArray T)):=(Below.refl _ _).alloc (Nat.le_refl _) _;unfold fresh at hf;rw [Bool.and_eq_true] at hf;have f1:=jvp hf.1;have f2:=jvq hf.2;refine ⟨?_,⟨?_,?_⟩,?_,h.fs,h.low.trans (hb.mono h.low.size),by rw [jda];exact h.df,by rw [jfr];exact h.sz,js9 h.lt hd⟩
  · refine slOK.put ?_ ?_ (by rw [h.sz];exact hd)
    · exact fun t y hy=>A.upd (A.ext (h.sl.sub d t y hy) (jau hb)) (f1 t y hy)
    · show [_]=[_]
      unfold V.upd;rw [if_pos rfl]
  · intro i b hi
    simp only [getB] at hi
    split at hi
    · rename_i e
      cases hi
      have e':d=i:=Nat.eq_of_beq_eq_true e;subst e';refine ⟨cs,?_,trivial,hasL.upd (hx.ext (jau hb)) hm⟩;unfold V.upd;rw [if_pos rfl];exact Blk.new w _ _
    · obtain ⟨g1,g2⟩:=jds hi
      obtain ⟨cs',k1,k2,k3⟩:=h.bx.at_ i b g1;refine ⟨cs',?_,k2,hasL.upd (k3.ext (jau hb)) (f2 i b hi)⟩;unfold V.upd;rw [if_neg g2];exact k1.below hb k1.lt
  · intro i j b c hi hj hij
    simp only [getB] at hi hj;unfold V.upd
    split at hi
    · rename_i e
      have e':d=i:=Nat.eq_of_beq_eq_true e;subst e'
      split at hj
      · rename_i e2
        exact absurd (Nat.eq_of_beq_eq_true e2) hij
      · obtain ⟨g1,g2⟩:=jds hj
        rw [if_pos rfl,if_neg g2];obtain ⟨cs',k1,-⟩:=h.bx.at_ j c g1;exact Nat.ne_of_gt k1.lt
    · obtain ⟨g1,g2⟩:=jds hi
      rw [if_neg g2];obtain ⟨cs',k1,-⟩:=h.bx.at_ i b g1
      split at hj
      · rename_i e2
        have e':d=j:=Nat.eq_of_beq_eq_true e2;subst e';rw [if_pos rfl];exact Nat.ne_of_lt k1.lt
      · obtain ⟨g3,g4⟩:=jds hj
        rw [if_neg g4];exact h.bx.ne i j b c g1 g3 hij
  · intro i b hi hro
    simp only [getB] at hi;unfold V.upd
    split at hi
    · rename_i e
      rw [if_pos (Nat.eq_of_beq_eq_true e).symm];exact h.low.size
    · obtain ⟨g1,g2⟩:=jds hi
      rw [if_neg g2];exact h.base i b g1 hro
def putX (xs ys:List X) (off:Nat):Option (List X):=match takeW xs off,dropW xs (off+widths ys) with
  | some l,some r=>some (l ++ ys ++ r)
  | _,_=>none
def updB:List Bx→Nat→List X→List Bx
  | [],_,_=>[]
  | b::l,i,ys=>if Nat.beq b.id i then { b with xs:=ys }::l else b::updB l i ys
theorem jgt {i j:Nat} {ys:List X}:∀{l:List Bx} {b:Bx},getB (updB l i ys) j=some b→(j=i∧∃c,getB l i=some c∧b={ c with xs:=ys })∨(j≠i∧getB l j=some b)
  | [],_,h=>by cases h
  | c::l,b,h=>by
    simp only [updB] at h
    split at h
    · rename_i e
      simp only [getB] at h ⊢;have e':=Nat.eq_of_beq_eq_true e
      split at h
      · rename_i e2
        have e2':c.id=j:=Nat.eq_of_beq_eq_true e2
        cases h
        exact .inl ⟨e2'.symm.trans e',c,by rw [if_pos e],rfl⟩
      · rename_i e2
        refine .inr ⟨fun e3=>e2 ?_,by rw [if_neg e2];exact h⟩
        show Nat.beq c.id j=true
        rw [e3];exact e
    · rename_i e
      simp only [getB] at h ⊢
      split at h
      · rename_i e2
        cases h
        refine .inr ⟨fun e3=>e ?_,by rw [if_pos e2]⟩;rw [←e3];exact e2
      · rename_i e2
        rcases jgt h with ⟨h1,c',h2,h3⟩ | ⟨h1,h2⟩
        · exact .inl ⟨h1,c',by rw [if_neg e];exact h2,h3⟩
        · exact .inr ⟨h1,by rw [if_neg e2];exact h2⟩
theorem jef (g:Nat):∀(ds:List Value) (o:Nat) (w:World),Far g w (w.setCells g o ds)
  | [],o,w=>⟨rfl,rfl,rfl,rfl,fun _ _=>rfl⟩
  | v::r,o,w=>(Far.set w g o v).trans (jef g r (o+1) _)
theorem jeg {g:Nat} {t:TypeId}:∀(ds:List Value) (o:Nat) (w:World) (cs:List Value),Blk w g t cs.toArray→o+ds.length≤cs.length→Blk (w.setCells g o ds) g t (cs.take o ++ ds ++ cs.drop (o+ds.length)).toArray
  | [],o,w,cs,h,k=>by simpa [World.setCells] using h
  | v::r,o,w,cs,h,k=>by
    simp only [List.length_cons] at k
    have h1:Blk (w.setCell ⟨g,o,none⟩ v) g t (cs.set o v).toArray:=by
      have:=h.set_ o v
      simpa using this
    have h2:=jeg r (o+1) _ (cs.set o v) h1 (by rw [List.length_set];omega)
    have e:(cs.set o v).take (o+1) ++ r ++ (cs.set o v).drop (o+1+r.length)=cs.take o ++ v::r ++ cs.drop (o+(r.length+1)):=by
      rw [List.drop_set,if_pos (by omega),List.take_succ_eq_append_getElem (by rw [List.length_set];omega),List.take_set_of_le (by omega)];simp [Nat.add_comm,Nat.add_left_comm]
    rw [e] at h2;exact h2
theorem jc6 {B g:Nat} {w0:World} (hg:B≤g):∀(ds:List Value) (o:Nat) (w:World),Below B w0 w→Below B w0 (w.setCells g o ds)
  | [],_,_,h=>h
  | v::r,o,w,h=>jc6 hg r (o+1) _ (h.setCell (p:=⟨g,o,none⟩) hg v)
theorem jtd {g:Nat} {t:TypeId} {cs:Array Value} (hf:Far g w w') (hb:Blk w g t cs) (hn:NoU cs):Ext w w':=
  ⟨Nat.le_of_eq hf.size.symm,fun b hb'=>by
    by_cases e:b=g
    · subst e;exact .inr ⟨cs,t,hb,hn⟩
    · exact .inl (hf.block b e)⟩
theorem jna {xs ys zs:List X} {off:Nat} {cs ds:List Value} (h:hasL F ρ β w xs cs) (k:hasL F ρ β w ys ds) (e:putX xs ys off=some zs):hasL F ρ β w zs (cs.take off ++ ds ++ cs.drop (off+ds.length))∧off+ds.length≤cs.length:=by
  unfold putX at e
  split at e
  · rename_i l r e1 e2
    cases e
    have hl:=hasL.len k;rw [←hl] at e2;exact ⟨hasL.app (hasL.app (jj3 h e1).1 k) (jgs h e2),jhz h e2⟩
  · cases e
theorem jnb {t:Nat} {x:A}:∀{l:List (Nat×A)},get l t=some x→(t,x)∈l
  | [],h=>by cases h
  | (i,a)::l,h=>by
    simp only [get] at h
    split at h
    · rename_i e
      cases h
      rw [Nat.eq_of_beq_eq_true e];exact List.mem_cons_self
    · exact List.mem_cons_of_mem _ (jnb h)
theorem jfs {t:Nat} {x:Bx}:∀{l:List Bx},getB l t=some x→x∈l∧x.id=t
  | [],h=>by cases h
  | b::l,h=>by
    simp only [getB] at h
    split at h
    · rename_i e
      cases h
      exact ⟨List.mem_cons_self,Nat.eq_of_beq_eq_true e⟩
    · obtain ⟨h1,h2⟩:=jfs h
      exact ⟨List.mem_cons_of_mem _ h1,h2⟩
def X.noZ:X→Bool
  | .z _ _ _=>false
  | _=>true
def V1.noZ:V1→Bool
  | .sc x=>x.noZ
  | .ag xs=>xs.all X.noZ
  | .fn _ xs=>xs.all X.noZ
def A.noZ:A→Bool
  | .one a=>a.noZ
  | .tup l=>l.all V1.noZ
  | .und=>true
def St.noZ (st:St):Bool:=st.sl.all (fun p=>p.2.noZ) && st.bx.all (fun b=>b.xs.all X.noZ)
theorem X.noZ_ok {x:X} {cs:List Value} (h:x.noZ=true) (k:x.has F ρ β w cs):x.has F ρ β w' cs:=by
  cases x <;> first | exact k | (cases h;done)
theorem jft:∀{xs:List X} {cs:List Value},xs.all X.noZ=true→hasL F ρ β w xs cs→hasL F ρ β w' xs cs
  | [],_,_,k=>k
  | _::_,_,h,⟨c,d,h1,h2,h3⟩=>by
    simp only [List.all_cons,Bool.and_eq_true] at h;exact ⟨c,d,h1,X.noZ_ok h.1 h2,jft h.2 h3⟩
theorem V1.noZ_ok {x:V1} {v:Value} (h:x.noZ=true) (k:x.has F ρ β w v):x.has F ρ β w' v:=by
  cases x with
  | sc x=>exact X.noZ_ok h k
  | ag xs=>obtain ⟨cs,h1,h2⟩:=k;exact ⟨cs,h1,jft h h2⟩
  | fn f xs=>obtain ⟨cs,h1,h2⟩:=k;exact ⟨cs,h1,jft h h2⟩
theorem jot:∀{xs:List V1} {vs:List Value},xs.all V1.noZ=true→hasV F ρ β w xs vs→hasV F ρ β w' xs vs
  | [],_,_,k=>k
  | _::_,_,h,⟨c,d,h1,h2,h3⟩=>by
    simp only [List.all_cons,Bool.and_eq_true] at h;exact ⟨c,d,h1,V1.noZ_ok h.1 h2,jot h.2 h3⟩
theorem A.noZ_ok {x:A} {v:Value} (h:x.noZ=true) (k:x.has F ρ β w v):x.has F ρ β w' v:=by
  cases x with
  | one x=>exact V1.noZ_ok h k
  | tup l=>obtain ⟨vs,h1,h2⟩:=k;exact ⟨vs,h1,jot h h2⟩
  | und=>exact k
theorem SH.stored (h:SH F ρ β w0 n st a w) {i off:Nat} {b:Bx} {ys zs:List X} {ds:List Value} (hi:getB st.bx i=some b) (hro:b.ro=false) (hy:hasL F ρ β w ys ds) (hz:putX b.xs ys off=some zs) (hu:((ys ++ b.xs).all X.noU || (st.noZ && zs.all X.noZ))=true) :
    SH F ρ β w0 n { st with bx:=updB st.bx i zs } (a.put none undef) (w.setCells (β i) off ds)∧w.there (β i) off ds.length:=by
  obtain ⟨cs,k1,k2,k3⟩:=h.bx.at_ i b hi;obtain ⟨m1,m2⟩:=jna k3 hy hz;have hfar:=jef (β i) ds off w
  have kk:slOK F ρ β (w.setCells (β i) off ds) a st.sl∧(∀j c,getB st.bx j=some c→∀cs',hasL F ρ β w c.xs cs'→hasL F ρ β (w.setCells (β i) off ds) c.xs cs')∧∀cs',hasL F ρ β w zs cs'→hasL F ρ β (w.setCells (β i) off ds) zs cs':=by
    rw [Bool.or_eq_true] at hu
    rcases hu with hu | hu
    · rw [List.all_append,Bool.and_eq_true] at hu
      have hext:=jtd hfar k1 (jtb (jta k3 hu.2));exact ⟨h.sl.ext hext,fun j c _ cs' q=>q.ext hext,fun cs' q=>q.ext hext⟩
    · unfold St.noZ at hu
      rw [Bool.and_eq_true,Bool.and_eq_true] at hu;refine ⟨fun t x hx=>A.noZ_ok (List.all_eq_true.1 hu.1.1 _ (jnb hx)) (h.sl t x hx),fun j c hj cs' q=>jft (List.all_eq_true.1 hu.1.2 _ (jfs hj).1) q,fun cs' q=>jft hu.2 q⟩
  obtain ⟨t1,t2,t3⟩:=kk;refine ⟨⟨t1,⟨?_,?_⟩,?_,h.fs,jc6 (h.base i b hi hro) ds off w h.low,h.df,h.sz,h.lt⟩,fun j hj=>?_⟩
  · intro j c hj
    rcases jgt hj with ⟨rfl,c',g1,rfl⟩ | ⟨hne,g1⟩
    · rw [hi] at g1
      cases g1
      exact ⟨_,jeg ds off w cs k1 m2,trivial,t3 _ m1⟩
    · obtain ⟨cs',g2,g3,g4⟩:=h.bx.at_ j c g1
      exact ⟨cs',(hfar.block _ (h.bx.ne j i c b g1 hi hne)).trans g2,g3,t2 j c g1 _ g4⟩
  · intro j j' c c' hj hj' hne
    have get':∀{q:Nat} {e:Bx},getB (updB st.bx i zs) q=some e→∃e',getB st.bx q=some e':=fun hq=>by
      rcases jgt hq with ⟨rfl,c',g1,-⟩ | ⟨-,g1⟩
      · exact ⟨_,g1⟩
      · exact ⟨_,g1⟩
    obtain ⟨e1,g1⟩:=get' hj;obtain ⟨e2,g2⟩:=get' hj';exact h.bx.ne j j' e1 e2 g1 g2 hne
  · intro j c hj hr
    rcases jgt hj with ⟨rfl,c',g1,rfl⟩ | ⟨-,g1⟩
    · exact h.base j c' g1 hr
    · exact h.base j c g1 hr
  · refine ⟨?_,k1.frozen _⟩
    rw [k1.cell];simp only [List.getElem?_toArray];rw [List.getElem?_eq_getElem (by omega)]
    rfl
end
end V
end
end
section
section
open Go.RowKit Go.Shelf
namespace V
def cellsX:V1→Option (List X)
  | .sc x=>if Nat.beq x.w 1 then some [x] else none
  | .ag xs=>some xs
  | .fn _ _=>none
def zeroX (P:Program) (t:TypeId):Option V1:=match P.info? t with
  | some i=>match i.zero with
    | some z=>constA z
    | none=>none
  | none=>none
def isB:Value→Bool
  | .bool _=>true
  | _=>false
inductive Yl where
  | yes
  | no
  | split (t:T)
  | bad
def wantG (ops:Array Oper) (st:St) (o:Oper):Yl:=match o.guard with
  | none=>.yes
  | some (g,want)=>match (ops[g]?).bind (·.dst) with
    | none=>.no
    | some d=>match get st.sl d with
      | some (.one (.sc (.b c)))=>match known2 st.fs c with
        | some r=>if r == want then .yes else .no
        | none=>.split (splT st.fs c)
      | some .und=>.no
      | _=>.bad
def wantX (ops:Array Oper) (st:St) (o:Oper):Yl:=match wantG ops st o with
  | .yes=>match needX st o.op with
    | some t=>.split t
    | none=>.yes
  | y=>y
theorem jz0 {ops:Array Oper} {st:St} {o:Oper} (h:wantX ops st o=.yes):wantG ops st o=.yes:=by
  unfold wantX at h
  split at h
  · rename_i e;exact e
  · rename_i y _;exact h
theorem jz1 {ops:Array Oper} {st:St} {o:Oper} (h:wantX ops st o=.no):wantG ops st o=.no:=by
  unfold wantX at h
  split at h
  · split at h <;> cases h
  · exact h
def setV (st:St) (d:Nat) (x:A) (post:List T):St:={ st with sl:=(d,x)::del d st.sl,fs:=post ++ st.fs }
def mkBox (st:St) (d:Nat) (T:TypeId) (xs:List X) (n:Nat):Option St:=
  if decide (d<n) && fresh d st && !(xs.any (X.mp d)) then some { st with sl:=(d,.one (.sc (.p d 0)))::del d st.sl,bx:=⟨d,T,xs,false⟩::delB d st.bx } else none
def placesX (P:Program):List Field→Option (List (Nat×Nat))
  | []=>some []
  | f::r=>match sizeN P f.type,placesX P r with
    | some k,some l=>some ((f.offset,k)::l)
    | _,_=>none
def fillX (st:St) (pl:List (Nat×Nat)):List (Nat×Operand)→List X→Option (List X)
  | [],xs=>some xs
  | (i,o)::r,xs=>match pl[i]?,evO st o with
    | some (off,k),some (.one v)=>match cellsX v with
      | some ys=>if Nat.beq (widths ys) k then (match putX xs ys off with
        | some zs=>fillX st pl r zs
        | none=>none) else none
      | none=>none
    | _,_=>none
def buildX (P:Program) (st:St) (t:TypeId) (parts:List (Nat×Operand)):Option A:=match P.underlying t with
  | some (.struct fs)=>match zeroX P t,placesX P fs.toList with
    | some v,some pl=>match cellsX v with
      | some xs=>(fillX st pl parts xs).map (fun zs=>A.one (.ag zs))
      | none=>none
    | _,_=>none
  | _=>none
def pureX2 (P:Program) (st:St) (op:Op):Option A:=match pureX P st op with
  | some x=>some x
  | none=>match op with
    | .build t parts=>buildX P st t parts.toList
    | _=>none
def step1 {P:Program} {F:Nat→List Int→Int} (tab:List (Ctr P F)) (n:Nat) (st:St) (o:Oper):Option St:=
  match pureX2 P st o.op,o.dst with
  | some x,some d=>if d<n then some (setV st d x []) else none
  | some _,none=>none
  | none,dst=>match o.op,dst with
    | .alloc T,some d=>match zeroX P T with
      | some v=>match cellsX v with
        | some xs=>mkBox st d T xs n
        | none=>none
      | none=>none
    | .box T x,some d=>match evO st x with
      | some (.one v)=>match cellsX v with
        | some xs=>mkBox st d T xs n
        | none=>none
      | _=>none
    | .store T x y,none=>match evO st x,evO st y with
      | some (.one (.sc (.p i off))),some (.one v)=>match getB st.bx i,cellsX v with
        | some b,some ys=>match putX b.xs ys off,sizeN P T with
          | some zs,some m=>if !b.ro && Nat.beq (widths ys) m && ((ys ++ b.xs).all X.noU || (st.noZ && zs.all X.noZ)) then some { st with bx:=updB st.bx i zs } else none
          | _,_=>none
        | _,_=>none
      | _,_=>none
    | op,some d=>match callX tab st op with
      | some (x,post)=>if d<n then some (setV st d x post) else none
      | none=>none
    | _,_=>none
section
variable {F:Nat→List Int→Int} {ρ:Nat→Int} {β:Nat→Nat} {P:Program} {w w' w0:World} {n:Nat} {st:St} {a:Act}
theorem jcj {v:V1} {u:Value} {xs:List X} (h:v.has F ρ β w u) (k:cellsX v=some xs):∃cs,u.cells=cs.toArray∧hasL F ρ β w xs cs:=by
  cases v with
  | sc x=>
    simp only [cellsX] at k
    split at k
    · cases k
      refine ⟨[u],?_,[u],[],rfl,h,rfl⟩
      cases x with
      | i kk t=>rw [List.head_eq_of_cons_eq h];rfl
      | b t=>rw [List.head_eq_of_cons_eq h];rfl
      | p b o=>rw [List.head_eq_of_cons_eq h];rfl
      | s0=>rw [List.head_eq_of_cons_eq h];rfl
      | cst c=>rw [List.head_eq_of_cons_eq h];cases c <;> rfl
      | z kk cn t=>rename_i e;cases e
    · cases k
  | ag ys=>
    cases k
    obtain ⟨cs,h1,h2⟩:=h;exact ⟨cs,by rw [h1];rfl,h2⟩
  | fn f c=>cases k
theorem jj4 {t:TypeId} {v:V1} (h:zeroX P t=some v):∃z,(zeroValue t).run P w=.ok z w∧v.has F ρ β w z:=by
  unfold zeroX at h
  split at h
  · rename_i i e1
    split at h
    · rename_i z e2
      exact ⟨z,by simp [zeroValue,typeInfo,e1,e2],jln h⟩
    · cases h
  · cases h
theorem jlr {ops:Array Oper} {o:Oper} (hs:slOK F ρ β w a st.sl) (hf:allT F ρ st.fs) (hn:∀d,(get st.sl d).isSome=true→d<a.tmps.size) (h:wantX ops st o=.yes):Region.wanted o (yielded ops a.tmps)=true:=by
  replace h:=jz0 h;unfold wantG at h;unfold Region.wanted
  split at h
  · rename_i e;rw [e]
  · rename_i g want e
    rw [e]
    split at h
    · cases h
    · rename_i d e2
      split at h
      · rename_i c e3
        split at h
        · rename_i r e4
          split at h
          · rename_i e5
            have hv:a.tmps.getD d undef=.bool (c.bd F ρ):=List.head_eq_of_cons_eq (hs d _ e3);have hd:=hn d (by rw [e3];rfl)
            have hv2:a.tmps[d]? = some (.bool (c.bd F ρ)):=by
              rw [Array.getD_eq_getD_getElem?,Array.getElem?_eq_getElem hd] at hv;rw [Array.getElem?_eq_getElem hd];exact congrArg some hv
            simp only [yielded,e2,Option.bind_some,hv2,jar hf c r e4]
            simpa using e5
          · cases h
        · cases h
      · cases h
      · cases h
theorem jou {ops:Array Oper} {o:Oper} (hs:slOK F ρ β w a st.sl) (hf:allT F ρ st.fs) (hn:∀d,(get st.sl d).isSome=true→d<a.tmps.size) (h:wantX ops st o=.no):Region.wanted o (yielded ops a.tmps)=false:=by
  replace h:=jz1 h;unfold wantG at h;unfold Region.wanted
  split at h
  · cases h
  · rename_i g want e
    rw [e]
    split at h
    · rename_i e2
      simp [yielded,e2]
    · rename_i d e2
      split at h
      · rename_i c e3
        split at h
        · rename_i r e4
          split at h
          · cases h
          · rename_i e5
            have hv:a.tmps.getD d undef=.bool (c.bd F ρ):=List.head_eq_of_cons_eq (hs d _ e3);have hd:=hn d (by rw [e3];rfl)
            have hv2:a.tmps[d]? = some (.bool (c.bd F ρ)):=by
              rw [Array.getD_eq_getD_getElem?,Array.getElem?_eq_getElem hd] at hv;rw [Array.getElem?_eq_getElem hd];exact congrArg some hv
            simp only [yielded,e2,Option.bind_some,hv2,jar hf c r e4]
            simpa using e5
        · cases h
      · rename_i e3
        have hv:a.tmps.getD d undef=undef:=hs d _ e3;have hd:=hn d (by rw [e3];rfl)
        have hv2:a.tmps[d]? = some undef:=by
          rw [Array.getD_eq_getD_getElem?,Array.getElem?_eq_getElem hd] at hv;rw [Array.getElem?_eq_getElem hd];exact congrArg some hv
        simp only [yielded,e2,Option.bind_some,hv2]
        rfl
      · cases h
theorem ji1:∀{fs:List Field} {pl:List (Nat×Nat)},placesX P fs=some pl→(fs.mapM (fun f=>do pure (f.offset,←sizeOf f.type)):Sem (List (Nat×Nat))).run P w=.ok pl w
  | [],_,h=>by
    cases h
    rfl
  | f::r,pl,h=>by
    simp only [placesX] at h
    split at h
    · rename_i k l e1 e2
      cases h
      rw [List.mapM_cons];simp only [Sem.run_bind,jcq e1,Result.andThen_ok,Sem.run_pure,ji1 e2]
    · cases h
theorem jte:∀(ds:List Value) (n off:Nat) (cs:List Value),off+n+ds.length≤cs.length→((ds.zipIdx n).foldl (fun (c:Array Value) (p:Value×Nat)=>c.setIfInBounds (off+p.2) p.1) cs.toArray)=(cs.take (off+n) ++ ds ++ cs.drop (off+n+ds.length)).toArray
  | [],n,off,cs,h=>by simp
  | d::ds,n,off,cs,h=>by
    simp only [List.length_cons] at h;rw [List.zipIdx_cons,List.foldl_cons,List.setIfInBounds_toArray,jte ds (n+1) off (cs.set (off+n) d) (by simp;omega)]
    congr 1
    have hlt:off+n<cs.length:=by omega
    have e1:(cs.set (off+n) d).take (off+(n+1))=cs.take (off+n) ++ [d]:=by
      rw [show off+(n+1)=(off+n)+1 by omega,List.take_add_one,List.take_set_of_le (Nat.le_refl _)];simp [hlt]
    have e2:(cs.set (off+n) d).drop (off+(n+1)+ds.length)=cs.drop (off+n+(d::ds).length):=by
      rw [List.drop_set_of_lt (by omega)];simp only [List.length_cons]
      congr 1
      omega
    rw [e1,e2];simp
theorem jov {st:St} {a:Act} (hs:slOK F ρ β w a st.sl) {pl:List (Nat×Nat)} {pla:Nat→Option (Nat×Nat)} (hpl:∀i:Nat,pla i=pl[i]?):∀{parts:List (Nat×Operand)} {xs zs:List X} {cs:List Value},fillX st pl parts xs=some zs→hasL F ρ β w xs cs→
    ∃ds,Instr.fill pla cs.toArray (parts.map fun p=>(p.1,a.eval p.2))=some ds.toArray∧hasL F ρ β w zs ds
  | [],xs,zs,cs,h,hx=>by
    cases h
    exact ⟨cs,rfl,hx⟩
  | (i,o)::r,xs,zs,cs,h,hx=>by
    simp only [fillX] at h
    split at h
    · rename_i off k v e1 e2
      split at h
      · rename_i ys e3
        split at h
        · rename_i hw
          split at h
          · rename_i ms e4
            obtain ⟨us,g1,g2⟩:=jcj (jay hs e2) e3;obtain ⟨g3,g4⟩:=jna hx g2 e4;obtain ⟨ds,g5,g6⟩:=jov hs hpl h g3;have hl:=hasL.len g2;have hk:us.length=k:=hl.trans (Nat.eq_of_beq_eq_true hw);refine ⟨ds,?_,g6⟩;simp only [List.map_cons,Instr.fill,hpl,e1];rw [if_neg (by simp [g1,hk];omega),g1];have hz:=jte us 0 off cs (by omega);simp only [Nat.add_zero] at hz
            have hf:(us.toArray.zipIdx.foldl (fun (cs:Array Value) (x:Value×Nat)=>match x with | (c,j)=>cs.setIfInBounds (off+j) c) cs.toArray)=(cs.take off ++ us ++ cs.drop (off+us.length)).toArray:=by
              rw [←hz,←Array.foldl_toList];simp
            rw [hf];exact g5
          · cases h
        · cases h
      · cases h
    · cases h
theorem jtf {st:St} {a:Act} (hs:slOK F ρ β w a st.sl) {t:TypeId} {parts:Array (Nat×Operand)} {x:A} (h:buildX P st t parts.toList=some x):∃v,(Instr.build t (parts.map fun (i,x)=>(i,a.eval x))).run P w=.ok v w∧x.has F ρ β w v:=by
  unfold buildX at h
  split at h
  · rename_i fs e1
    split at h
    · rename_i v pl e2 e3
      split at h
      · rename_i xs e4
        obtain ⟨z,g1,g2⟩:=jj4 (F:=F) (ρ:=ρ) (β:=β) (w:=w) e2;obtain ⟨cs,g3,g4⟩:=jcj g2 e4
        cases hf:fillX st pl parts.toList xs with
        | none=>rw [hf] at h;cases h
        | some zs=>
          rw [hf] at h
          cases h
          obtain ⟨ds,g5,g6⟩:=jov hs (pla:=fun i=>pl.toArray[i]?) (fun i=>by simp) hf g4;refine ⟨.agg ds.toArray,?_,ds,rfl,g6⟩
          have hm:(fs.mapM (fun f=>do pure (f.offset,←sizeOf f.type)):Sem (Array (Nat×Nat))).run P w=.ok pl.toArray w:=by
            rw [Array.mapM_eq_mapM_toList];simp only [map_eq_pure_bind,Sem.run_bind,ji1 e3,Result.andThen_ok,Sem.run_pure]
          have hp:(parts.map fun (x:Nat×Operand)=>match x with | (i,x)=>(i,a.eval x)).toList=parts.toList.map fun p=>(p.1,a.eval p.2):=by simp
          unfold Instr.build;simp only [Sem.run_bind,g1,Result.andThen_ok,run_underlying e1 w,hm,g3,hp,g5,Sem.run_pure]
      · cases h
    · cases h
  · cases h
theorem jow {st:St} {a:Act} (hs:slOK F ρ β w a st.sl) (hb:bxOK F ρ β w st.bx) (hf:allT F ρ st.fs) {o:Oper} {x:A} (h:pureX2 P st o.op=some x) :
    ∃v,(execOp a.eval o).run P w=.ok (.value v) w∧x.has F ρ β w v:=by
  unfold pureX2 at h
  split at h
  · rename_i y e
    cases h
    exact jzy hs hb hf e
  · split at h
    · rename_i t parts e
      obtain ⟨v,h1,h2⟩:=jtf (P:=P) hs h;refine ⟨v,?_,h2⟩;unfold execOp;simp only [e,Sem.run_bind,h1,Result.andThen_ok,Sem.run_pure]
    · cases h
theorem jvr {tab:List (Ctr P F)} {o:Oper} {st':St} (h:SH F ρ β w0 n st a w) (e:step1 tab n st o=some st') {K:Act→World→Prop} {Q:Exit→Act→World→Prop}
    (hk:∀β' a' w',SH F ρ β' w0 n st' a' w'→K a' w'):o.wp P a w K Q:=by
  unfold step1 at e
  split at e
  · rename_i x d e1 e2
    split at e
    · rename_i hd
      cases e
      obtain ⟨v,h1,h2⟩:=jow h.sl h.bx h.fs e1;unfold Oper.wp;rw [h1,Oper.upon_value,e2];exact hk _ _ _ (h.val (Below.refl _ _) h2 hd trivial)
    · cases e
  · cases e
  · rename_i dst e1 e2
    split at e
    · -- alloc
      rename_i T d ho hdst
      split at e
      · rename_i v e3
        split at e
        · rename_i xs e4
          unfold mkBox at e
          split at e
          · rename_i hc
            simp only [Bool.and_eq_true,decide_eq_true_eq,Bool.not_eq_true'] at hc
            cases e
            obtain ⟨z,g1,g2⟩:=jj4 (F:=F) (ρ:=ρ) (β:=β) (w:=w) e3;obtain ⟨cs,g3,g4⟩:=jcj g2 e4;unfold Oper.wp execOp;simp only [ho,Instr.alloc,Sem.run_bind,g1,Result.andThen_ok,newVar,newRow,run_newObj_alloc,Sem.run_pure,Oper.upon_value,hdst,g3];exact hk _ _ _ (h.newBox g4 hc.1.1 hc.1.2 hc.2)
          · cases e
        · cases e
      · cases e
    · -- box
      rename_i T x d ho hdst
      split at e
      · rename_i v e3
        split at e
        · rename_i xs e4
          unfold mkBox at e
          split at e
          · rename_i hc
            simp only [Bool.and_eq_true,decide_eq_true_eq,Bool.not_eq_true'] at hc
            cases e
            obtain ⟨cs,g3,g4⟩:=jcj (jay h.sl e3) e4;unfold Oper.wp execOp;simp only [ho,Instr.box,Sem.run_bind,Result.andThen_ok,newVar,newRow,run_newObj_alloc,Sem.run_pure,Oper.upon_value,hdst,g3];exact hk _ _ _ (h.newBox g4 hc.1.1 hc.1.2 hc.2)
          · cases e
        · cases e
      · cases e
    · -- store
      rename_i T x y ho hdst
      split at e
      · rename_i i off v e3 e4
        split at e
        · rename_i b ys e5 e6
          split at e
          · rename_i zs m e7 e8
            split at e
            · rename_i hc
              simp only [Bool.and_eq_true,Bool.not_eq_true'] at hc
              cases e
              obtain ⟨cs,g3,g4⟩:=jcj (jay h.sl e4) e6;obtain ⟨k1,k2⟩:=h.stored e5 hc.1.1 g4 e7 hc.2;have hp:a.eval x=.pointer (some ⟨β i,off,none⟩):=List.head_eq_of_cons_eq (jay h.sl e3);have hl:=hasL.len g4;have hm:widths ys=m:=Nat.eq_of_beq_eq_true hc.1.2
              have hrun:(Instr.storeAt T (.pointer (some ⟨β i,off,none⟩)) (a.eval y)).run P w=.ok () (w.setCells (β i) off cs):=by
                have h3:=run_storeCells_cells (P:=P) (β i) off cs 0 w (fun j hj=>by simpa using (k2 j hj).1) (fun j hj=>by simpa using (k2 j hj).2) (jtc g4);simp only [Nat.add_zero] at h3;simp only [Instr.storeAt,Instr.sureAddr,Sem.run_bind,Sem.run_pure,Result.andThen_ok,storeVar,jcq e8,g3];rw [if_neg (by simp;omega)];exact h3
              unfold Oper.wp execOp;simp only [ho,Sem.run_bind,hp,hrun,Result.andThen_ok,Sem.run_pure,Oper.upon_skip,hdst];exact hk _ _ _ k1
            · cases e
          · cases e
        · cases e
      · cases e
    · rename_i d hdst _ _
      split at e
      · rename_i x post e3
        split at e
        · rename_i hd
          cases e
          refine js8 h.sl h.bx h.fs e3 (fun hp u w' hb hu=>?_);rw [hdst];exact hk _ _ _ (h.val hb hu hd hp)
        · cases e
      · cases e
    · cases e
end
end V
namespace V
inductive Res where
  | ok (st:St)
  | split (t:T)
  | bad
def runSeq {P:Program} {F:Nat→List Int→Int} (tab:List (Ctr P F)) (n:Nat) (ops:Array Oper):List Oper→St→Res
  | [],st=>.ok st
  | o::r,st=>match wantX ops st o with
    | .yes=>match step1 tab n st o with
      | some st'=>runSeq tab n ops r st'
      | none=>.bad
    | .no=>match o.dst with
      | some d=>if d<n then runSeq tab n ops r { st with sl:=(d,.und)::del d st.sl } else .bad
      | none=>runSeq tab n ops r st
    | .split t=>.split t
    | .bad=>.bad
def ex1:T→List T
  | .and a b=>.and a b::(ex1 a ++ ex1 b)
  | .not (.or a b)=>[.not (.or a b),.not a,.not b]
  | .not (.not a)=>ex1 a
  | t=>[t]
theorem jdb {F:Nat→List Int→Int} {ρ:Nat→Int}:∀{t:T},t.bd F ρ=true→allT F ρ (ex1 t)
  | .and a b,h=>by
    have h':=h;rw [jbp,Bool.and_eq_true] at h';exact ⟨h,jaa (jdb h'.1) (jdb h'.2)⟩
  | .not (.or a b),h=>by
    have h':=h;rw [jax,jfp,Bool.not_eq_true',Bool.or_eq_false_iff] at h';exact ⟨h,by rw [jax,h'.1];rfl,by rw [jax,h'.2];rfl,trivial⟩
  | .not (.not a),h=>by
    have h':=h;rw [jax,jax,Bool.not_not] at h';unfold ex1;exact jdb h'
  | .v _,h=>⟨h,trivial⟩
  | .n _,h=>⟨h,trivial⟩
  | .add _ _,h=>⟨h,trivial⟩
  | .sub _ _,h=>⟨h,trivial⟩
  | .mul _ _,h=>⟨h,trivial⟩
  | .lt _ _,h=>⟨h,trivial⟩
  | .le _ _,h=>⟨h,trivial⟩
  | .eq _ _,h=>⟨h,trivial⟩
  | .or _ _,h=>⟨h,trivial⟩
  | .ite _ _ _,h=>⟨h,trivial⟩
  | .ap _ _,h=>⟨h,trivial⟩
  | .e,h=>⟨h,trivial⟩
  | .c _ _,h=>⟨h,trivial⟩
  | .not (.v _),h=>⟨h,trivial⟩
  | .not (.n _),h=>⟨h,trivial⟩
  | .not (.add _ _),h=>⟨h,trivial⟩
  | .not (.sub _ _),h=>⟨h,trivial⟩
  | .not (.mul _ _),h=>⟨h,trivial⟩
  | .not (.lt _ _),h=>⟨h,trivial⟩
  | .not (.le _ _),h=>⟨h,trivial⟩
  | .not (.eq _ _),h=>⟨h,trivial⟩
  | .not (.and _ _),h=>⟨h,trivial⟩
  | .not (.ite _ _ _),h=>⟨h,trivial⟩
  | .not (.ap _ _),h=>⟨h,trivial⟩
  | .not .e,h=>⟨h,trivial⟩
  | .not (.c _ _),h=>⟨h,trivial⟩
def withF (st:St) (t:T):St:={ st with fs:=ex1 t ++ st.fs }
def splits (f:St→Res):Nat→St→(St→Bool)→Bool
  | 0,_,_=>false
  | m+1,st,k=>match f st with
    | .ok st'=>k st'
    | .split t=>splits f m (withF st t) k && splits f m (withF st (.not t)) k
    | .bad=>false
section
variable {F:Nat→List Int→Int} {ρ:Nat→Int} {β:Nat→Nat} {P:Program} {w w' w0:World} {n:Nat} {st:St} {a:Act}
theorem SH.facts (h:SH F ρ β w0 n st a w) {l:List T} (hl:allT F ρ l):SH F ρ β w0 n { st with fs:=l ++ st.fs } a w:=
  ⟨h.sl,h.bx,h.base,jaa hl h.fs,h.low,h.df,h.sz,h.lt⟩
theorem SH.bnd (h:SH F ρ β w0 n st a w):∀d,(get st.sl d).isSome=true→d<a.tmps.size:=fun d hd=>by
  cases hg:get st.sl d with
  | none=>rw [hg] at hd;cases hd
  | some x=>rw [h.sz];exact h.lt d x hg
theorem jfu {f:St→Res} {G:Prop}:∀{m:Nat} {st:St} {k:St→Bool},splits f m st k=true→SH F ρ β w0 n st a w→
    (∀st0 st',f st0=.ok st'→k st'=true→SH F ρ β w0 n st0 a w→G)→G
  | 0,_,_,h,_,_=>by cases h
  | m+1,st,k,h,hs,hg=>by
    simp only [splits] at h
    split at h
    · rename_i st' e;exact hg st st' e h hs
    · rename_i t e
      rw [Bool.and_eq_true] at h
      cases ht:t.bd F ρ with
      | true=>exact jfu h.1 (hs.facts (jdb ht)) hg
      | false=>exact jfu h.2 (hs.facts (jdb (by rw [jax,ht];rfl))) hg
    · cases h
theorem jeh {tab:List (Ctr P F)} {ops:Array Oper} {Q:Exit→Act→World→Prop}:∀(l:List Nat) (os:List Oper) {st st':St} {β:Nat→Nat} {a:Act} {w:World},
    (∀i:Nat,(l[i]?).bind (fun j=>ops[j]?)=os[i]?)→l.length=os.length→SH F ρ β w0 n st a w→runSeq tab n ops os st=.ok st'→
    (∀β' a' w',SH F ρ β' w0 n st' a' w'→Q .normal a' w')→wpOps P ops Q l a w
  | [],[],st,st',β,a,w,_,_,hs,h,hq=>by
    simp only [runSeq] at h
    cases h
    exact hq _ _ _ hs
  | [],_::_,_,_,_,_,_,_,hl,_,_,_=>by simp at hl
  | _::_,[],_,_,_,_,_,_,hl,_,_,_=>by simp at hl
  | i::l,o::os,st,st',β,a,w,hi,hl,hs,h,hq=>by
    have h0:ops[i]? = some o:=by simpa using hi 0
    have hrest:∀j:Nat,(l[j]?).bind (fun j=>ops[j]?)=os[j]?:=fun j=>by simpa using hi (j+1)
    have hlen:l.length=os.length:=by simpa using hl
    simp only [wpOps,h0];simp only [runSeq] at h
    split at h
    · rename_i e
      rw [if_pos (jlr hs.sl hs.fs hs.bnd e)]
      split at h
      · rename_i st1 e1
        exact .inl (jvr hs e1 fun β' a' w' hs'=>jeh l os hrest hlen hs' h hq)
      · cases h
    · rename_i e
      have hw:=jou hs.sl hs.fs hs.bnd e;rw [hw];simp only [Bool.false_eq_true,if_false]
      split at h
      · rename_i d hd
        split at h
        · rename_i hdn
          rw [hd];refine jeh l os hrest hlen (st:={ st with sl:=(d,.und)::del d st.sl }) (β:=β) ?_ h hq;exact ⟨(hs.sl.sub d).put rfl (by rw [hs.sz];exact hdn),hs.bx,hs.base,hs.fs,hs.low,by rw [jda];exact hs.df,by rw [jfr];exact hs.sz,js9 hs.lt hdn⟩
        · cases h
      · rename_i hd
        rw [hd];exact jeh l os hrest hlen hs h hq
    · cases h
    · cases h
theorem jqf {tab:List (Ctr P F)} {id m:Nat} {ops:Array Oper} {k:St→Bool} {Q:Exit→Act→World→Prop} (hs:SH F ρ β w0 n st a w) (h:splits (runSeq tab n ops ops.toList) m st k=true)
    (hq:∀st' β' a' w',k st'=true→SH F ρ β' w0 n st' a' w'→Q .normal a' w'):(Code.region id ops false).wp P Q a w:=by
  refine jfu h hs fun st0 st' e hk hs0=>?_
  refine wp_region (jeh _ ops.toList (fun i=>?_) (by simp) hs0 e fun β' a' w' hs'=>hq st' β' a' w' hk hs')
  by_cases hi:i<ops.size
  · rw [List.getElem?_range hi]
    simp
  · rw [List.getElem?_eq_none (by simpa using hi)]
    simp [Nat.le_of_not_lt hi]
end
end V
namespace V
def updR (ρ:Nat→Int) (i:Nat) (z:Int):Nat→Int:=fun j=>if j=i then z else ρ j
def T.occ (i:Nat):T→Bool
  | .v j=>Nat.beq j i
  | .n _=>false
  | .add a b=>a.occ i || b.occ i
  | .sub a b=>a.occ i || b.occ i
  | .mul a b=>a.occ i || b.occ i
  | .lt a b=>a.occ i || b.occ i
  | .le a b=>a.occ i || b.occ i
  | .eq a b=>a.occ i || b.occ i
  | .and a b=>a.occ i || b.occ i
  | .or a b=>a.occ i || b.occ i
  | .not a=>a.occ i
  | .ite a b d=>a.occ i || b.occ i || d.occ i
  | .ap _ l=>l.occ i
  | .e=>false
  | .c a b=>a.occ i || b.occ i
def T.in2 (σ:Nat→T):T→T×T
  | .v j=>(σ j,.e)
  | .n z=>(.n z,.e)
  | .add a b=>(.add (a.in2 σ).1 (b.in2 σ).1,.e)
  | .sub a b=>(.sub (a.in2 σ).1 (b.in2 σ).1,.e)
  | .mul a b=>(.mul (a.in2 σ).1 (b.in2 σ).1,.e)
  | .lt a b=>(.lt (a.in2 σ).1 (b.in2 σ).1,.e)
  | .le a b=>(.le (a.in2 σ).1 (b.in2 σ).1,.e)
  | .eq a b=>(.eq (a.in2 σ).1 (b.in2 σ).1,.e)
  | .and a b=>(.and (a.in2 σ).1 (b.in2 σ).1,.e)
  | .or a b=>(.or (a.in2 σ).1 (b.in2 σ).1,.e)
  | .not a=>(.not (a.in2 σ).1,.e)
  | .ite a b d=>(.ite (a.in2 σ).1 (b.in2 σ).1 (d.in2 σ).1,.e)
  | .ap f l=>(.ap f (l.in2 σ).2,.e)
  | .e=>(.e,.e)
  | .c a l=>(.e,.c (a.in2 σ).1 (l.in2 σ).2)
def T.inst (σ:Nat→T) (t:T):T:=(t.in2 σ).1
section
variable {F:Nat→List Int→Int} {ρ ρ':Nat→Int} {β:Nat→Nat} {w:World}
theorem ja7 {σ:Nat→T}:∀(t:T),(t.in2 σ).1.den F ρ=t.den F (fun i=>(σ i).den F ρ)∧(t.in2 σ).2.denL F ρ=t.denL F (fun i=>(σ i).den F ρ)
  | .v j=>⟨rfl,rfl⟩
  | .n z=>⟨rfl,rfl⟩
  | .add a b=>⟨by show (a.in2 σ).1.den F ρ+(b.in2 σ).1.den F ρ=_;rw [(ja7 a).1,(ja7 b).1];rfl,rfl⟩
  | .sub a b=>⟨by show (a.in2 σ).1.den F ρ - (b.in2 σ).1.den F ρ=_;rw [(ja7 a).1,(ja7 b).1];rfl,rfl⟩
  | .mul a b=>⟨by show (a.in2 σ).1.den F ρ*(b.in2 σ).1.den F ρ=_;rw [(ja7 a).1,(ja7 b).1];rfl,rfl⟩
  | .lt a b=>⟨by show b2i (decide ((a.in2 σ).1.den F ρ<(b.in2 σ).1.den F ρ))=_;rw [(ja7 a).1,(ja7 b).1];rfl,rfl⟩
  | .le a b=>⟨by show b2i (decide ((a.in2 σ).1.den F ρ≤(b.in2 σ).1.den F ρ))=_;rw [(ja7 a).1,(ja7 b).1];rfl,rfl⟩
  | .eq a b=>⟨by show b2i ((a.in2 σ).1.den F ρ == (b.in2 σ).1.den F ρ)=_;rw [(ja7 a).1,(ja7 b).1];rfl,rfl⟩
  | .and a b=>⟨by show b2i (((a.in2 σ).1.den F ρ != 0) && ((b.in2 σ).1.den F ρ != 0))=_;rw [(ja7 a).1,(ja7 b).1];rfl,rfl⟩
  | .or a b=>⟨by show b2i (((a.in2 σ).1.den F ρ != 0) || ((b.in2 σ).1.den F ρ != 0))=_;rw [(ja7 a).1,(ja7 b).1];rfl,rfl⟩
  | .not a=>⟨by show b2i (!((a.in2 σ).1.den F ρ != 0))=_;rw [(ja7 a).1];rfl,rfl⟩
  | .ite a b d=>⟨by show (if (a.in2 σ).1.den F ρ != 0 then (b.in2 σ).1.den F ρ else (d.in2 σ).1.den F ρ)=_;rw [(ja7 a).1,(ja7 b).1,(ja7 d).1];rfl,rfl⟩
  | .ap f l=>⟨by show F f ((l.in2 σ).2.denL F ρ)=_;rw [(ja7 l).2];rfl,rfl⟩
  | .e=>⟨rfl,rfl⟩
  | .c a l=>⟨rfl,by show (a.in2 σ).1.den F ρ::(l.in2 σ).2.denL F ρ=_;rw [(ja7 a).1,(ja7 l).2];rfl⟩
theorem jgu {σ:Nat→T} (t:T):(t.inst σ).den F ρ=t.den F (fun i=>(σ i).den F ρ):=(ja7 t).1
theorem jnc {σ:Nat→T} (t:T):(t.inst σ).bd F ρ=t.bd F (fun i=>(σ i).den F ρ):=by unfold T.bd;rw [jgu]
theorem jam:∀(t:T),(∀i,t.occ i=true→ρ' i=ρ i)→t.den F ρ'=t.den F ρ∧t.denL F ρ'=t.denL F ρ
  | .v j,h=>⟨h j (by simp [T.occ]),rfl⟩
  | .n z,_=>⟨rfl,rfl⟩
  | .add a b,h=>⟨by show a.den F ρ'+b.den F ρ'=_;rw [(jam a fun i hi=>h i (by simp [T.occ,hi])).1,(jam b fun i hi=>h i (by simp [T.occ,hi])).1];rfl,rfl⟩
  | .sub a b,h=>⟨by show a.den F ρ' - b.den F ρ'=_;rw [(jam a fun i hi=>h i (by simp [T.occ,hi])).1,(jam b fun i hi=>h i (by simp [T.occ,hi])).1];rfl,rfl⟩
  | .mul a b,h=>⟨by show a.den F ρ'*b.den F ρ'=_;rw [(jam a fun i hi=>h i (by simp [T.occ,hi])).1,(jam b fun i hi=>h i (by simp [T.occ,hi])).1];rfl,rfl⟩
  | .lt a b,h=>⟨by show b2i (decide (a.den F ρ'<b.den F ρ'))=_;rw [(jam a fun i hi=>h i (by simp [T.occ,hi])).1,(jam b fun i hi=>h i (by simp [T.occ,hi])).1];rfl,rfl⟩
  | .le a b,h=>⟨by show b2i (decide (a.den F ρ'≤b.den F ρ'))=_;rw [(jam a fun i hi=>h i (by simp [T.occ,hi])).1,(jam b fun i hi=>h i (by simp [T.occ,hi])).1];rfl,rfl⟩
  | .eq a b,h=>⟨by show b2i (a.den F ρ' == b.den F ρ')=_;rw [(jam a fun i hi=>h i (by simp [T.occ,hi])).1,(jam b fun i hi=>h i (by simp [T.occ,hi])).1];rfl,rfl⟩
  | .and a b,h=>⟨by show b2i ((a.den F ρ' != 0) && (b.den F ρ' != 0))=_;rw [(jam a fun i hi=>h i (by simp [T.occ,hi])).1,(jam b fun i hi=>h i (by simp [T.occ,hi])).1];rfl,rfl⟩
  | .or a b,h=>⟨by show b2i ((a.den F ρ' != 0) || (b.den F ρ' != 0))=_;rw [(jam a fun i hi=>h i (by simp [T.occ,hi])).1,(jam b fun i hi=>h i (by simp [T.occ,hi])).1];rfl,rfl⟩
  | .not a,h=>⟨by show b2i (!(a.den F ρ' != 0))=_;rw [(jam a fun i hi=>h i (by simp [T.occ,hi])).1];rfl,rfl⟩
  | .ite a b d,h=>⟨by show (if a.den F ρ' != 0 then b.den F ρ' else d.den F ρ')=_;rw [(jam a fun i hi=>h i (by simp [T.occ,hi])).1,(jam b fun i hi=>h i (by simp [T.occ,hi])).1,(jam d fun i hi=>h i (by simp [T.occ,hi])).1];rfl,rfl⟩
  | .ap f l,h=>⟨by show F f (l.denL F ρ')=_;rw [(jam l fun i hi=>h i (by simp [T.occ,hi])).2];rfl,rfl⟩
  | .e,_=>⟨rfl,rfl⟩
  | .c a l,h=>⟨rfl,by show a.den F ρ'::l.denL F ρ'=_;rw [(jam a fun i hi=>h i (by simp [T.occ,hi])).1,(jam l fun i hi=>h i (by simp [T.occ,hi])).2];rfl⟩
theorem jox {i:Nat} {z:Int} {t:T} (h:t.occ i=false):t.den F (updR ρ i z)=t.den F ρ:=
  (jam t fun j hj=>by
    unfold updR;rw [if_neg];rintro rfl;rw [h] at hj;cases hj).1
end
def X.tm:X→T
  | .i _ t=>t
  | .b t=>t
  | .z _ _ t=>t
  | _=>.e
def X.inst (σ:Nat→T) (μ:Nat→Nat):X→X
  | .i k t=>.i k (t.inst σ)
  | .b t=>.b (t.inst σ)
  | .z k c t=>.z k c (t.inst σ)
  | .p q o=>.p (μ q) o
  | .s0=>.s0
  | .cst c=>.cst c
def V1.inst (σ:Nat→T) (μ:Nat→Nat):V1→V1
  | .sc x=>.sc (x.inst σ μ)
  | .ag xs=>.ag (xs.map (X.inst σ μ))
  | .fn f xs=>.fn f (xs.map (X.inst σ μ))
def A.inst (σ:Nat→T) (μ:Nat→Nat):A→A
  | .one a=>.one (a.inst σ μ)
  | .tup l=>.tup (l.map (V1.inst σ μ))
  | .und=>.und
def V1.occ (i:Nat):V1→Bool
  | .sc x=>x.tm.occ i
  | .ag xs=>xs.any (fun x=>x.tm.occ i)
  | .fn _ xs=>xs.any (fun x=>x.tm.occ i)
def A.occ (i:Nat):A→Bool
  | .one a=>a.occ i
  | .tup l=>l.any (V1.occ i)
  | .und=>false
section
variable {F:Nat→List Int→Int} {ρ ρ':Nat→Int} {β:Nat→Nat} {w:World} {σ:Nat→T} {μ:Nat→Nat}
theorem X.has_inst {x:X} {cs:List Value}:(x.inst σ μ).has F ρ β w cs↔x.has F (fun i=>(σ i).den F ρ) (fun i=>β (μ i)) w cs:=by
  cases x with
  | i k t=>show cs=_↔cs=_;rw [jgu]
  | b t=>show cs=_↔cs=_;rw [jnc]
  | z k c t=>show (∃n A l c',_∧Q w k n A l c' ((t.inst σ).den F ρ)∧(c=true→QB w 0 k n A l c' ((t.inst σ).den F ρ)))↔_;rw [jgu];exact Iff.rfl
  | p b o=>exact Iff.rfl
  | s0=>exact Iff.rfl
  | cst c=>exact Iff.rfl
theorem jei:∀{xs:List X} {cs:List Value},hasL F ρ β w (xs.map (X.inst σ μ)) cs↔hasL F (fun i=>(σ i).den F ρ) (fun i=>β (μ i)) w xs cs
  | [],_=>Iff.rfl
  | x::xs,cs=>by
    show (∃c d,cs=c ++ d∧(x.inst σ μ).has F ρ β w c∧hasL F ρ β w (xs.map (X.inst σ μ)) d)↔∃c d,cs=c ++ d∧x.has F _ _ w c∧hasL F _ _ w xs d
    simp only [X.has_inst,jei]
theorem V1.has_inst {a:V1} {v:Value}:(a.inst σ μ).has F ρ β w v↔a.has F (fun i=>(σ i).den F ρ) (fun i=>β (μ i)) w v:=by
  cases a with
  | sc x=>exact X.has_inst
  | ag xs=>show (∃cs,_∧hasL F ρ β w (xs.map (X.inst σ μ)) cs)↔_;simp only [jei];exact Iff.rfl
  | fn f xs=>show (∃cs,_∧hasL F ρ β w (xs.map (X.inst σ μ)) cs)↔_;simp only [jei];exact Iff.rfl
theorem jls:∀{l:List V1} {vs:List Value},hasV F ρ β w (l.map (V1.inst σ μ)) vs↔hasV F (fun i=>(σ i).den F ρ) (fun i=>β (μ i)) w l vs
  | [],_=>Iff.rfl
  | x::xs,vs=>by
    show (∃c d,vs=c::d∧(x.inst σ μ).has F ρ β w c∧hasV F ρ β w (xs.map (V1.inst σ μ)) d)↔∃c d,vs=c::d∧x.has F _ _ w c∧hasV F _ _ w xs d
    simp only [V1.has_inst,jls]
theorem A.has_inst {a:A} {v:Value}:(a.inst σ μ).has F ρ β w v↔a.has F (fun i=>(σ i).den F ρ) (fun i=>β (μ i)) w v:=by
  cases a with
  | one a=>exact V1.has_inst
  | tup l=>show (∃vs,_∧hasV F ρ β w (l.map (V1.inst σ μ)) vs)↔_;simp only [jls];exact Iff.rfl
  | und=>exact Iff.rfl
theorem X.agree {x:X} (h:x.tm.den F ρ'=x.tm.den F ρ) {cs:List Value} (k:x.has F ρ β w cs):x.has F ρ' β w cs:=by
  cases x with
  | i kk t=>show cs=_;rw [show t.den F ρ'=t.den F ρ from h];exact k
  | b t=>show cs=_;rw [show t.bd F ρ'=t.bd F ρ by unfold T.bd;rw [show t.den F ρ'=t.den F ρ from h]];exact k
  | z kk c t=>show ∃n A l c',_∧Q w kk n A l c' (t.den F ρ')∧(c=true→QB w 0 kk n A l c' (t.den F ρ'));rw [show t.den F ρ'=t.den F ρ from h];exact k
  | p b o=>exact k
  | s0=>exact k
  | cst c=>exact k
theorem hasL.agree {i:Nat} {z:Int}:∀{xs:List X} {cs:List Value},xs.any (fun x=>x.tm.occ i)=false→hasL F ρ β w xs cs→hasL F (updR ρ i z) β w xs cs
  | [],_,_,h=>h
  | x::xs,_,k,⟨c,d,h1,h2,h3⟩=>by
    simp only [List.any_cons,Bool.or_eq_false_iff] at k;exact ⟨c,d,h1,X.agree (jox k.1) h2,hasL.agree k.2 h3⟩
theorem V1.agree {i:Nat} {z:Int} {a:V1} {v:Value} (k:a.occ i=false) (h:a.has F ρ β w v):a.has F (updR ρ i z) β w v:=by
  cases a with
  | sc x=>exact X.agree (jox k) h
  | ag xs=>obtain ⟨cs,h1,h2⟩:=h;exact ⟨cs,h1,hasL.agree k h2⟩
  | fn f xs=>obtain ⟨cs,h1,h2⟩:=h;exact ⟨cs,h1,hasL.agree k h2⟩
theorem hasV.agree {i:Nat} {z:Int}:∀{l:List V1} {vs:List Value},l.any (V1.occ i)=false→hasV F ρ β w l vs→hasV F (updR ρ i z) β w l vs
  | [],_,_,h=>h
  | x::xs,_,k,⟨c,d,h1,h2,h3⟩=>by
    simp only [List.any_cons,Bool.or_eq_false_iff] at k;exact ⟨c,d,h1,V1.agree k.1 h2,hasV.agree k.2 h3⟩
theorem A.agree {i:Nat} {z:Int} {a:A} {v:Value} (k:a.occ i=false) (h:a.has F ρ β w v):a.has F (updR ρ i z) β w v:=by
  cases a with
  | one a=>exact V1.agree k h
  | tup l=>obtain ⟨vs,h1,h2⟩:=h;exact ⟨vs,h1,hasV.agree k h2⟩
  | und=>exact h
end
end V
namespace V
structure Rule where
  cs:List T
  l:T
  r:T
structure Fit where
  cs:List T
  t:T
  k:Nat
structure Rs where
  rs:List Rule
  ft:List Fit
structure RsOK (F:Nat→List Int→Int) (R:Rs):Prop where
  rs:∀r∈R.rs,∀ρ,allT F ρ r.cs→r.l.den F ρ=r.r.den F ρ
  ft:∀r∈R.ft,∀ρ,allT F ρ r.cs→(r.t.den F ρ).natAbs<W^r.k
def findR (fs:List T) (t:T):List Rule→Option T
  | []=>none
  | r::l=>if t.same r.l && allKnown fs r.cs then some r.r else findR fs t l
def findV (i:Nat):List T→Option T
  | []=>none
  | .eq (.v j) s::l=>if Nat.beq i j then some s else findV i l
  | _::l=>findV i l
def T.isB:T→Bool
  | .lt _ _=>true
  | .le _ _=>true
  | .eq _ _=>true
  | .not _=>true
  | .and _ _=>true
  | .or _ _=>true
  | _=>false
def isT (o:Option Bool):Bool:=match o with
  | some true=>true
  | _=>false
def isF (o:Option Bool):Bool:=match o with
  | some false=>true
  | _=>false
def head (R:Rs) (fs:List T) (t:T):T:=match findR fs t R.rs with
  | some r=>r
  | none=>match t with
    | .ite c a b=>match known2 fs c with
      | some true=>a
      | some false=>b
      | none=>t
    | .add (.n x) (.n y)=>.n (x+y)
    | .sub (.n x) (.n y)=>.n (x - y)
    | .mul (.n x) (.n y)=>.n (x*y)
    | .add a (.n 0)=>a
    | .add (.n 0) a=>a
    | .sub a (.n 0)=>a
    | .mul a (.n 1)=>a
    | .mul (.n 1) a=>a
    | .v i=>match findV i fs with
      | some s=>s
      | none=>t
    | .and a b=>if isT (known fs a) && b.isB then b else if isT (known fs b) && a.isB then a else t
    | .or a b=>if isF (known fs a) && b.isB then b else if isF (known fs b) && a.isB then a else t
    | _=>t
def nf2 (R:Rs) (fs:List T):T→T×T
  | .v i=>(head R fs (.v i),.e)
  | .n z=>(.n z,.e)
  | .add a b=>(head R fs (.add (nf2 R fs a).1 (nf2 R fs b).1),.e)
  | .sub a b=>(head R fs (.sub (nf2 R fs a).1 (nf2 R fs b).1),.e)
  | .mul a b=>(head R fs (.mul (nf2 R fs a).1 (nf2 R fs b).1),.e)
  | .lt a b=>(head R fs (.lt (nf2 R fs a).1 (nf2 R fs b).1),.e)
  | .le a b=>(head R fs (.le (nf2 R fs a).1 (nf2 R fs b).1),.e)
  | .eq a b=>(head R fs (.eq (nf2 R fs a).1 (nf2 R fs b).1),.e)
  | .and a b=>(head R fs (.and (nf2 R fs a).1 (nf2 R fs b).1),.e)
  | .or a b=>(head R fs (.or (nf2 R fs a).1 (nf2 R fs b).1),.e)
  | .not a=>(head R fs (.not (nf2 R fs a).1),.e)
  | .ite a b d=>(head R fs (.ite (nf2 R fs a).1 (nf2 R fs b).1 (nf2 R fs d).1),.e)
  | .ap f l=>(head R fs (.ap f (nf2 R fs l).2),.e)
  | .e=>(.e,.e)
  | .c a l=>(.e,.c (nf2 R fs a).1 (nf2 R fs l).2)
def nf (R:Rs) (fs:List T) (t:T):T:=(nf2 R fs t).1
section
variable {F:Nat→List Int→Int} {ρ:Nat→Int} {β:Nat→Nat} {P:Program} {w w' w0:World} {n:Nat} {st:St} {a:Act} {R:Rs} {fs:List T}
theorem joy (hf:allT F ρ fs) {t s:T}:∀{l:List Rule},(∀r∈l,∀ρ,allT F ρ r.cs→r.l.den F ρ=r.r.den F ρ)→findR fs t l=some s→s.den F ρ=t.den F ρ
  | [],_,h=>by cases h
  | r::l,hr,h=>by
    simp only [findR] at h
    split at h
    · rename_i e
      rw [Bool.and_eq_true] at e
      cases h
      rw [T.same_eq e.1];exact (hr r List.mem_cons_self ρ (jbg hf e.2)).symm
    · exact joy hf (fun r hm=>hr r (List.mem_cons_of_mem _ hm)) h
theorem jj5 {i:Nat} {s:T}:∀{fs:List T},allT F ρ fs→findV i fs=some s→s.den F ρ=ρ i
  | [],_,h=>by cases h
  | f::l,hf,h=>by
    unfold findV at h
    split at h
    · cases h
    · rename_i j s' l' e
      cases e
      split at h
      · rename_i e2
        cases h
        have:=hf.1;rw [jc4,beq_iff_eq] at this;rw [Nat.eq_of_beq_eq_true e2];exact this.symm
      · exact jj5 hf.2 h
    · rename_i e
      cases e
      exact jj5 hf.2 h
theorem jlt {o:Option Bool} (h:isT o=true):o=some true:=by
  unfold isT at h
  split at h
  · rfl
  · cases h
theorem jxi {o:Option Bool} (h:isF o=true):o=some false:=by
  unfold isF at h
  split at h
  · rfl
  · cases h
theorem joz {t:T} (h:t.isB=true):t.den F ρ=b2i (t.bd F ρ):=by
  have k:∀b:Bool,b2i b=b2i (b2i b != 0):=fun b=>by cases b <;> rfl
  unfold T.bd
  cases t with
  | lt a b=>exact k _
  | le a b=>exact k _
  | eq a b=>exact k _
  | not a=>exact k _
  | and a b=>exact k _
  | or a b=>exact k _
  | _=>cases h
theorem jck (hR:RsOK F R) (hf:allT F ρ fs) (t:T):(head R fs t).den F ρ=t.den F ρ:=by
  unfold head
  split
  · rename_i r e
    exact joy hf hR.rs e
  · split
    · rw [jc3]
      split
      · rename_i e;rw [jar hf _ _ e];rfl
      · rename_i e;rw [jar hf _ _ e];rfl
      · rfl
    · rfl
    · rfl
    · rfl
    · exact (Int.add_zero _).symm
    · exact (Int.zero_add _).symm
    · exact (Int.sub_zero _).symm
    · exact (Int.mul_one _).symm
    · exact (Int.one_mul _).symm
    · split
      · rename_i s e;exact jj5 hf e
      · rfl
    · rename_i a b _
      have d:(T.and a b).den F ρ=b2i (a.bd F ρ && b.bd F ρ):=rfl
      split
      · rename_i e
        rw [Bool.and_eq_true] at e;rw [d,jbb hf _ _ (jlt e.1),Bool.true_and];exact joz e.2
      · split
        · rename_i e
          rw [Bool.and_eq_true] at e;rw [d,jbb hf _ _ (jlt e.1),Bool.and_true];exact joz e.2
        · rfl
    · rename_i a b _
      have d:(T.or a b).den F ρ=b2i (a.bd F ρ || b.bd F ρ):=rfl
      split
      · rename_i e
        rw [Bool.and_eq_true] at e;rw [d,jbb hf _ _ (jxi e.1),Bool.false_or];exact joz e.2
      · split
        · rename_i e
          rw [Bool.and_eq_true] at e;rw [d,jbb hf _ _ (jxi e.1),Bool.or_false];exact joz e.2
        · rfl
    · rfl
theorem jbi (hR:RsOK F R) (hf:allT F ρ fs):∀(t:T),(nf2 R fs t).1.den F ρ=t.den F ρ∧(nf2 R fs t).2.denL F ρ=t.denL F ρ
  | .v i=>⟨jck hR hf _,rfl⟩
  | .n z=>⟨rfl,rfl⟩
  | .add a b=>⟨(jck hR hf _).trans (by show (nf2 R fs a).1.den F ρ+(nf2 R fs b).1.den F ρ=_;rw [(jbi hR hf a).1,(jbi hR hf b).1];rfl),rfl⟩
  | .sub a b=>⟨(jck hR hf _).trans (by show (nf2 R fs a).1.den F ρ - (nf2 R fs b).1.den F ρ=_;rw [(jbi hR hf a).1,(jbi hR hf b).1];rfl),rfl⟩
  | .mul a b=>⟨(jck hR hf _).trans (by show (nf2 R fs a).1.den F ρ*(nf2 R fs b).1.den F ρ=_;rw [(jbi hR hf a).1,(jbi hR hf b).1];rfl),rfl⟩
  | .lt a b=>⟨(jck hR hf _).trans (by show b2i (decide ((nf2 R fs a).1.den F ρ<(nf2 R fs b).1.den F ρ))=_;rw [(jbi hR hf a).1,(jbi hR hf b).1];rfl),rfl⟩
  | .le a b=>⟨(jck hR hf _).trans (by show b2i (decide ((nf2 R fs a).1.den F ρ≤(nf2 R fs b).1.den F ρ))=_;rw [(jbi hR hf a).1,(jbi hR hf b).1];rfl),rfl⟩
  | .eq a b=>⟨(jck hR hf _).trans (by show b2i ((nf2 R fs a).1.den F ρ == (nf2 R fs b).1.den F ρ)=_;rw [(jbi hR hf a).1,(jbi hR hf b).1];rfl),rfl⟩
  | .and a b=>⟨(jck hR hf _).trans (by show b2i (((nf2 R fs a).1.den F ρ != 0) && ((nf2 R fs b).1.den F ρ != 0))=_;rw [(jbi hR hf a).1,(jbi hR hf b).1];rfl),rfl⟩
  | .or a b=>⟨(jck hR hf _).trans (by show b2i (((nf2 R fs a).1.den F ρ != 0) || ((nf2 R fs b).1.den F ρ != 0))=_;rw [(jbi hR hf a).1,(jbi hR hf b).1];rfl),rfl⟩
  | .not a=>⟨(jck hR hf _).trans (by show b2i (!((nf2 R fs a).1.den F ρ != 0))=_;rw [(jbi hR hf a).1];rfl),rfl⟩
  | .ite a b d=>⟨(jck hR hf _).trans (by show (if (nf2 R fs a).1.den F ρ != 0 then (nf2 R fs b).1.den F ρ else (nf2 R fs d).1.den F ρ)=_;rw [(jbi hR hf a).1,(jbi hR hf b).1,(jbi hR hf d).1];rfl),rfl⟩
  | .ap f l=>⟨(jck hR hf _).trans (by show F f ((nf2 R fs l).2.denL F ρ)=_;rw [(jbi hR hf l).2];rfl),rfl⟩
  | .e=>⟨rfl,rfl⟩
  | .c a l=>⟨rfl,by show (nf2 R fs a).1.den F ρ::(nf2 R fs l).2.denL F ρ=_;rw [(jbi hR hf a).1,(jbi hR hf l).2];rfl⟩
def eqT (R:Rs) (fs:List T) (a b:T):Bool:=a.same b || (nf R fs a).same (nf R fs b) || (nf R fs (nf R fs a)).same (nf R fs (nf R fs b))
theorem jo0 (hR:RsOK F R) (hf:allT F ρ fs) {a b:T} (h:eqT R fs a b=true):a.den F ρ=b.den F ρ:=by
  have k:∀t,(nf R fs t).den F ρ=t.den F ρ:=fun t=>(jbi hR hf t).1
  unfold eqT at h;simp only [Bool.or_eq_true] at h
  rcases h with (h | h) | h
  · rw [T.same_eq h]
  · rw [←k a,←k b,T.same_eq h]
  · rw [←k a,←k b,←k (nf R fs a),←k (nf R fs b),T.same_eq h]
def eqB (R:Rs) (fs:List T) (a b:T):Bool:=eqT R fs a b || (match known fs a,known fs b with | some x,some y=>x == y | _,_=>false) || (match known fs (nf R fs a),known fs (nf R fs b) with | some x,some y=>x == y | _,_=>false) ||
  (isT (known2 fs (nf R fs a)) && isT (known2 fs b))
theorem j2s (hR:RsOK F R) (hf:allT F ρ fs) {a b:T} (h:eqB R fs a b=true):a.bd F ρ=b.bd F ρ:=by
  have kk:∀{a b:T},(match known fs a,known fs b with | some x,some y=>x == y | _,_=>false)=true→a.bd F ρ=b.bd F ρ:=fun {a b} h=>by
    split at h
    · rename_i x y e1 e2
      rw [jbb hf a _ e1,jbb hf b _ e2];exact beq_iff_eq.1 h
    · cases h
  have kn:∀t,(nf R fs t).bd F ρ=t.bd F ρ:=fun t=>by unfold T.bd;rw [show (nf R fs t).den F ρ=t.den F ρ from (jbi hR hf t).1]
  unfold eqB at h;simp only [Bool.or_eq_true] at h
  rcases h with ((h | h) | h) | h
  · unfold T.bd;rw [jo0 hR hf h]
  · exact kk h
  · rw [←kn a,←kn b];exact kk h
  · rw [Bool.and_eq_true] at h
    rw [←kn a,jar hf _ _ (jlt h.1),jar hf _ _ (jlt h.2)]
def fits (fs:List T) (R:Rs) (t:T) (k:Nat):List Fit→Bool
  | []=>false
  | r::l=>(decide (r.k≤k) && eqT R fs t r.t && allKnown fs r.cs) || fits fs R t k l
theorem jnd (hR:RsOK F R) (hf:allT F ρ fs) {t:T} {k:Nat}:∀{l:List Fit},(∀r∈l,∀ρ,allT F ρ r.cs→(r.t.den F ρ).natAbs<W^r.k)→fits fs R t k l=true→(t.den F ρ).natAbs<W^k
  | [],_,h=>by cases h
  | r::l,hl,h=>by
    simp only [fits,Bool.or_eq_true,Bool.and_eq_true,decide_eq_true_eq] at h
    rcases h with ⟨⟨h1,h2⟩,h3⟩ | h
    · rw [jo0 hR hf h2]
      exact Nat.lt_of_lt_of_le (hl r List.mem_cons_self ρ (jbg hf h3)) (jde h1)
    · exact jnd hR hf (fun r hm=>hl r (List.mem_cons_of_mem _ hm)) h
def eqI (R:Rs) (fs:List T) (a b:T):Bool:=eqT R fs a b || isT (known2 fs (.eq (nf R fs a) (nf R fs b)))
theorem j2t (hR:RsOK F R) (hf:allT F ρ fs) {a b:T} (h:eqI R fs a b=true):a.den F ρ=b.den F ρ:=by
  unfold eqI at h;rw [Bool.or_eq_true] at h
  rcases h with h | h
  · exact jo0 hR hf h
  · have k:∀t,(nf R fs t).den F ρ=t.den F ρ:=fun t=>(jbi hR hf t).1
    have h1:=jar hf _ _ (jlt h);rw [jc4,k,k] at h1;exact beq_iff_eq.1 h1
def leX (R:Rs) (fs:List T):X→X→Bool
  | .i k t,.i k' t'=>decide (k=k') && eqI R fs t t'
  | .b t,.b t'=>eqB R fs t t'
  | .z k c t,.z k' c' t'=>(!c' || c) && eqT R fs t t' && (decide (k≤k') || (c && fits fs R t' k' R.ft))
  | .p q o,.p q' o'=>Nat.beq q q' && Nat.beq o o'
  | .s0,.s0=>true
  | .cst c,.cst d=>c.same d
  | _,_=>false
theorem jxj (hR:RsOK F R) (hf:allT F ρ fs) {x y:X} {cs:List Value} (h:leX R fs x y=true) (k:x.has F ρ β w cs):y.has F ρ β w cs:=by
  cases x <;> cases y <;> simp only [leX,Bool.and_eq_true,decide_eq_true_eq] at h <;> try (cases h;done)
  · show cs=_;rw [←j2t hR hf h.2,←h.1];exact k
  · show cs=_;rw [←j2s hR hf h];exact k
  · rename_i k0 c t k' c' t'
    obtain ⟨n',A',l,cc,h1,h2,h3⟩:=k;have e:=jo0 hR hf h.1.2;refine ⟨n',A',l,cc,h1,?_,fun hc=>?_⟩
    · rw [←e]
      have h4:=h.2;rw [Bool.or_eq_true,Bool.and_eq_true,decide_eq_true_eq] at h4
      rcases h4 with h4 | h4
      · exact h2.up h4
      · exact ((h3 h4.1).fit (by rw [e];exact jnd hR hf hR.ft h4.2)).q
    · rw [←e]
      have hc1:c=true:=by
        have:=h.1.1;rw [hc] at this
        simpa using this
      have h4:=h.2;rw [Bool.or_eq_true,Bool.and_eq_true,decide_eq_true_eq] at h4
      rcases h4 with h4 | h4
      · exact (h3 hc1).up h4
      · exact (h3 h4.1).fit (by rw [e];exact jnd hR hf hR.ft h4.2)
  · show cs=_;rw [←Nat.eq_of_beq_eq_true h.1,←Nat.eq_of_beq_eq_true h.2];exact k
  · exact k
  · rw [←Kc.same_eq h];exact k
def leL (R:Rs) (fs:List T):List X→List X→Bool
  | [],[]=>true
  | x::xs,y::ys=>leX R fs x y && leL R fs xs ys
  | _,_=>false
theorem jlu (hR:RsOK F R) (hf:allT F ρ fs):∀{xs ys:List X} {cs:List Value},leL R fs xs ys=true→hasL F ρ β w xs cs→hasL F ρ β w ys cs
  | [],[],_,_,k=>k
  | [],_::_,_,h,_=>by cases h
  | _::_,[],_,h,_=>by cases h
  | x::xs,y::ys,_,h,⟨c,d,h1,h2,h3⟩=>by
    simp only [leL,Bool.and_eq_true] at h;exact ⟨c,d,h1,jxj hR hf h.1 h2,jlu hR hf h.2 h3⟩
def leV (R:Rs) (fs:List T):V1→V1→Bool
  | .sc x,.sc y=>leX R fs x y
  | .ag xs,.ag ys=>leL R fs xs ys
  | .fn f xs,.fn g ys=>Nat.beq f g && leL R fs xs ys
  | _,_=>false
theorem jxk (hR:RsOK F R) (hf:allT F ρ fs) {x y:V1} {v:Value} (h:leV R fs x y=true) (k:x.has F ρ β w v):y.has F ρ β w v:=by
  cases x <;> cases y <;> simp only [leV,Bool.and_eq_true] at h <;> try (cases h;done)
  · exact jxj hR hf h k
  · obtain ⟨cs,h1,h2⟩:=k;exact ⟨cs,h1,jlu hR hf h h2⟩
  · obtain ⟨cs,h1,h2⟩:=k;exact ⟨cs,by rw [h1,Nat.eq_of_beq_eq_true h.1],jlu hR hf h.2 h2⟩
def leVs (R:Rs) (fs:List T):List V1→List V1→Bool
  | [],[]=>true
  | x::xs,y::ys=>leV R fs x y && leVs R fs xs ys
  | _,_=>false
theorem jtg (hR:RsOK F R) (hf:allT F ρ fs):∀{xs ys:List V1} {cs:List Value},leVs R fs xs ys=true→hasV F ρ β w xs cs→hasV F ρ β w ys cs
  | [],[],_,_,k=>k
  | [],_::_,_,h,_=>by cases h
  | _::_,[],_,h,_=>by cases h
  | x::xs,y::ys,_,h,⟨c,d,h1,h2,h3⟩=>by
    simp only [leVs,Bool.and_eq_true] at h;exact ⟨c,d,h1,jxk hR hf h.1 h2,jtg hR hf h.2 h3⟩
def leA (R:Rs) (fs:List T):A→A→Bool
  | .one x,.one y=>leV R fs x y
  | .tup xs,.tup ys=>leVs R fs xs ys
  | .und,.und=>true
  | _,_=>false
theorem jth (hR:RsOK F R) (hf:allT F ρ fs) {x y:A} {v:Value} (h:leA R fs x y=true) (k:x.has F ρ β w v):y.has F ρ β w v:=by
  cases x <;> cases y <;> simp only [leA] at h <;> try (cases h;done)
  · exact jxk hR hf h k
  · obtain ⟨cs,h1,h2⟩:=k;exact ⟨cs,h1,jtg hR hf h h2⟩
  · exact k
def leSt (R:Rs) (st H:St) (σ:Nat→T):Bool:=
  H.sl.all (fun p=>match get st.sl p.1 with | some a=>leA R st.fs a (p.2.inst σ id) | none=>false) &&
  H.bx.all (fun b=>match getB st.bx b.id with | some c=>Nat.beq c.ty b.ty && (c.ro == b.ro) && leL R st.fs c.xs (b.xs.map (X.inst σ id)) | none=>false) &&
  allKnown st.fs (H.fs.map (T.inst σ))
theorem jh1 {σ:Nat→T}:∀{l:List T},allT F ρ (l.map (T.inst σ))→allT F (fun i=>(σ i).den F ρ) l
  | [],_=>trivial
  | t::l,h=>⟨by rw [←jnc];exact h.1,jh1 h.2⟩
theorem jti (hR:RsOK F R) (hs:SH F ρ β w0 n st a w) {H:St} {σ:Nat→T} (h:leSt R st H σ=true):SH F (fun i=>(σ i).den F ρ) β w0 n H a w:=by
  unfold leSt at h;rw [Bool.and_eq_true,Bool.and_eq_true] at h;obtain ⟨⟨h1,h2⟩,h3⟩:=h
  have box:∀i b,getB H.bx i=some b→∃c,getB st.bx i=some c∧c.ty=b.ty∧c.ro=b.ro∧leL R st.fs c.xs (b.xs.map (X.inst σ id))=true:=fun i b hi=>by
    obtain ⟨m1,m2⟩:=jfs hi;have:=List.all_eq_true.1 h2 b m1;rw [m2] at this
    split at this
    · rename_i c e
      rw [Bool.and_eq_true,Bool.and_eq_true] at this;exact ⟨c,e,Nat.eq_of_beq_eq_true this.1.1,beq_iff_eq.1 this.1.2,this.2⟩
    · cases this
  have slot:∀t x,get H.sl t=some x→∃y,get st.sl t=some y∧leA R st.fs y (x.inst σ id)=true:=fun t x hx=>by
    have:=List.all_eq_true.1 h1 _ (jnb hx)
    dsimp only at this
    split at this
    · rename_i y e;exact ⟨y,e,this⟩
    · cases this
  refine ⟨fun t x hx=>?_,⟨fun i b hi=>?_,fun i j b c hi hj hij=>?_⟩,fun i b hi hr=>?_,jh1 (jbg hs.fs h3),hs.low,hs.df,hs.sz,fun t x hx=>?_⟩
  · obtain ⟨y,e1,e2⟩:=slot t x hx
    exact (A.has_inst (μ:=id)).1 (jth hR hs.fs e2 (hs.sl t y e1))
  · obtain ⟨c,e1,e2,e3,e4⟩:=box i b hi
    obtain ⟨cs,k1,k2,k3⟩:=hs.bx.at_ i c e1;exact ⟨cs,by rw [←e2];exact k1,k2,(jei (μ:=id)).1 (jlu hR hs.fs e4 k3)⟩
  · obtain ⟨c1,e1,-⟩:=box i b hi
    obtain ⟨c2,e2,-⟩:=box j c hj;exact hs.bx.ne i j c1 c2 e1 e2 hij
  · obtain ⟨c,e1,e2,e3,e4⟩:=box i b hi
    exact hs.base i c e1 (by rw [e3];exact hr)
  · obtain ⟨y,e1,-⟩:=slot t x hx
    exact hs.lt t y e1
end
end V
namespace V
inductive Ex where
  | normal
  | exit (id:Nat)
  | ret
def Ex.to:Ex→Exit
  | .normal=>.normal
  | .exit id=>.exit id
  | .ret=>.ret
structure Ann where
  key:Nat
  var:Nat
  start:T
  sl:List (Nat×A)
  bx:List (Nat×List X)
  fs:List T
  m:T
def firstR:Code→Option Nat
  | .region id _ _=>some id
  | .seq a b=>(firstR a).or (firstR b)
  | .cond _ a b=>(firstR a).or (firstR b)
  | .block _ b=>firstR b
  | .loop b=>firstR b
  | .scope b=>firstR b
  | _=>none
def wrs:Code→List Nat
  | .region _ ops _=>ops.toList.filterMap (·.dst)
  | .seq a b=>wrs a ++ wrs b
  | .cond _ a b=>wrs a ++ wrs b
  | .block _ b=>wrs b
  | .loop b=>wrs b
  | .scope b=>wrs b
  | .rangeFunc _ ps a b=>ps.toList ++ wrs a ++ wrs b
  | _=>[]
def memN (i:Nat):List Nat→Bool
  | []=>false
  | j::l=>Nat.beq i j || memN i l
def findAnn (i:Nat):List Ann→Option Ann
  | []=>none
  | a::l=>if Nat.beq a.key i then some a else findAnn i l
def getL (l:List (Nat×List X)) (t:Nat):Option (List X):=match l with
  | []=>none
  | (i,a)::l=>if Nat.beq i t then some a else getL l t
def headSt (st:St) (an:Ann) (ws:List Nat):St:=
  { sl:=an.sl ++ st.sl.filter (fun p=>!(memN p.1 ws) && (get an.sl p.1).isNone),
    bx:=(st.bx.filter (fun b=>!(memN b.id ws))).map (fun b=>match getL an.bx b.id with | some xs=>{ b with xs:=xs } | none=>b),
    fs:=an.fs ++ st.fs }
def T.blw (n:Nat):T→Bool
  | .v j=>Nat.blt j n
  | .n _=>true
  | .add a b=>a.blw n && b.blw n
  | .sub a b=>a.blw n && b.blw n
  | .mul a b=>a.blw n && b.blw n
  | .lt a b=>a.blw n && b.blw n
  | .le a b=>a.blw n && b.blw n
  | .eq a b=>a.blw n && b.blw n
  | .not a=>a.blw n
  | .and a b=>a.blw n && b.blw n
  | .or a b=>a.blw n && b.blw n
  | .ite a b d=>a.blw n && b.blw n && d.blw n
  | .ap _ l=>l.blw n
  | .e=>true
  | .c a b=>a.blw n && b.blw n
def put1 (i:Nat) (t:T):Nat→T:=fun j=>if Nat.beq j i then t else .v j
section
variable {P:Program} {F:Nat→List Int→Int}
def wpc (tab:List (Ctr P F)) (R:Rs) (anns:List Ann) (n:Nat) (rd:Array Oper→St→Res):Code→Nat→St→(Ex→St→Bool)→Bool
  | .skip,_,st,k=>k .normal st
  | .label _,_,st,k=>k .normal st
  | .region _ ops draw,_,st,k=>match draw with
    | false=>splits (runSeq tab n ops ops.toList) 24 st (k .normal)
    | true=>splits (rd ops) 24 st (k .normal)
  | .seq a b,np,st,k=>wpc tab R anns n rd a np st (fun e st'=>match e with
    | .normal=>wpc tab R anns n rd b np st' k
    | e=>k e st')
  | .cond c a b,np,st,k=>match evO st c with
    | some (.one (.sc (.b t)))=>match known2 st.fs t with
      | some true=>wpc tab R anns n rd a np st k
      | some false=>wpc tab R anns n rd b np st k
      | none=>match iteC (redI st.fs t) with
        | none=>wpc tab R anns n rd a np (withF st t) k && wpc tab R anns n rd b np (withF st (.not t)) k
        | some q=>(match known2 (withF st q).fs t with
            | some true=>wpc tab R anns n rd a np (withF st q) k
            | some false=>wpc tab R anns n rd b np (withF st q) k
            | none=>wpc tab R anns n rd a np (withF (withF st q) t) k && wpc tab R anns n rd b np (withF (withF st q) (.not t)) k) &&
          (match known2 (withF st (.not q)).fs t with
            | some true=>wpc tab R anns n rd a np (withF st (.not q)) k
            | some false=>wpc tab R anns n rd b np (withF st (.not q)) k
            | none=>wpc tab R anns n rd a np (withF (withF st (.not q)) t) k && wpc tab R anns n rd b np (withF (withF st (.not q)) (.not t)) k)
    | _=>false
  | .block id b,np,st,k=>wpc tab R anns n rd b np st (fun e st'=>match e with
    | .exit j=>if j=id then k .normal st' else k (.exit j) st'
    | e=>k e st')
  | .exit id,_,st,k=>k (.exit id) st
  | .ret,_,st,k=>k .ret st
  | .loop b,np,st,k=>match firstR b with
    | some key=>match findAnn key anns with
      | some an=>Nat.ble np an.var && an.m.blw (an.var+1) && allKnown (headSt st an (wrs b)).fs [.le (.n 0) an.m] &&
        leSt R st (headSt st an (wrs b)) (put1 an.var an.start) &&
        wpc tab R anns n rd b (an.var+1) (headSt st an (wrs b)) (fun e st'=>match e with
          | .normal=>leSt R st' (headSt st an (wrs b)) (put1 an.var (.add (.v an.var) (.n 1))) && allKnown st'.fs [.lt (an.m.inst (put1 an.var (.add (.v an.var) (.n 1)))) an.m]
          | e=>k e st')
      | none=>false
    | none=>false
  | _,_,_,_=>false
end
section
variable {F:Nat→List Int→Int} {P:Program} {w0:World} {n:Nat}
theorem jao {n i:Nat}:∀{t:T},t.blw n=true→t.occ i=true→i<n
  | .v j,h,k=>by
    have h':j<n:=by simpa [T.blw,Nat.blt_eq] using h
    have k':j=i:=Nat.eq_of_beq_eq_true k
    omega
  | .n _,_,k=>by cases k
  | .add a b,h,k=>by simp only [T.blw,T.occ,Bool.and_eq_true,Bool.or_eq_true] at h k;rcases k with k | k;exact jao h.1 k;exact jao h.2 k
  | .sub a b,h,k=>by simp only [T.blw,T.occ,Bool.and_eq_true,Bool.or_eq_true] at h k;rcases k with k | k;exact jao h.1 k;exact jao h.2 k
  | .mul a b,h,k=>by simp only [T.blw,T.occ,Bool.and_eq_true,Bool.or_eq_true] at h k;rcases k with k | k;exact jao h.1 k;exact jao h.2 k
  | .lt a b,h,k=>by simp only [T.blw,T.occ,Bool.and_eq_true,Bool.or_eq_true] at h k;rcases k with k | k;exact jao h.1 k;exact jao h.2 k
  | .le a b,h,k=>by simp only [T.blw,T.occ,Bool.and_eq_true,Bool.or_eq_true] at h k;rcases k with k | k;exact jao h.1 k;exact jao h.2 k
  | .eq a b,h,k=>by simp only [T.blw,T.occ,Bool.and_eq_true,Bool.or_eq_true] at h k;rcases k with k | k;exact jao h.1 k;exact jao h.2 k
  | .not a,h,k=>jao (t:=a) h k
  | .and a b,h,k=>by simp only [T.blw,T.occ,Bool.and_eq_true,Bool.or_eq_true] at h k;rcases k with k | k;exact jao h.1 k;exact jao h.2 k
  | .or a b,h,k=>by simp only [T.blw,T.occ,Bool.and_eq_true,Bool.or_eq_true] at h k;rcases k with k | k;exact jao h.1 k;exact jao h.2 k
  | .ite a b d,h,k=>by simp only [T.blw,T.occ,Bool.and_eq_true,Bool.or_eq_true] at h k;rcases k with (k | k) | k;exact jao h.1.1 k;exact jao h.1.2 k;exact jao h.2 k
  | .ap _ l,h,k=>jao (t:=l) h k
  | .e,_,k=>by cases k
  | .c a b,h,k=>by simp only [T.blw,T.occ,Bool.and_eq_true,Bool.or_eq_true] at h k;rcases k with k | k;exact jao h.1 k;exact jao h.2 k
theorem jo1 {i:Nat} {t:T} {ρ:Nat→Int} {j:Nat} (h:j≠i):(put1 i t j).den F ρ=ρ j:=by
  unfold put1;rw [if_neg]
  · rfl
  · intro e;exact h (Nat.eq_of_beq_eq_true e)
def DrawOK (P:Program) (F:Nat→List Int→Int) (w0:World) (n:Nat) (rd:Array Oper→St→Res):Prop:=∀{id:Nat} {ops:Array Oper} {st st':St} {ρ:Nat→Int} {β:Nat→Nat} {a:Act} {w:World} {Q:Exit→Act→World→Prop},
  SH F ρ β w0 n st a w→rd ops st=.ok st'→(∀β' a' w',SH F ρ β' w0 n st' a' w'→Q .normal a' w')→(Code.region id ops true).wp P Q a w
theorem jdc {tab:List (Ctr P F)} {R:Rs} (hR:RsOK F R) {anns:List Ann} {rd:Array Oper→St→Res} (hrd:DrawOK P F w0 n rd):∀(c:Code) {np:Nat} {st:St} {k:Ex→St→Bool} {ρ:Nat→Int} {β:Nat→Nat} {a:Act} {w:World} {Q:Exit→Act→World→Prop},
    wpc tab R anns n rd c np st k=true→SH F ρ β w0 n st a w→
    (∀e st' ρ' β' a' w',(∀i,i<np→ρ' i=ρ i)→k e st'=true→SH F ρ' β' w0 n st' a' w'→Q e.to a' w')→c.wp P Q a w
  | .skip,np,st,k,ρ,β,a,w,Q,h,hs,hq=>wp_skip (hq .normal st ρ β a w (fun _ _=>rfl) h hs)
  | .label l,np,st,k,ρ,β,a,w,Q,h,hs,hq=>wp_label (hq .normal st ρ β a w (fun _ _=>rfl) h hs)
  | .region id ops false,np,st,k,ρ,β,a,w,Q,h,hs,hq=>jqf hs h fun st' β' a' w' hk hs'=>hq .normal st' ρ β' a' w' (fun _ _=>rfl) hk hs'
  | .region id ops true,np,st,k,ρ,β,a,w,Q,h,hs,hq=>
    jfu h hs fun st0 st' e hk hs0=>hrd hs0 e fun β' a' w' hs'=>hq .normal st' ρ β' a' w' (fun _ _=>rfl) hk hs'
  | .seq x y,np,st,k,ρ,β,a,w,Q,h,hs,hq=>wp_seq (jdc hR hrd x h hs fun e st' ρ' β' a' w' hag hk hs'=>by
      cases e with
      | normal=>exact jdc hR hrd y hk hs' fun e st'' ρ'' β'' a'' w'' hag' hk' hs''=>hq e st'' ρ'' β'' a'' w'' (fun i hi=>(hag' i hi).trans (hag i hi)) hk' hs''
      | exit j=>exact hq (.exit j) st' ρ' β' a' w' hag hk hs'
      | ret=>exact hq .ret st' ρ' β' a' w' hag hk hs')
  | .cond c x y,np,st,k,ρ,β,a,w,Q,h,hs,hq=>by
    simp only [wpc] at h
    split at h
    · rename_i t e
      have hv:a.eval c=.bool (t.bd F ρ):=List.head_eq_of_cons_eq (jay hs.sl e)
      split at h
      · rename_i e2
        refine wp_cond_true (by rw [hv,jar hs.fs t _ e2]) (jdc hR hrd x h hs hq)
      · rename_i e2
        refine wp_cond_false (by rw [hv,jar hs.fs t _ e2]) (jdc hR hrd y h hs hq)
      · have one:∀{st:St},SH F ρ β w0 n st a w→(wpc tab R anns n rd x np (withF st t) k && wpc tab R anns n rd y np (withF st (.not t)) k)=true→(Code.cond c x y).wp P Q a w:=fun hs h=>by
          rw [Bool.and_eq_true] at h
          cases ht:t.bd F ρ with
          | true=>exact wp_cond_true (by rw [hv,ht]) (jdc hR hrd x h.1 (hs.facts (jdb ht)) hq)
          | false=>exact wp_cond_false (by rw [hv,ht]) (jdc hR hrd y h.2 (hs.facts (jdb (by rw [jax,ht];rfl))) hq)
        split at h
        · exact one hs h
        · rename_i q _
          rw [Bool.and_eq_true] at h
          cases hqb:q.bd F ρ with
          | true=>
            have hs':=hs.facts (jdb (t:=q) hqb);have h1:=h.1
            split at h1
            · rename_i e2
              exact wp_cond_true (by rw [hv,jar hs'.fs t _ e2]) (jdc hR hrd x h1 hs' hq)
            · rename_i e2
              exact wp_cond_false (by rw [hv,jar hs'.fs t _ e2]) (jdc hR hrd y h1 hs' hq)
            · exact one hs' h1
          | false=>
            have hs':=hs.facts (jdb (t:=.not q) (by rw [jax,hqb];rfl));have h1:=h.2
            split at h1
            · rename_i e2
              exact wp_cond_true (by rw [hv,jar hs'.fs t _ e2]) (jdc hR hrd x h1 hs' hq)
            · rename_i e2
              exact wp_cond_false (by rw [hv,jar hs'.fs t _ e2]) (jdc hR hrd y h1 hs' hq)
            · exact one hs' h1
    · cases h
  | .block id b,np,st,k,ρ,β,a,w,Q,h,hs,hq=>wp_block (jdc hR hrd b h hs fun e st' ρ' β' a' w' hag hk hs'=>by
      cases e with
      | normal=>exact hq .normal st' ρ' β' a' w' hag hk hs'
      | exit j=>
        dsimp only at hk
        show if j=id then Q .normal a' w' else Q (.exit j) a' w'
        split at hk
        · rename_i e;rw [if_pos e];exact hq .normal st' ρ' β' a' w' hag hk hs'
        · rename_i e;rw [if_neg e];exact hq (.exit j) st' ρ' β' a' w' hag hk hs'
      | ret=>exact hq .ret st' ρ' β' a' w' hag hk hs')
  | .exit id,np,st,k,ρ,β,a,w,Q,h,hs,hq=>wp_exit (hq (.exit id) st ρ β a w (fun _ _=>rfl) h hs)
  | .ret,np,st,k,ρ,β,a,w,Q,h,hs,hq=>wp_ret (hq .ret st ρ β a w (fun _ _=>rfl) h hs)
  | .loop b,np,st,k,ρ,β,a,w,Q,h,hs,hq=>by
    simp only [wpc] at h
    split at h
    · split at h
      · rename_i key e an ea
        simp only [Bool.and_eq_true] at h;obtain ⟨⟨⟨⟨h1,h2⟩,h3⟩,h4⟩,h5⟩:=h;have hnp:np≤an.var:=Nat.le_of_ble_eq_true h1
        generalize hH:headSt st an (wrs b)=H at h3 h4 h5
        have key:∀(N:Nat) {ρ':Nat→Int} {β':Nat→Nat} {a':Act} {w':World},(∀i,i<np→ρ' i=ρ i)→(an.m.den F ρ').toNat<N→SH F ρ' β' w0 n H a' w'→Code.rounds P b Q N a' w':=by
          intro N
          induction N with
          | zero=>intro _ _ _ _ _ hm;omega
          | succ N ih=>
            intro ρ' β' a' w' hag hm hs';rw [rounds_succ];refine jdc hR hrd b h5 hs' fun e st'' ρ'' β'' a'' w'' hag' hk hs''=>?_
            have hag2:∀i,i<np→ρ'' i=ρ i:=fun i hi=>(hag' i (by omega)).trans (hag i hi)
            cases e with
            | normal=>
              dsimp only at hk
              rw [Bool.and_eq_true] at hk;have hs3:=jti hR hs'' hk.1;refine ih (ρ':=fun i=>(put1 an.var (.add (.v an.var) (.n 1)) i).den F ρ'') (fun i hi=>?_) ?_ hs3
              · rw [jo1 (by omega)];exact hag2 i hi
              · have hlt:=(jbg hs''.fs hk.2).1
                rw [bd_lt,decide_eq_true_eq,jgu] at hlt;have hnn:=(jbg hs3.fs h3).1;rw [bd_le,decide_eq_true_eq,jc8] at hnn;have hsame:an.m.den F ρ''=an.m.den F ρ':=(jam an.m fun i hi=>hag' i (jao h2 hi)).1
                omega
            | exit j=>exact hq (.exit j) st'' ρ'' β'' a'' w'' hag2 hk hs''
            | ret=>exact hq .ret st'' ρ'' β'' a'' w'' hag2 hk hs''
        have hs0:=jti hR hs h4;exact wp_loop_rounds _ (key _ (fun i hi=>jo1 (by omega)) (Nat.lt_succ_self _) hs0)
      · cases h
    · cases h
  | .rangeFunc _ _ _ _,_,_,_,_,_,_,_,_,h,_,_=>by cases h
  | .scope _,_,_,_,_,_,_,_,_,h,_,_=>by cases h
  | .goto _,_,_,_,_,_,_,_,_,h,_,_=>by cases h
  | .refuse _,_,_,_,_,_,_,_,_,h,_,_=>by cases h
end
end V
namespace V
def V1.blw (n:Nat):V1→Bool
  | .sc x=>x.tm.blw n
  | .ag xs=>xs.all (fun x=>x.tm.blw n)
  | .fn _ xs=>xs.all (fun x=>x.tm.blw n)
def A.blw (n:Nat):A→Bool
  | .one a=>a.blw n
  | .tup l=>l.all (V1.blw n)
  | .und=>true
def resX (P:Program) (st:St):List ResultVar→Option (List V1)
  | []=>some []
  | .tmp t::r=>match get st.sl t,resX P st r with
    | some (.one v),some vs=>some (v::vs)
    | _,_=>none
  | .cell t ty::r=>match get st.sl t,resX P st r with
    | some (.one (.sc (.p b o))),some vs=>match getB st.bx b with
      | some bb=>match partX P ty bb.xs o with
        | some v=>some (v::vs)
        | none=>none
      | none=>none
    | _,_=>none
def mkR:List V1→A
  | [v]=>.one v
  | vs=>.tup vs
section
variable {F:Nat→List Int→Int} {ρ ρ':Nat→Int} {β:Nat→Nat} {P:Program} {w w0:World} {n:Nat} {st:St} {a:Act}
theorem agreeX {np:Nat} (h:∀i,i<np→ρ' i=ρ i) {x:X} (k:x.tm.blw np=true) {cs:List Value} (hx:x.has F ρ' β w cs):x.has F ρ β w cs:=
  X.agree (jam x.tm fun i hi=>(h i (jao k hi)).symm).1 hx
theorem agreeL {np:Nat} (h:∀i,i<np→ρ' i=ρ i):∀{xs:List X} {cs:List Value},xs.all (fun x=>x.tm.blw np)=true→hasL F ρ' β w xs cs→hasL F ρ β w xs cs
  | [],_,_,k=>k
  | x::xs,_,e,⟨c,d,h1,h2,h3⟩=>by
    simp only [List.all_cons,Bool.and_eq_true] at e;exact ⟨c,d,h1,agreeX h e.1 h2,agreeL h e.2 h3⟩
theorem agreeV {np:Nat} (h:∀i,i<np→ρ' i=ρ i) {x:V1} {v:Value} (k:x.blw np=true) (hx:x.has F ρ' β w v):x.has F ρ β w v:=by
  cases x with
  | sc x=>exact agreeX h k hx
  | ag xs=>obtain ⟨cs,h1,h2⟩:=hx;exact ⟨cs,h1,agreeL h k h2⟩
  | fn f xs=>obtain ⟨cs,h1,h2⟩:=hx;exact ⟨cs,h1,agreeL h k h2⟩
theorem agreeVs {np:Nat} (h:∀i,i<np→ρ' i=ρ i):∀{xs:List V1} {vs:List Value},xs.all (V1.blw np)=true→hasV F ρ' β w xs vs→hasV F ρ β w xs vs
  | [],_,_,k=>k
  | x::xs,_,e,⟨c,d,h1,h2,h3⟩=>by
    simp only [List.all_cons,Bool.and_eq_true] at e;exact ⟨c,d,h1,agreeV h e.1 h2,agreeVs h e.2 h3⟩
theorem agreeA {np:Nat} (h:∀i,i<np→ρ' i=ρ i) {x:A} {v:Value} (k:x.blw np=true) (hx:x.has F ρ' β w v):x.has F ρ β w v:=by
  cases x with
  | one x=>exact agreeV h k hx
  | tup xs=>obtain ⟨cs,h1,h2⟩:=hx;exact ⟨cs,h1,agreeVs h k h2⟩
  | und=>exact hx
theorem agreeT {np:Nat} (h:∀i,i<np→ρ' i=ρ i):∀{l:List T},l.all (T.blw np)=true→allT F ρ' l→allT F ρ l
  | [],_,_=>trivial
  | t::l,e,k=>by
    simp only [List.all_cons,Bool.and_eq_true] at e;refine ⟨?_,agreeT h e.2 k.2⟩;have:=(jam (F:=F) t fun i hi=>(h i (jao e.1 hi)).symm).1;unfold T.bd;rw [this];exact k.1
def rvRun (P:Program) (tmps:Array Value):ResultVar→Sem Value
  | .tmp t=>pure (tmps.getD t undef)
  | .cell a t=>do loadVar t (← asAddr (tmps.getD a undef))
theorem jne (hs:SH F ρ β w0 n st a w):∀{l:List ResultVar} {vs:List V1},resX P st l=some vs→∃us:List Value,us.length=l.length∧(∀(i:Nat) rv,l[i]? = some rv→∃u,us[i]? = some u∧(rvRun P a.tmps rv).run P w=.ok u w)∧hasV F ρ β w vs us
  | [],vs,h=>by simp [resX] at h;subst h;exact ⟨[],rfl,fun i rv hi=>by simp at hi,rfl⟩
  | .tmp t::r,vs,h=>by
    simp only [resX] at h
    split at h
    · rename_i v vs' e1 e2
      cases h
      obtain ⟨us,h1,h2,h3⟩:=jne hs e2;refine ⟨a.tmps.getD t undef::us,by simp [h1],fun i rv hi=>?_,_,_,rfl,hs.sl t _ e1,h3⟩
      cases i with
      | zero=>simp at hi;subst hi;exact ⟨_,rfl,rfl⟩
      | succ i=>exact h2 i rv (by simpa using hi)
    · cases h
  | .cell t ty::r,vs,h=>by
    simp only [resX] at h
    split at h
    · rename_i b o vs' e1 e2
      split at h
      · rename_i bb e3
        split at h
        · rename_i v e4
          cases h
          obtain ⟨us,h1,h2,h3⟩:=jne hs e2;have hp:a.tmps.getD t undef=.pointer (some ⟨β b,o,none⟩):=List.head_eq_of_cons_eq (hs.sl t _ e1);obtain ⟨cs,k1,k2,k3⟩:=hs.bx.at_ b bb e3;obtain ⟨u,m1,m2⟩:=jlm (P:=P) k1 k3 e4;refine ⟨u::us,by simp [h1],fun i rv hi=>?_,_,_,rfl,m2,h3⟩
          cases i with
          | zero=>
            simp at hi;subst hi;refine ⟨u,rfl,?_⟩;simp only [Instr.loadAt,Instr.sureAddr,Sem.run_bind,Sem.run_pure,Result.andThen_ok] at m1;simp only [rvRun,hp,asAddr,Sem.run_bind,Sem.run_pure,Result.andThen_ok];exact m1
          | succ i=>exact h2 i rv (by simpa using hi)
        · cases h
      · cases h
    · cases h
theorem jz2 {tmps:Array Value}:∀(l:List ResultVar) (us:List Value),us.length=l.length→l.length≤4→(∀(i:Nat) rv,l[i]? = some rv→∃u,us[i]? = some u∧(rvRun P tmps rv).run P w=.ok u w)→
    (l.toArray.mapM (rvRun P tmps)).run P w=.ok us.toArray w
  | [],[],_,_,_=>by simp
  | [r1],[u1],_,_,h=>by
    obtain ⟨x1,g1,k1⟩:=h 0 r1 rfl
    cases g1
    simp [k1]
  | [r1,r2],[u1,u2],_,_,h=>by
    obtain ⟨x1,g1,k1⟩:=h 0 r1 rfl;obtain ⟨x2,g2,k2⟩:=h 1 r2 rfl
    cases g1;cases g2
    simp [k1,k2]
  | [r1,r2,r3],[u1,u2,u3],_,_,h=>by
    obtain ⟨x1,g1,k1⟩:=h 0 r1 rfl;obtain ⟨x2,g2,k2⟩:=h 1 r2 rfl;obtain ⟨x3,g3,k3⟩:=h 2 r3 rfl
    cases g1;cases g2;cases g3
    simp [k1,k2,k3]
  | [r1,r2,r3,r4],[u1,u2,u3,u4],_,_,h=>by
    obtain ⟨x1,g1,k1⟩:=h 0 r1 rfl;obtain ⟨x2,g2,k2⟩:=h 1 r2 rfl;obtain ⟨x3,g3,k3⟩:=h 2 r3 rfl;obtain ⟨x4,g4,k4⟩:=h 3 r4 rfl
    cases g1;cases g2;cases g3;cases g4
    simp [k1,k2,k3,k4]
  | _::_::_::_::_::_,_,_,hl,_=>by simp at hl
  | [],_::_,h,_,_=>by simp at h
  | [_],[],h,_,_=>by simp at h
  | [_],_::_::_,h,_,_=>by simp at h
  | [_,_],[],h,_,_=>by simp at h
  | [_,_],[_],h,_,_=>by simp at h
  | [_,_],_::_::_::_,h,_,_=>by simp at h
  | [_,_,_],[],h,_,_=>by simp at h
  | [_,_,_],[_],h,_,_=>by simp at h
  | [_,_,_],[_,_],h,_,_=>by simp at h
  | [_,_,_],_::_::_::_::_,h,_,_=>by simp at h
  | [_,_,_,_],[],h,_,_=>by simp at h
  | [_,_,_,_],[_],h,_,_=>by simp at h
  | [_,_,_,_],[_,_],h,_,_=>by simp at h
  | [_,_,_,_],[_,_,_],h,_,_=>by simp at h
  | [_,_,_,_],_::_::_::_::_::_,h,_,_=>by simp at h
theorem jo2:∀{vs:List V1} {us:List Value},hasV F ρ β w vs us→us.length=vs.length
  | [],_,h=>by rw [show _=[] from h];rfl
  | _::_,_,⟨u,r,e,_,k⟩=>by rw [e,List.length_cons,List.length_cons,jo2 k]
theorem j2u:∀{vs:List V1} {us:List Value},hasV F ρ β w vs us→(mkR vs).has F ρ β w (if h:us.toArray.size=1 then us.toArray[0] else .tuple us.toArray)
  | [],_,h=>by rw [show _=[] from h];exact ⟨[],rfl,rfl⟩
  | [v],_,⟨u,r,e,m,k⟩=>by
    rw [show r=[] from k] at e;subst e;exact m
  | v1::v2::vs,us,h=>by
    have hl:=jo2 h;rw [dif_neg (by simp at hl ⊢;omega)];exact ⟨us,rfl,h⟩
theorem ji2 (hs:SH F ρ β w0 n st a w) {fn:Func} {vs:List V1} (hlen:fn.results.toList.length≤4) (h:resX P st fn.results.toList=some vs):∃u,(results fn a.tmps).run P w=.ok u w∧(mkR vs).has F ρ β w u:=by
  obtain ⟨us,h1,h2,h3⟩:=jne hs h;refine ⟨_,?_,j2u h3⟩
  have hf:results fn a.tmps=(do let vs ← fn.results.mapM (rvRun P a.tmps);pure (if h:vs.size=1 then vs[0] else .tuple vs)):=by
    unfold results
    congr 1
  have hr:fn.results=fn.results.toList.toArray:=by simp
  rw [hf,hr,Sem.run_bind,jz2 _ us h1 hlen h2]
  rfl
end
end V
namespace V
structure Spec where
  f:FuncId
  ps:List A
  bx:List (Nat×TypeId×List X)
  np:Nat
  fs:List T
  res:A
  post:List T
def numb:Nat→List A→List (Nat×A)
  | _,[]=>[]
  | i,a::l=>(i,a)::numb (i+1) l
def Spec.st (sp:Spec):St:={ sl:=numb 0 sp.ps,bx:=sp.bx.map (fun b=>⟨b.1,b.2.1,b.2.2,true⟩),fs:=sp.fs }
def fin (P:Program) (R:Rs) (sp:Spec) (rs:List ResultVar) (e:Ex) (st:St):Bool:=match e with
  | .exit _=>false
  | _=>match resX P st rs with
    | some vs=>leA R st.fs (mkR vs) sp.res && allKnown st.fs sp.post
    | none=>false
def X.isP:X→Bool
  | .p _ _=>true
  | _=>false
def V1.noP:V1→Bool
  | .sc x=>!x.isP
  | .ag xs=>xs.all (fun x=>!x.isP)
  | .fn _ xs=>xs.all (fun x=>!x.isP)
def A.noP:A→Bool
  | .one a=>a.noP
  | .tup l=>l.all V1.noP
  | .und=>true
def checkF {P:Program} {F:Nat→List Int→Int} (tab:List (Ctr P F)) (R:Rs) (anns:List Ann) (rd:Nat→Array Oper→St→Res) (sp:Spec):Bool:=
  match P.funcs[sp.f]? with
  | some fn=>match fn.body with
    | some c=>!(fn.name == "runtime.NumGoroutine") && Nat.ble sp.ps.length fn.ntmps && Nat.ble fn.results.toList.length 4 && sp.res.blw sp.np && sp.res.noP && sp.post.all (T.blw sp.np) &&
      wpc tab R anns fn.ntmps (rd fn.ntmps) c sp.np sp.st (fin P R sp fn.results.toList)
    | none=>false
  | none=>false
section
variable {F:Nat→List Int→Int} {ρ ρ':Nat→Int} {β β':Nat→Nat} {P:Program} {w w0:World} {n:Nat} {st:St} {a:Act}
theorem j2v {x:X} (k:(!x.isP)=true) {cs:List Value} (h:x.has F ρ β w cs):x.has F ρ β' w cs:=by
  cases x with
  | p q o=>cases k
  | _=>exact h
theorem jz3:∀{xs:List X} {cs:List Value},xs.all (fun x=>!x.isP)=true→hasL F ρ β w xs cs→hasL F ρ β' w xs cs
  | [],_,_,k=>k
  | x::xs,_,e,⟨c,d,h1,h2,h3⟩=>by
    rw [List.all_cons,Bool.and_eq_true] at e;exact ⟨c,d,h1,j2v e.1 h2,jz3 e.2 h3⟩
theorem j2w {x:V1} {v:Value} (k:x.noP=true) (hx:x.has F ρ β w v):x.has F ρ β' w v:=by
  cases x with
  | sc x=>exact j2v k hx
  | ag xs=>obtain ⟨cs,h1,h2⟩:=hx;exact ⟨cs,h1,jz3 k h2⟩
  | fn f xs=>obtain ⟨cs,h1,h2⟩:=hx;exact ⟨cs,h1,jz3 k h2⟩
theorem jxl:∀{xs:List V1} {vs:List Value},xs.all V1.noP=true→hasV F ρ β w xs vs→hasV F ρ β' w xs vs
  | [],_,_,k=>k
  | x::xs,_,e,⟨c,d,h1,h2,h3⟩=>by
    simp only [List.all_cons,Bool.and_eq_true] at e;exact ⟨c,d,h1,j2w e.1 h2,jxl e.2 h3⟩
theorem j2x {x:A} {v:Value} (k:x.noP=true) (hx:x.has F ρ β w v):x.has F ρ β' w v:=by
  cases x with
  | one x=>exact j2w k hx
  | tup xs=>obtain ⟨cs,h1,h2⟩:=hx;exact ⟨cs,h1,jxl k h2⟩
  | und=>exact hx
theorem jj6:∀{l:List A} {vs:List Value},hasA F ρ β w l vs→vs.length=l.length
  | [],_,h=>by rw [show _=[] from h];rfl
  | _::_,_,⟨u,r,e,_,k⟩=>by rw [e,List.length_cons,List.length_cons,jj6 k]
theorem jh2:∀{l:List A} {vs:List Value} {i t:Nat} {x:A},hasA F ρ β w l vs→get (numb i l) t=some x→i≤t∧t<i+l.length∧∃u,vs[t - i]? = some u∧x.has F ρ β w u
  | [],_,_,_,_,_,h=>by cases h
  | y::l,_,i,t,x,⟨u,r,e,m,k⟩,h=>by
    simp only [numb,get] at h
    split at h
    · rename_i e2
      cases h
      have e3:i=t:=Nat.eq_of_beq_eq_true e2;subst e3;exact ⟨Nat.le_refl _,by simp,u,by rw [e];simp,m⟩
    · obtain ⟨h1,h2,v,h3,h4⟩:=jh2 k h
      refine ⟨by omega,by simp;omega,v,?_,h4⟩;rw [e,show t - i=(t - (i+1))+1 by omega,List.getElem?_cons_succ];exact h3
theorem jvs {tab:List (Ctr P F)} {R:Rs} (hR:RsOK F R) {anns:List Ann} {rd:Nat→Array Oper→St→Res} (hrd:∀n (w0:World),DrawOK P F w0 n (rd n)) {sp:Spec} (hc:checkF tab R anns rd sp=true)
    {vs:List Value} (ha:hasA F ρ β w sp.ps vs) (hb:bxOK F ρ β w sp.st.bx) (hf:allT F ρ sp.fs) :
    allT F ρ sp.post∧Enters P sp.f∧Calls P sp.f vs.toArray w (fun e w'=>Below w.heap.size w w'∧∃u,e=.returned u∧sp.res.has F ρ β w' u):=by
  unfold checkF at hc
  split at hc
  · rename_i fn hfn
    split at hc
    · rename_i c hbody
      simp only [Bool.and_eq_true,Bool.not_eq_true'] at hc;obtain ⟨⟨⟨⟨⟨⟨h0,h1⟩,h2⟩,h3⟩,h6⟩,h4⟩,h5⟩:=hc;have hlen:=jj6 ha;have hps:sp.ps.length≤fn.ntmps:=Nat.le_of_ble_eq_true h1
      have hs:SH F ρ β w fn.ntmps sp.st { tmps:=vs.toArray ++ Array.replicate (fn.ntmps - vs.toArray.size) undef,defers:=[] } w:=by
        refine ⟨fun t x hx=>?_,hb,fun i b hi hr=>?_,hf,Below.refl _ _,rfl,by simp;omega,fun d x hx=>?_⟩
        · obtain ⟨-,h7,u,h8,h9⟩:=jh2 (i:=0) ha hx
          have:(vs.toArray ++ Array.replicate (fn.ntmps - vs.toArray.size) undef).getD t undef=u:=by
            simp only [Nat.sub_zero] at h8;rw [Array.getD_eq_getD_getElem?,Array.getElem?_append_left (by simp;omega)];simp [h8]
          show x.has F ρ β w ((vs.toArray ++ Array.replicate (fn.ntmps - vs.toArray.size) undef).getD t undef)
          rw [this];exact h9
        · have:b.ro=true:=by
            obtain ⟨m1,-⟩:=jfs hi;obtain ⟨y,-,e⟩:=List.mem_map.1 m1;rw [←e]
          rw [this] at hr
          cases hr
        · have:=(jh2 (i:=0) ha hx).2.1
          omega
      have hcalls:Calls P sp.f vs.toArray w (fun e w'=>allT F ρ sp.post∧Below w.heap.size w w'∧∃u,e=.returned u∧sp.res.has F ρ β w' u):=by
        refine calls_of_wp hfn hbody (jdc hR (hrd fn.ntmps w) c h5 hs fun e st' ρ' β' a' w' hag hk hs'=>?_)
        have main:fin P R sp fn.results.toList e st'=true→(a'.defers=[]∧∃v,(results fn a'.tmps).run P w'=.ok v w'∧(allT F ρ sp.post∧Below w.heap.size w w'∧∃u,Ending.returned v=.returned u∧sp.res.has F ρ β w' u)):=fun hk=>by
          have hk':∃vs',resX P st' fn.results.toList=some vs'∧leA R st'.fs (mkR vs') sp.res=true∧allKnown st'.fs sp.post=true:=by
            unfold fin at hk
            split at hk
            · cases hk
            · split at hk
              · rename_i vs' e'
                rw [Bool.and_eq_true] at hk;exact ⟨vs',e',hk.1,hk.2⟩
              · cases hk
          obtain ⟨vs',k1,k2,k3⟩:=hk';obtain ⟨u,m1,m2⟩:=ji2 (P:=P) hs' (Nat.le_of_ble_eq_true h2) k1;exact ⟨hs'.df,u,m1,agreeT hag h4 (jbg hs'.fs k3),hs'.low,u,rfl,j2x h6 (agreeA hag h3 (jth hR hs'.fs k2 m2))⟩
        cases e with
        | normal=>exact main hk
        | exit id=>cases hk
        | ret=>exact main hk
      refine ⟨?_,enters_of hfn h0 hbody,hcalls.mono fun e w' h=>h.2⟩;obtain ⟨e,w',fr,hr,-⟩:=hcalls [];exact hr.1
    · cases hc
  · cases hc
end
end V
end
end
end Go.Proofs.YtcjklbakhlehhaaGreat