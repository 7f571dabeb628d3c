/- V: the rows, by evaluation: Exp, Sin, Cos; the loops of Atanh and Atan. -/
import Derived.Test.YtllgjggkchgpbaaGreatVe
import Derived.Test.YtllgjggkchgpbaaGreatVq
set_option linter.unusedVariables false
set_option linter.unusedSimpArgs false
namespace Go.Proofs.YtllgjggkchgpbaaGreat
open Go.RowKit Go.Shelf
namespace V
noncomputable def inl {g:Nat→List Int→Int} (tab:List (Ctr Tryz.prog (stdF g))) (f:FuncId) (he:entersB Tryz.prog f=true):Ctr Tryz.prog (stdF g):=Ctr.inl follows_any tab f (jan he)
def p2 (t:T):T:=ap1 0 t
def ap3 (f:Nat) (a b c:T):T:=.ap f (.c a (.c b (.c c .e)))
def ap4 (f:Nat) (a b c d:T):T:=.ap f (.c a (.c b (.c c (.c d .e))))
def pr (k:Nat) (a b:T):A:=.one (.ag [.z k true a,.z k true b])
def pa (k:Nat) (a b:T):A:=.one (.ag [.z k false a,.z k false b])
section
variable (g:Nat→List Int→Int)
noncomputable def rows1:List (Ctr Tryz.prog (stdF g)):=
  inl (stdT g) 223 (by kernel_rfl) :: -- opt
  inl (stdT g) 295 (by kernel_rfl) :: -- opt
  inl (stdT g) 225 (by kernel_rfl) :: -- opt
  inl (stdT g) 263 (by kernel_rfl) :: -- opt
  inl (stdT g) 261 (by kernel_rfl) :: -- opt
  inl (stdT g) 207 (by kernel_rfl) :: -- opt
  stdT g
noncomputable def rows2:List (Ctr Tryz.prog (stdF g)):=
  inl (rows1 g) 226 (by kernel_rfl) :: -- opt
  inl (rows1 g) 262 (by kernel_rfl) :: -- opt
  inl (rows1 g) 224 (by kernel_rfl) :: -- opt
  inl (rows1 g) 293 (by kernel_rfl) :: -- opt
  inl (rows1 g) 294 (by kernel_rfl) :: -- opt
  rows1 g
noncomputable def rows3:List (Ctr Tryz.prog (stdF g)):=
  inl (rows2 g) 210 (by kernel_rfl) :: -- opt
  rows2 g
end
end V
namespace V
def row (f:Nat) (i:T):T:=ap3 f (.v 2) (.v 1) i
def k1:T:=.add (.v 3) (.n 1)
def q2:T:=p2 (.v 2)
def tt:T:=.mul (.v 1) (.v 1)
def rowF (m n:Int):List T:=[.le (.n 0) (.v 2),.le (.v 2) (.n 1200),.le (.n 0) (ap1 4 (.v 1)),.le (ap2 5 (.mul (.v 1) (ap1 0 (.n 1))) (.mul (.n m) q2)) (.n 0),.le (.n 1) (.v 0),.le (.v 0) (.n n)]
def inF (m n:Int) (i:T):List T:=rowF m n ++ [.le (.n 0) i,.le i (.n 802)]
def odd3:T:=.eq (ap2 2 (.v 3) (.n 2)) (.n 1)
def oddD:T:=.mul (.add (.mul (.n 2) (.v 3)) (.n 1)) (p2 (.n 0))
def n2:T:=.mul (.n 2) (.v 0)
def sinD:T:=.mul (.mul (.mul (.n 2) k1) (.add (.mul (.n 2) k1) (.n 1))) (p2 (.mul (.n 2) (.v 2)))
def cosD:T:=.mul (.mul (.mul (.sub (.mul (.n 2) k1) (.n 1)) (.n 2)) k1) (p2 (.mul (.n 2) (.v 2)))
def ge0:List T:=[.le (.n 0) (.v 3)]
def gR (h:Nat→List Int→Int):Nat→List Int→Int
  | 0,[q,t,i]=>rA (dExp q) t (1*2^q.toNat) i.toNat
  | 1,[q,t,i]=>rB (dExp q) t (1*2^q.toNat) i.toNat
  | 2,[q,t,i]=>su (rA (dExp q) t (1*2^q.toNat)) i.toNat
  | 3,[q,t,i]=>su (rB (dExp q) t (1*2^q.toNat)) i.toNat
  | 4,[q,t,i]=>rA (dPow q) (t*t) t i.toNat
  | 5,[q,t,i]=>rB (dPow q) (t*t) t i.toNat
  | 6,[q,t,i]=>su (oA (rA (dPow q) (t*t) t)) i.toNat
  | 7,[q,t,i]=>su (oB (rB (dPow q) (t*t) t)) i.toNat
  | 8,[q,t,i]=>tu (oA (rA (dPow q) (t*t) t)) (oB (rB (dPow q) (t*t) t)) i.toNat
  | 9,[q,t,i]=>tu (oB (rB (dPow q) (t*t) t)) (oA (rA (dPow q) (t*t) t)) i.toNat
  | 10,[q,t,i]=>rA (dSin q) (t*t) t i.toNat
  | 11,[q,t,i]=>rB (dSin q) (t*t) t i.toNat
  | 12,[q,t,i]=>tu (rA (dSin q) (t*t) t) (rB (dSin q) (t*t) t) i.toNat
  | 13,[q,t,i]=>tu (rB (dSin q) (t*t) t) (rA (dSin q) (t*t) t) i.toNat
  | 14,[q,t,i]=>rA (dCos q) (t*t) (1*2^q.toNat) i.toNat
  | 15,[q,t,i]=>rB (dCos q) (t*t) (1*2^q.toNat) i.toNat
  | 16,[q,t,i]=>tu (rA (dCos q) (t*t) (1*2^q.toNat)) (rB (dCos q) (t*t) (1*2^q.toNat)) i.toNat
  | 17,[q,t,i]=>tu (rB (dCos q) (t*t) (1*2^q.toNat)) (rA (dCos q) (t*t) (1*2^q.toNat)) i.toNat
  | 18,[q,t,n]=>atanhLo t q n.toNat
  | 19,[q,t,n]=>atanhHi t q n.toNat
  | 20,[q,t,n]=>atanLo t q n.toNat
  | 21,[q,t,n]=>atanHi t q n.toNat
  | n,l=>if n<32 then 0 else h (n - 32) l
theorem jpl {g:Nat→List Int→Int} {ρ:Nat→Int} {m n:Int} {i:T} (h:allT (stdF g) ρ (inF m n i)):0≤ρ 2∧ρ 2≤1200∧0≤ρ 1∧ρ 1*2≤m*2^(ρ 2).toNat∧(i.den (stdF g) ρ).toNat≤802:=by
  obtain ⟨f1,f2,f3,f4,f5,f6,f7,f8,-⟩:=h;have e1:0≤ρ 2:=jaa f1;have e2:ρ 2≤1200:=jaa f2;have e3:0≤(ρ 1).sign:=jaa f3;have e4:cmpZ (ρ 1*2^(1:Int).toNat) (m*2^(ρ 2).toNat)≤0:=jaa f4;have e5:ρ 1*2≤m*2^(ρ 2).toNat:=(jce _ _).1 e4;have e7:=jaa f7;have e8:=jaa f8;rw [jc7] at e7 e8;exact ⟨e1,e2,Int.sign_nonneg_iff.1 e3,e5,by omega⟩
theorem jlw {F:Nat→List Int→Int} {ρ:Nat→Int} {a b:T} (h:allT F ρ [.le a b,.not (.lt a b)]):a.den F ρ=b.den F ρ:=by
  have h1:=jaa h.1;have h2:=h.2.1;rw [jax,bd_lt,Bool.not_eq_true',decide_eq_false_iff_not] at h2
  omega
theorem jak {x:Int} (h:0≤x):(x+1).toNat=x.toNat+1:=by omega
theorem jf7 {x:Int} (h:x≤1200):(1:Int)*2^x.toNat≤2^1203:=by
  rw [Int.one_mul];exact jl2 (by omega) (by omega)
theorem t_le {t q m:Int} (hq:q≤1200) (hm:m≤4) (h:t*2≤m*2^q.toNat):t≤2^1203:=by
  have h1:(2:Int)^q.toNat≤2^1200:=jl2 (by omega) (by omega);have h2:(0:Int)<2^q.toNat:=Int.pow_pos (by omega);have h3:m*2^q.toNat≤4*2^q.toNat:=Int.mul_le_mul_of_nonneg_right hm (Int.le_of_lt h2);have h4:(2:Int)^1203=8*2^1200:=by rw [show (1203:Nat)=3+1200 from rfl,Int.pow_add];rfl
  have h5:(0:Int)<2^1200:=Int.pow_pos (by omega)
  generalize (2:Int)^1203=a at h4 ⊢
  generalize (2:Int)^1200=b at *
  generalize (2:Int)^q.toNat=c at *
  omega
theorem jiv {g:Nat→List Int→Int} {ρ:Nat→Int} (h0:0≤ρ 3) (h:odd3.bd (stdF g) ρ=true):(ρ 3).toNat%2=1:=by
  have h':((ρ 3)%2 == 1)=true:=by rw [odd3,jcy] at h;exact h
  have:(ρ 3)%2=1:=by simpa using h'
  omega
theorem jiw {g:Nat→List Int→Int} {ρ:Nat→Int} (h0:0≤ρ 3) (h:(T.not odd3).bd (stdF g) ρ=true):¬ (ρ 3).toNat%2=1:=by
  have h':(!((ρ 3)%2 == 1))=true:=by rw [jax,odd3,jcy] at h;exact h
  have:¬ (ρ 3)%2=1:=by simpa using h'
  omega
end V
namespace V
def expR:Rs:={ rs:=[⟨[.le (.v 3) (.v 0),.not (.lt (.v 3) (.v 0))],.v 3,.v 0⟩,⟨[],row 16 (.n 0),q2⟩,⟨[],row 17 (.n 0),q2⟩,⟨[],row 18 (.n 0),.n 0⟩,⟨[],row 19 (.n 0),.n 0⟩,⟨ge0,ap2 1 (.mul (row 16 (.v 3)) (.v 1)) (.mul k1 q2),row 16 k1⟩,⟨ge0,ap2 3 (.mul (row 17 (.v 3)) (.v 1)) (.mul k1 q2),row 17 k1⟩,⟨ge0,.add (row 18 (.v 3)) (row 16 (.v 3)),row 18 k1⟩,⟨ge0,.add (row 19 (.v 3)) (row 17 (.v 3)),row 19 k1⟩],ft:=[.n 0,.v 3,k1].flatMap fun i=>[⟨inF 2 400 i,row 16 i,40⟩,⟨inF 2 400 i,row 17 i,40⟩,⟨inF 2 400 i,row 18 i,40⟩,⟨inF 2 400 i,row 19 i,40⟩] }
def riseAnn (a:Nat) (c:Bool):Ann:={ key:=3,var:=3,start:=.n 0,sl:=[(14,i64 (.v 3))],bx:=[(11,[.z 40 true (row (a+2) (.v 3)),.z 40 true (row (a+3) (.v 3))]),(5,[.z 40 c (row a (.v 3)),.z 40 c (row (a+1) (.v 3))])],fs:=[.le (.n 0) (.v 3),.le (.v 3) (.v 0),.le (.v 3) (.n 400)],m:=.sub (.v 0) (.v 3) }
def expRise:Spec:={ f:=208,ps:=[i64 (.v 0),pr 127 q2 q2,.one (.fn 262 [.p 100 0,.p 101 0]),.one (.fn 263 [])],bx:=[(100,26,[.z 40 false (.v 1)]),(101,3,[.i .i64 (.v 2)])],np:=3,fs:=rowF 2 400,res:=.tup [zV 40 (row 18 (.v 0)),zV 140 (.add (row 19 (.v 0)) (.mul (row 17 (.v 0)) (ap1 0 (.n 1)))),.sc (.i .i64 (.n 0))],post:=[] }
set_option maxRecDepth 100000 in
theorem expRiseC (g:Nat→List Int→Int):checkF (P:=Tryz.prog) (rows3 g) expR [riseAnn 16 true] (drawX (rows3 g)) expRise=true:=by kernel_rfl
theorem j0r (h:Nat→List Int→Int):RsOK (stdF (gR h)) expR:=by
  refine ⟨fun r hr ρ hc=>?_,fun r hr ρ hc=>?_⟩
  · simp only [expR,List.mem_cons,List.not_mem_nil,or_false] at hr
    rcases hr with rfl | rfl | rfl | rfl | rfl | rfl | rfl | rfl | rfl
    · exact jlw hc
    · show rA (dExp (ρ 2)) (ρ 1) (1*2^(ρ 2).toNat) 0=2^(ρ 2).toNat
      exact Int.one_mul _
    · show rB (dExp (ρ 2)) (ρ 1) (1*2^(ρ 2).toNat) 0=2^(ρ 2).toNat
      exact Int.one_mul _
    · rfl
    · rfl
    · have h1:0≤ρ 3:=jaa hc.1
      show rA (dExp (ρ 2)) (ρ 1) (1*2^(ρ 2).toNat) (ρ 3).toNat*ρ 1 / ((ρ 3+1)*2^(ρ 2).toNat)=rA (dExp (ρ 2)) (ρ 1) (1*2^(ρ 2).toNat) (ρ 3+1).toNat
      rw [jak h1,show (ρ 3+1)*2^(ρ 2).toNat=dExp (ρ 2) ((ρ 3).toNat+1) by unfold dExp;congr 1;omega]
      rfl
    · have h1:0≤ρ 3:=jaa hc.1
      show vUp (rB (dExp (ρ 2)) (ρ 1) (1*2^(ρ 2).toNat) (ρ 3).toNat*ρ 1) ((ρ 3+1)*2^(ρ 2).toNat)=rB (dExp (ρ 2)) (ρ 1) (1*2^(ρ 2).toNat) (ρ 3+1).toNat
      rw [jak h1,show (ρ 3+1)*2^(ρ 2).toNat=dExp (ρ 2) ((ρ 3).toNat+1) by unfold dExp;congr 1;omega]
      rfl
    · have h1:0≤ρ 3:=jaa hc.1
      show su _ (ρ 3).toNat+rA _ _ _ (ρ 3).toNat=su _ (ρ 3+1).toNat
      rw [jak h1]
      rfl
    · have h1:0≤ρ 3:=jaa hc.1
      show su _ (ρ 3).toNat+rB _ _ _ (ρ 3).toNat=su _ (ρ 3+1).toNat
      rw [jak h1]
      rfl
  · simp only [expR,List.flatMap_cons,List.flatMap_nil,List.cons_append,List.nil_append,List.mem_cons,List.not_mem_nil,or_false] at hr
    rcases hr with rfl | rfl | rfl | rfl | rfl | rfl | rfl | rfl | rfl | rfl | rfl | rfl
    all_goals
      obtain ⟨e1,e2,e3,e4,hi⟩:=jpl hc;have hl:=j05 e3 e4
      first
        | exact hl.la (jf7 e2) _ hi
        | exact hl.lb (jf7 e2) _ hi
        | exact hl.sa (jf7 e2) _ hi
        | exact hl.sb (jf7 e2) _ hi
end V
namespace V
def powD:T:=p2 (.mul (.n 2) (.v 2))
def powR:Rs:={ rs:=[⟨[.le (.v 3) (.v 0),.not (.lt (.v 3) (.v 0))],.v 3,.v 0⟩,⟨[.le (.v 3) n2,.not (.lt (.v 3) n2)],.v 3,n2⟩,⟨[],row 20 (.n 0),.v 1⟩,⟨[],row 21 (.n 0),.v 1⟩,⟨[],row 22 (.n 0),.n 0⟩,⟨[],row 23 (.n 0),.n 0⟩,⟨[],row 24 (.n 0),.n 0⟩,⟨[],row 25 (.n 0),.n 0⟩,⟨ge0,ap2 1 (.mul (row 20 (.v 3)) tt) powD,row 20 k1⟩,⟨ge0,ap2 3 (.mul (row 21 (.v 3)) tt) powD,row 21 k1⟩,⟨ge0,.add (row 22 (.v 3)) (ap2 1 (row 20 (.v 3)) oddD),row 22 k1⟩,⟨ge0,.add (row 23 (.v 3)) (ap2 3 (row 21 (.v 3)) oddD),row 23 k1⟩,⟨ge0 ++ [odd3],.sub (row 24 (.v 3)) (ap2 3 (row 21 (.v 3)) oddD),row 24 k1⟩,⟨ge0 ++ [.not odd3],.add (row 24 (.v 3)) (ap2 1 (row 20 (.v 3)) oddD),row 24 k1⟩,⟨ge0 ++ [odd3],.sub (row 25 (.v 3)) (ap2 1 (row 20 (.v 3)) oddD),row 25 k1⟩,⟨ge0 ++ [.not odd3],.add (row 25 (.v 3)) (ap2 3 (row 21 (.v 3)) oddD),row 25 k1⟩],ft:=[.n 0,.v 3,k1].flatMap fun i=>[⟨inF 1 400 i,row 20 i,40⟩,⟨inF 1 400 i,row 21 i,40⟩,⟨inF 1 400 i,row 22 i,40⟩,⟨inF 1 400 i,row 23 i,40⟩,⟨inF 1 400 i,row 24 i,40⟩,⟨inF 1 400 i,row 25 i,40⟩] }
def powRise:Spec:={ f:=208,ps:=[i64 (.v 0),pa 40 (.v 1) (.v 1),.one (.fn 224 [.p 100 0,.p 101 0]),.one (.fn 210 [])],bx:=[(100,26,[.z 80 false tt]),(101,3,[.i .i64 (.v 2)])],np:=3,fs:=rowF 1 400,res:=.tup [zV 40 (row 22 (.v 0)),zV 140 (.add (row 23 (.v 0)) (.mul (ap2 3 (.mul (row 21 (.v 0)) (.n 1)) (.mul (.add (.mul (.n 2) (.v 0)) (.n 1)) (p2 (.n 0)))) (ap1 0 (.n 1)))),.sc (.i .i64 (.n 0))],post:=[] }
set_option maxRecDepth 100000 in
theorem powRiseC (g:Nat→List Int→Int):checkF (P:=Tryz.prog) (rows3 g) powR [riseAnn 20 false] (drawX (rows3 g)) powRise=true:=by kernel_rfl
def turnAnn (a b:Nat):Ann:={ key:=3,var:=3,start:=.n 0,sl:=[(16,i64 (.v 3))],bx:=[(11,[.z 40 true (row b (.v 3)),.z 40 true (row (b+1) (.v 3))]),(5,[.z 40 false (row a (.v 3)),.z 40 false (row (a+1) (.v 3))])],fs:=[.le (.n 0) (.v 3),.le (.v 3) n2,.le (.v 3) (.n 800)],m:=.sub n2 (.v 3) }
def powTurn:Spec:={ f:=292,ps:=[i64 (.v 0),pa 40 (.v 1) (.v 1),.one (.fn 224 [.p 100 0,.p 101 0]),.one (.fn 210 [])],bx:=[(100,26,[.z 80 false tt]),(101,3,[.i .i64 (.v 2)])],np:=3,fs:=rowF 1 400 ++ [.le n2 (.n 800)],res:=.tup [zV 40 (row 24 n2),zV 140 (.add (row 25 n2) (ap2 3 (.mul (row 21 n2) (.n 1)) (.mul (.add (.mul (.n 2) n2) (.n 1)) (p2 (.n 0))))),.sc (.i .i64 (.n 0))],post:=[] }
set_option maxRecDepth 100000 in
theorem powTurnC (g:Nat→List Int→Int):checkF (P:=Tryz.prog) (rows3 g) powR [turnAnn 20 24] (drawX (rows3 g)) powTurn=true:=by kernel_rfl
theorem jt2 (a:Nat→Int) {x:Int} (h:0≤x):a x.toNat / ((2*x+1)*2^(0:Int).toNat)=oA a x.toNat:=by
  unfold oA;rw [Int.mul_one,show ((x.toNat:Nat):Int)=x by omega]
theorem jt3 (a:Nat→Int) {x:Int} (h:0≤x):vUp (a x.toNat) ((2*x+1)*2^(0:Int).toNat)=oB a x.toNat:=by
  unfold oB;rw [Int.mul_one,show ((x.toNat:Nat):Int)=x by omega]
theorem jt4 (h:Nat→List Int→Int):RsOK (stdF (gR h)) powR:=by
  refine ⟨fun r hr ρ hc=>?_,fun r hr ρ hc=>?_⟩
  · simp only [powR,List.mem_cons,List.not_mem_nil,or_false] at hr
    rcases hr with rfl | rfl | rfl | rfl | rfl | rfl | rfl | rfl | rfl | rfl | rfl | rfl | rfl | rfl | rfl | rfl
    · exact jlw hc
    · exact jlw hc
    · rfl
    · rfl
    · rfl
    · rfl
    · rfl
    · rfl
    · have h1:0≤ρ 3:=jaa hc.1
      show rA (dPow (ρ 2)) (ρ 1*ρ 1) (ρ 1) (ρ 3).toNat*(ρ 1*ρ 1) / 2^(2*ρ 2).toNat=rA (dPow (ρ 2)) (ρ 1*ρ 1) (ρ 1) (ρ 3+1).toNat
      rw [jak h1,←Int.one_mul (2^(2*ρ 2).toNat)]
      rfl
    · have h1:0≤ρ 3:=jaa hc.1
      show vUp (rB (dPow (ρ 2)) (ρ 1*ρ 1) (ρ 1) (ρ 3).toNat*(ρ 1*ρ 1)) (2^(2*ρ 2).toNat)=rB (dPow (ρ 2)) (ρ 1*ρ 1) (ρ 1) (ρ 3+1).toNat
      rw [jak h1,←Int.one_mul (2^(2*ρ 2).toNat)]
      rfl
    · have h1:0≤ρ 3:=jaa hc.1
      show su _ (ρ 3).toNat+rA (dPow (ρ 2)) (ρ 1*ρ 1) (ρ 1) (ρ 3).toNat / ((2*ρ 3+1)*2^(0:Int).toNat)=su _ (ρ 3+1).toNat
      rw [jak h1,jt2 _ h1]
      rfl
    · have h1:0≤ρ 3:=jaa hc.1
      show su _ (ρ 3).toNat+vUp (rB (dPow (ρ 2)) (ρ 1*ρ 1) (ρ 1) (ρ 3).toNat) ((2*ρ 3+1)*2^(0:Int).toNat)=su _ (ρ 3+1).toNat
      rw [jak h1,jt3 _ h1]
      rfl
    · have h1:0≤ρ 3:=jaa hc.1
      show tu (oA (rA (dPow (ρ 2)) (ρ 1*ρ 1) (ρ 1))) (oB (rB (dPow (ρ 2)) (ρ 1*ρ 1) (ρ 1))) (ρ 3).toNat - vUp (rB (dPow (ρ 2)) (ρ 1*ρ 1) (ρ 1) (ρ 3).toNat) ((2*ρ 3+1)*2^(0:Int).toNat)=tu (oA (rA (dPow (ρ 2)) (ρ 1*ρ 1) (ρ 1))) (oB (rB (dPow (ρ 2)) (ρ 1*ρ 1) (ρ 1))) (ρ 3+1).toNat
      rw [jak h1,jt3 _ h1,jf8 (jiv h1 hc.2.1)]
    · have h1:0≤ρ 3:=jaa hc.1
      show tu (oA (rA (dPow (ρ 2)) (ρ 1*ρ 1) (ρ 1))) (oB (rB (dPow (ρ 2)) (ρ 1*ρ 1) (ρ 1))) (ρ 3).toNat+rA (dPow (ρ 2)) (ρ 1*ρ 1) (ρ 1) (ρ 3).toNat / ((2*ρ 3+1)*2^(0:Int).toNat)=tu (oA (rA (dPow (ρ 2)) (ρ 1*ρ 1) (ρ 1))) (oB (rB (dPow (ρ 2)) (ρ 1*ρ 1) (ρ 1))) (ρ 3+1).toNat
      rw [jak h1,jt2 _ h1,jf9 (jiw h1 hc.2.1)]
    · have h1:0≤ρ 3:=jaa hc.1
      show tu (oB (rB (dPow (ρ 2)) (ρ 1*ρ 1) (ρ 1))) (oA (rA (dPow (ρ 2)) (ρ 1*ρ 1) (ρ 1))) (ρ 3).toNat - rA (dPow (ρ 2)) (ρ 1*ρ 1) (ρ 1) (ρ 3).toNat / ((2*ρ 3+1)*2^(0:Int).toNat)=tu (oB (rB (dPow (ρ 2)) (ρ 1*ρ 1) (ρ 1))) (oA (rA (dPow (ρ 2)) (ρ 1*ρ 1) (ρ 1))) (ρ 3+1).toNat
      rw [jak h1,jt2 _ h1,jf8 (jiv h1 hc.2.1)]
    · have h1:0≤ρ 3:=jaa hc.1
      show tu (oB (rB (dPow (ρ 2)) (ρ 1*ρ 1) (ρ 1))) (oA (rA (dPow (ρ 2)) (ρ 1*ρ 1) (ρ 1))) (ρ 3).toNat+vUp (rB (dPow (ρ 2)) (ρ 1*ρ 1) (ρ 1) (ρ 3).toNat) ((2*ρ 3+1)*2^(0:Int).toNat)=tu (oB (rB (dPow (ρ 2)) (ρ 1*ρ 1) (ρ 1))) (oA (rA (dPow (ρ 2)) (ρ 1*ρ 1) (ρ 1))) (ρ 3+1).toNat
      rw [jak h1,jt3 _ h1,jf9 (jiw h1 hc.2.1)]
  · simp only [powR,List.flatMap_cons,List.flatMap_nil,List.cons_append,List.nil_append,List.mem_cons,List.not_mem_nil,or_false] at hr
    rcases hr with rfl | rfl | rfl | rfl | rfl | rfl | rfl | rfl | rfl | rfl | rfl | rfl | rfl | rfl | rfl | rfl | rfl | rfl
    all_goals
      obtain ⟨e1,e2,e3,e4,hi⟩:=jpl hc;have hx:=t_le e2 (by omega) e4;have hl:=juh e1 e3 e4;have ho:=jh1 e1 e3 e4
      first
        | exact hl.la hx _ hi
        | exact hl.lb hx _ hi
        | exact ho.sa hx _ hi
        | exact ho.sb hx _ hi
        | exact ho.ta hx _ hi
        | exact ho.tb hx _ hi
end V
namespace V
def sinR:Rs:={ rs:=[⟨[.le (.v 3) n2,.not (.lt (.v 3) n2)],.v 3,n2⟩,⟨[],row 26 (.n 0),.v 1⟩,⟨[],row 27 (.n 0),.v 1⟩,⟨[],row 28 (.n 0),.n 0⟩,⟨[],row 29 (.n 0),.n 0⟩,⟨ge0,ap2 1 (.mul (row 26 (.v 3)) tt) sinD,row 26 k1⟩,⟨ge0,ap2 3 (.mul (row 27 (.v 3)) tt) sinD,row 27 k1⟩,⟨ge0 ++ [odd3],.sub (row 28 (.v 3)) (row 27 (.v 3)),row 28 k1⟩,⟨ge0 ++ [.not odd3],.add (row 28 (.v 3)) (row 26 (.v 3)),row 28 k1⟩,⟨ge0 ++ [odd3],.sub (row 29 (.v 3)) (row 26 (.v 3)),row 29 k1⟩,⟨ge0 ++ [.not odd3],.add (row 29 (.v 3)) (row 27 (.v 3)),row 29 k1⟩],ft:=[.n 0,.v 3,k1].flatMap fun i=>[⟨inF 4 400 i,row 26 i,40⟩,⟨inF 4 400 i,row 27 i,40⟩,⟨inF 4 400 i,row 28 i,40⟩,⟨inF 4 400 i,row 29 i,40⟩] }
def cosR:Rs:={ rs:=[⟨[.le (.v 3) n2,.not (.lt (.v 3) n2)],.v 3,n2⟩,⟨[],row 30 (.n 0),q2⟩,⟨[],row 31 (.n 0),q2⟩,⟨[],row 32 (.n 0),.n 0⟩,⟨[],row 33 (.n 0),.n 0⟩,⟨ge0,ap2 1 (.mul (row 30 (.v 3)) tt) cosD,row 30 k1⟩,⟨ge0,ap2 3 (.mul (row 31 (.v 3)) tt) cosD,row 31 k1⟩,⟨ge0 ++ [odd3],.sub (row 32 (.v 3)) (row 31 (.v 3)),row 32 k1⟩,⟨ge0 ++ [.not odd3],.add (row 32 (.v 3)) (row 30 (.v 3)),row 32 k1⟩,⟨ge0 ++ [odd3],.sub (row 33 (.v 3)) (row 30 (.v 3)),row 33 k1⟩,⟨ge0 ++ [.not odd3],.add (row 33 (.v 3)) (row 31 (.v 3)),row 33 k1⟩],ft:=[.n 0,.v 3,k1].flatMap fun i=>[⟨inF 4 400 i,row 30 i,40⟩,⟨inF 4 400 i,row 31 i,40⟩,⟨inF 4 400 i,row 32 i,40⟩,⟨inF 4 400 i,row 33 i,40⟩] }
def sinTurn:Spec:={ f:=292,ps:=[i64 (.v 0),pa 40 (.v 1) (.v 1),.one (.fn 293 [.p 100 0,.p 101 0]),.one (.fn 263 [])],bx:=[(100,26,[.z 80 false tt]),(101,3,[.i .i64 (.v 2)])],np:=3,fs:=rowF 4 400 ++ [.le n2 (.n 800)],res:=.tup [zV 40 (row 28 n2),zV 140 (.add (row 29 n2) (row 27 n2)),.sc (.i .i64 (.n 0))],post:=[] }
def cosTurn:Spec:={ f:=292,ps:=[i64 (.v 0),pr 127 q2 q2,.one (.fn 294 [.p 100 0,.p 101 0]),.one (.fn 263 [])],bx:=[(100,26,[.z 80 false tt]),(101,3,[.i .i64 (.v 2)])],np:=3,fs:=rowF 4 400 ++ [.le n2 (.n 800)],res:=.tup [zV 40 (row 32 n2),zV 140 (.add (row 33 n2) (row 31 n2)),.sc (.i .i64 (.n 0))],post:=[] }
set_option maxRecDepth 100000 in
theorem sinTurnC (g:Nat→List Int→Int):checkF (P:=Tryz.prog) (rows3 g) sinR [turnAnn 26 28] (drawX (rows3 g)) sinTurn=true:=by kernel_rfl
set_option maxRecDepth 100000 in
theorem cosTurnC (g:Nat→List Int→Int):checkF (P:=Tryz.prog) (rows3 g) cosR [turnAnn 30 32] (drawX (rows3 g)) cosTurn=true:=by kernel_rfl
theorem j0s (h:Nat→List Int→Int):RsOK (stdF (gR h)) sinR:=by
  refine ⟨fun r hr ρ hc=>?_,fun r hr ρ hc=>?_⟩
  · simp only [sinR,List.mem_cons,List.not_mem_nil,or_false] at hr
    rcases hr with rfl | rfl | rfl | rfl | rfl | rfl | rfl | rfl | rfl | rfl | rfl
    · exact jlw hc
    · rfl
    · rfl
    · rfl
    · rfl
    · have h1:0≤ρ 3:=jaa hc.1
      show rA (dSin (ρ 2)) (ρ 1*ρ 1) (ρ 1) (ρ 3).toNat*(ρ 1*ρ 1) / ((2*(ρ 3+1))*(2*(ρ 3+1)+1)*2^(2*ρ 2).toNat)=rA (dSin (ρ 2)) (ρ 1*ρ 1) (ρ 1) (ρ 3+1).toNat
      rw [jak h1,show (2*(ρ 3+1))*(2*(ρ 3+1)+1)*2^(2*ρ 2).toNat=dSin (ρ 2) ((ρ 3).toNat+1) by unfold dSin;rw [show (((ρ 3).toNat+1:Nat):Int)=ρ 3+1 by omega]]
      rfl
    · have h1:0≤ρ 3:=jaa hc.1
      show vUp (rB (dSin (ρ 2)) (ρ 1*ρ 1) (ρ 1) (ρ 3).toNat*(ρ 1*ρ 1)) ((2*(ρ 3+1))*(2*(ρ 3+1)+1)*2^(2*ρ 2).toNat)=rB (dSin (ρ 2)) (ρ 1*ρ 1) (ρ 1) (ρ 3+1).toNat
      rw [jak h1,show (2*(ρ 3+1))*(2*(ρ 3+1)+1)*2^(2*ρ 2).toNat=dSin (ρ 2) ((ρ 3).toNat+1) by unfold dSin;rw [show (((ρ 3).toNat+1:Nat):Int)=ρ 3+1 by omega]]
      rfl
    · have h1:0≤ρ 3:=jaa hc.1
      show tu _ _ (ρ 3).toNat - rB _ _ _ (ρ 3).toNat=tu _ _ (ρ 3+1).toNat
      rw [jak h1,jf8 (jiv h1 hc.2.1)]
    · have h1:0≤ρ 3:=jaa hc.1
      show tu _ _ (ρ 3).toNat+rA _ _ _ (ρ 3).toNat=tu _ _ (ρ 3+1).toNat
      rw [jak h1,jf9 (jiw h1 hc.2.1)]
    · have h1:0≤ρ 3:=jaa hc.1
      show tu _ _ (ρ 3).toNat - rA _ _ _ (ρ 3).toNat=tu _ _ (ρ 3+1).toNat
      rw [jak h1,jf8 (jiv h1 hc.2.1)]
    · have h1:0≤ρ 3:=jaa hc.1
      show tu _ _ (ρ 3).toNat+rB _ _ _ (ρ 3).toNat=tu _ _ (ρ 3+1).toNat
      rw [jak h1,jf9 (jiw h1 hc.2.1)]
  · simp only [sinR,List.flatMap_cons,List.flatMap_nil,List.cons_append,List.nil_append,List.mem_cons,List.not_mem_nil,or_false] at hr
    rcases hr with rfl | rfl | rfl | rfl | rfl | rfl | rfl | rfl | rfl | rfl | rfl | rfl
    all_goals
      obtain ⟨e1,e2,e3,e4,hi⟩:=jpl hc;have hx:=t_le e2 (by omega) e4;have hl:=j06 e1 e3 e4
      first
        | exact hl.la hx _ hi
        | exact hl.lb hx _ hi
        | exact hl.ta hx _ hi
        | exact hl.tb hx _ hi
theorem j0t (h:Nat→List Int→Int):RsOK (stdF (gR h)) cosR:=by
  refine ⟨fun r hr ρ hc=>?_,fun r hr ρ hc=>?_⟩
  · simp only [cosR,List.mem_cons,List.not_mem_nil,or_false] at hr
    rcases hr with rfl | rfl | rfl | rfl | rfl | rfl | rfl | rfl | rfl | rfl | rfl
    · exact jlw hc
    · exact Int.one_mul _
    · exact Int.one_mul _
    · rfl
    · rfl
    · have h1:0≤ρ 3:=jaa hc.1
      show rA (dCos (ρ 2)) (ρ 1*ρ 1) (1*2^(ρ 2).toNat) (ρ 3).toNat*(ρ 1*ρ 1) / ((2*(ρ 3+1) - 1)*2*(ρ 3+1)*2^(2*ρ 2).toNat)=rA (dCos (ρ 2)) (ρ 1*ρ 1) (1*2^(ρ 2).toNat) (ρ 3+1).toNat
      rw [jak h1,show (2*(ρ 3+1) - 1)*2*(ρ 3+1)*2^(2*ρ 2).toNat=dCos (ρ 2) ((ρ 3).toNat+1) by unfold dCos;rw [show (((ρ 3).toNat+1:Nat):Int)=ρ 3+1 by omega]]
      rfl
    · have h1:0≤ρ 3:=jaa hc.1
      show vUp (rB (dCos (ρ 2)) (ρ 1*ρ 1) (1*2^(ρ 2).toNat) (ρ 3).toNat*(ρ 1*ρ 1)) ((2*(ρ 3+1) - 1)*2*(ρ 3+1)*2^(2*ρ 2).toNat)=rB (dCos (ρ 2)) (ρ 1*ρ 1) (1*2^(ρ 2).toNat) (ρ 3+1).toNat
      rw [jak h1,show (2*(ρ 3+1) - 1)*2*(ρ 3+1)*2^(2*ρ 2).toNat=dCos (ρ 2) ((ρ 3).toNat+1) by unfold dCos;rw [show (((ρ 3).toNat+1:Nat):Int)=ρ 3+1 by omega]]
      rfl
    · have h1:0≤ρ 3:=jaa hc.1
      show tu _ _ (ρ 3).toNat - rB _ _ _ (ρ 3).toNat=tu _ _ (ρ 3+1).toNat
      rw [jak h1,jf8 (jiv h1 hc.2.1)]
    · have h1:0≤ρ 3:=jaa hc.1
      show tu _ _ (ρ 3).toNat+rA _ _ _ (ρ 3).toNat=tu _ _ (ρ 3+1).toNat
      rw [jak h1,jf9 (jiw h1 hc.2.1)]
    · have h1:0≤ρ 3:=jaa hc.1
      show tu _ _ (ρ 3).toNat - rA _ _ _ (ρ 3).toNat=tu _ _ (ρ 3+1).toNat
      rw [jak h1,jf8 (jiv h1 hc.2.1)]
    · have h1:0≤ρ 3:=jaa hc.1
      show tu _ _ (ρ 3).toNat+rB _ _ _ (ρ 3).toNat=tu _ _ (ρ 3+1).toNat
      rw [jak h1,jf9 (jiw h1 hc.2.1)]
  · simp only [cosR,List.flatMap_cons,List.flatMap_nil,List.cons_append,List.nil_append,List.mem_cons,List.not_mem_nil,or_false] at hr
    rcases hr with rfl | rfl | rfl | rfl | rfl | rfl | rfl | rfl | rfl | rfl | rfl | rfl
    all_goals
      obtain ⟨e1,e2,e3,e4,hi⟩:=jpl hc;have hl:=j07 e1 e3 e4
      first
        | exact hl.la (jf7 e2) _ hi
        | exact hl.lb (jf7 e2) _ hi
        | exact hl.ta (jf7 e2) _ hi
        | exact hl.tb (jf7 e2) _ hi
section
variable (h:Nat→List Int→Int)
noncomputable def rows4:List (Ctr Tryz.prog (stdF (gR h))):=
  Ctr.of (j0r h) follows_any (expRiseC (gR h)) :: -- opt
  Ctr.of (j0s h) follows_any (sinTurnC (gR h)) :: -- opt
  Ctr.of (j0t h) follows_any (cosTurnC (gR h)) :: -- opt
  rows3 (gR h)
end
end V
end Go.Proofs.YtllgjggkchgpbaaGreat
