/- V: point.Look of any function, by names. -/
import Derived.Test.YtllgjggkchgpbaaGreatLg
set_option linter.unusedVariables false
set_option linter.unusedSimpArgs false
namespace Go.Proofs.YtllgjggkchgpbaaGreat
open Go.RowKit Go.Shelf
namespace V
section
variable (h:Nat→List Int→Int)
def lyM:T:=ap1 69 (.v 0)
def lyE:T:=ap1 70 (.v 0)
def lyFld:T:=ap2 2 (ap2 1 (.v 0) (.n 4503599627370496)) (.n 2048)
def lyPat:List T:=[.le (.n 0) (.v 0),.le (.v 0) (.n 18446744073709551615),.le (.n 1) lyFld,.le lyFld (.n 2046)]
def lyThr:List T:=[.le (.n 1) (.v 1),.le (.v 1) (.n 128),.le (.n (-9223372036854775808)) (.v 2),.le (.v 2) (.n 9223372036854775807)]
def lyX:List T:=[.le (.n (-2000)) lyE,.le lyE (.n 2000)]
def lyA (n:Nat) (q:T):T:=ap4' n (.v 2) lyM lyE q
def lyMay (q:T):T:=.eq (lyA 96 q) (.n 1)
noncomputable def lyB:List (Ctr Tryz.prog (FL h)):=
  Ctr.shr (Ctr.lem (jan (by kernel_rfl)) (atG h))::Ctr.shr (Ctr.lem (jan (by kernel_rfl)) (gapG h)) ::
  inl (dy1 (hV h)) 50 (by kernel_rfl)::inl (dy1 (hV h)) 47 (by kernel_rfl) ::
  inl (inl (dy1 (hV h)) 50 (by kernel_rfl)::dy1 (hV h)) 48 (by kernel_rfl)::dy1 (hV h)
def lyP:List A:=[i64 (.v 2),.one (.sc (.i .u64 (.v 0))),i64 (.v 1)]
def lyBase:List T:=lyMay (.n 300)::(lyPat ++ lyThr)
def lyZ:List T:=.le (.mul (ap1 4 (lyA 80 (.n 300))) (ap1 4 (lyA 81 (.n 300)))) (.n 0)::rightL (lyA 80 (.n 300)) (lyA 81 (.n 300))::(lyX ++ lyBase)
def lyPl (s:Bool) (q:T):T:=if s then .sub (.n 0) (lyA 81 q) else lyA 80 q
def lyPh (s:Bool) (q:T):T:=if s then .sub (.n 0) (lyA 80 q) else lyA 81 q
def lyN0 (s:Bool):T:=.sub (.sub (ap1 6 (lyPl s (.n 300))) (.n 1)) (.n 300)
def lyQ (s t:Bool):T:=.sub (.add (.v 1) (.n 160)) (if t then lyN0 s else .n 0)
def lyN (s t:Bool):T:=.sub (.sub (ap1 6 (lyPl s (lyQ s t))) (.n 1)) (lyQ s t)
def lyS (s t:Bool):T:=.add (.sub (lyQ s t) (.n 53)) (lyN s t)
def lySg (s:Bool) (q:T):List T:=[.lt (.n 0) (.mul (ap1 4 (lyA 80 q)) (ap1 4 (lyA 81 q))),if s then .lt (ap1 4 (lyA 80 q)) (.n 0) else .le (.n 0) (ap1 4 (lyA 80 q)),rightL (lyA 80 q) (lyA 81 q)]
def lyC:Int:=2^900
def lySz (t:T):List T:=[.le (.n (-lyC)) t,.le t (.n lyC)]
def lyD (s t:Bool):List T:=[.le (.n 161) (lyQ s t),.le (lyQ s t) (.n 588),.le (.n (-1000)) (lyN s t),.le (lyN s t) (.n 12),.le (.n 50) (lyS s t),.le (lyS s t) (.n 700),.le (.n (-1600)) (lyA 82 (lyQ s t)),.le (lyA 82 (lyQ s t)) (.n 1600),rightL (lyPl s (lyQ s t)) (lyPh s (lyQ s t)),lyMay (lyQ s t),.le (.n (-300)) (lyN0 s),if t then .le (lyN0 s) (.n 0) else .lt (.n 0) (lyN0 s)]
def lyF (s t:Bool):List T:=lySg s (.n 300) ++ (lySg s (lyQ s t) ++ (lyD s t ++ (lySz (lyPl s (lyQ s t)) ++ (lySz (lyPh s (lyQ s t)) ++ (lyX ++ lyBase)))))
def lyG (n:Nat) (s t:Bool):T:=ap3 n (lyPl s (lyQ s t)) (lyPh s (lyQ s t)) (lyS s t)
def lyR (s t:Bool):A:=.tup [.ag [.z 1000 true (lyA 80 (lyQ s t)),.z 1000 true (lyA 81 (lyQ s t)),.i .i64 (lyQ s t),.i .i64 (lyA 82 (lyQ s t)),.i .i64 (.add (lyN s t) (lyA 82 (lyQ s t))),.i .i64 (lyS s t),.z 90 true (lyG 94 s t),.z 90 true (lyG 95 s t),.b (.le (ap1 6 (lyG 94 s t)) (.sub (lyS s t) (.v 1)))],.sc (.i .i64 (.n 0))]
def lyRZ:A:=.tup [.ag [.z 1000 true (lyA 80 (.n 300)),.z 1000 true (lyA 81 (.n 300)),.i .i64 (.n 300),.i .i64 (lyA 82 (.n 300)),.i .i64 (.n 0),.i .i64 (.n 0),.z 0 true (.n 0),.z 0 true (.n 0),.b (.n 1)],.sc (.i .i64 (.n 0))]
theorem lyXZ:in12 (inlX (lyB h) 14 lyZ [] lyP)=some ([],lyRZ):=by kernel_rfl
theorem lyXF:∀s t:Bool,in12 (inlX (lyB h) 14 (lyF s t) [] lyP)=some ([],lyR s t)
  | false,false=>by kernel_rfl
  | false,true=>by kernel_rfl
  | true,false=>by kernel_rfl
  | true,true=>by kernel_rfl
def lyL (n:Nat):T:=ap4' n (.v 2) lyM lyE (.v 1)
def lookS (f:FuncId) (fs:List T):Spec:=dsp f lyP 3 fs (.tup [.ag [.z 1000 true (lyA 80 (lyL 88)),.z 1000 true (lyA 81 (lyL 88)),.i .i64 (lyL 88),.i .i64 (lyA 82 (lyL 88)),.i .i64 (lyL 89),.i .i64 (lyL 90),.z 90 true (lyL 91),.z 90 true (lyL 92),.b (lyL 93)],.sc (.i .i64 (.n 0))])
theorem jzz {ρ:Nat→Int} (hf:allT (FL h) ρ lyPat):pFld (ρ 0).toNat≠2047∧1≤pFld (ρ 0).toNat:=by
  obtain ⟨h0,h1,h2,h3,-⟩:=hf;have a0:0≤ρ 0:=jaa h0;have a2:1≤ρ 0 / 4503599627370496%2048:=jaa h2;have a3:ρ 0 / 4503599627370496%2048≤2046:=jaa h3;unfold pFld
  omega
theorem ly_x {ρ:Nat→Int} (hf:allT (FL h) ρ lyPat):allT (FL h) ρ lyX:=by
  have e:=jmx _ (jzz h hf).1;exact ⟨jad (show -2000≤vE (ρ 0).toNat by omega),jad (show vE (ρ 0).toNat≤2000 by omega),trivial⟩
theorem jhk {a b:Int} (hl:a≤b):(0<a.sign*b.sign↔(0<a∨b<0))∧(a.sign*b.sign≤0↔¬(0<a∨b<0)):=by
  have m:=j2d hl
  constructor
  · constructor
    · intro k
      by_cases c:0<a∨b<0
      · exact c
      · have:=m.2 (by omega);omega
    · intro k
      by_cases c:0<a.sign*b.sign
      · exact c
      · have:=m.1 (by omega);omega
  · rw [m];omega
theorem j2m {ρ:Nat→Int} (hf:allT (FL h) ρ lyZ):eqA (FL h) ρ lyRZ (lookS 14 lyZ).res:=by
  have h1:(An.atLo (ρ 2) (vM (ρ 0).toNat) (vE (ρ 0).toNat) 300).sign*(An.atHi (ρ 2) (vM (ρ 0).toNat) (vE (ρ 0).toNat) 300).sign≤0:=jaa hf.1;have h2:An.atLo (ρ 2) (vM (ρ 0).toNat) (vE (ρ 0).toNat) 300≤An.atHi (ρ 2) (vM (ρ 0).toNat) (vE (ρ 0).toNat) 300:=(jkv _ _).1 (jaa hf.2.1);have hs:An.lkSm (ρ 2) (vM (ρ 0).toNat) (vE (ρ 0).toNat)=false:=decide_eq_false ((jhk h2).2.1 h1);have q:An.lkQ (ρ 2) (vM (ρ 0).toNat) (vE (ρ 0).toNat) (ρ 1)=300:=by unfold An.lkQ;rw [hs];rfl
  have dq:(lyL 88).den (FL h) ρ=300:=q
  have d:∀n,(lyA n (lyL 88)).den (FL h) ρ=(lyA n (.n 300)).den (FL h) ρ:=fun n=>by
    show FL h n [ρ 2,vM (ρ 0).toNat,vE (ρ 0).toNat,(lyL 88).den (FL h) ρ]=_
    rw [dq];rfl
  have e89:(lyL 89).den (FL h) ρ=0:=by show An.lkE (ρ 2) (vM (ρ 0).toNat) (vE (ρ 0).toNat) (ρ 1)=0;unfold An.lkE;rw [hs];rfl
  have e90:(lyL 90).den (FL h) ρ=0:=by show An.lkS (ρ 2) (vM (ρ 0).toNat) (vE (ρ 0).toNat) (ρ 1)=0;unfold An.lkS;rw [hs];rfl
  have e91:(lyL 91).den (FL h) ρ=0:=by show An.lkLe (ρ 2) (vM (ρ 0).toNat) (vE (ρ 0).toNat) (ρ 1)=0;unfold An.lkLe;rw [hs];rfl
  have e92:(lyL 92).den (FL h) ρ=0:=by show An.lkMo (ρ 2) (vM (ρ 0).toNat) (vE (ρ 0).toNat) (ρ 1)=0;unfold An.lkMo;rw [hs];rfl
  have e93:(lyL 93).bd (FL h) ρ=true:=by
    show (b2i (An.lkH (ρ 2) (vM (ρ 0).toNat) (vE (ρ 0).toNat) (ρ 1)) != 0)=true
    rw [jcu];unfold An.lkH;rw [hs];rfl
  refine ⟨?_,⟨rfl,rfl⟩,trivial⟩;refine ⟨⟨Nat.le_refl _,rfl,(d 80).symm⟩,⟨Nat.le_refl _,rfl,(d 81).symm⟩,⟨rfl,dq.symm⟩,⟨rfl,(d 82).symm⟩,⟨rfl,e89.symm⟩,⟨rfl,e90.symm⟩,⟨by omega,rfl,e91.symm⟩,⟨by omega,rfl,e92.symm⟩,?_,trivial⟩
  show (T.n 1).bd (FL h) ρ=(lyL 93).bd (FL h) ρ
  rw [e93];rfl
structure LyD (ρ:Nat→Int) (s t:Bool):Prop where
  sm:An.lkSm (ρ 2) (vM (ρ 0).toNat) (vE (ρ 0).toNat)=true
  sg:An.lkSg (ρ 2) (vM (ρ 0).toNat) (vE (ρ 0).toNat)=s
  q:(lyQ s t).den (FL h) ρ=An.lkQ (ρ 2) (vM (ρ 0).toNat) (vE (ρ 0).toNat) (ρ 1)
theorem jju {ρ:Nat→Int} (s:Bool) (q:T):(lyPl s q).den (FL h) ρ=An.plL s (An.atLo (ρ 2) (vM (ρ 0).toNat) (vE (ρ 0).toNat) (q.den (FL h) ρ)) (An.atHi (ρ 2) (vM (ρ 0).toNat) (vE (ρ 0).toNat) (q.den (FL h) ρ)):=by cases s <;> rfl
theorem jvr {ρ:Nat→Int} (s:Bool) (q:T):(lyPh s q).den (FL h) ρ=An.plH s (An.atLo (ρ 2) (vM (ρ 0).toNat) (vE (ρ 0).toNat) (q.den (FL h) ρ)) (An.atHi (ρ 2) (vM (ρ 0).toNat) (vE (ρ 0).toNat) (q.den (FL h) ρ)):=by cases s <;> rfl
theorem jjv {ρ:Nat→Int} {s:Bool} (sg:An.lkSg (ρ 2) (vM (ρ 0).toNat) (vE (ρ 0).toNat)=s):(lyN0 s).den (FL h) ρ=An.lkN0 (ρ 2) (vM (ρ 0).toNat) (vE (ρ 0).toNat):=by
  have e:(lyN0 s).den (FL h) ρ=(nbits ((lyPl s (.n 300)).den (FL h) ρ).natAbs:Nat) - 1 - 300:=rfl;have e3:(T.n 300).den (FL h) ρ=300:=rfl;rw [e,jju,e3,←sg]
  rfl
theorem jxo {ρ:Nat→Int} {s t:Bool} (sm:An.lkSm (ρ 2) (vM (ρ 0).toNat) (vE (ρ 0).toNat)=true) (sg:An.lkSg (ρ 2) (vM (ρ 0).toNat) (vE (ρ 0).toNat)=s) (ht:t=decide (An.lkN0 (ρ 2) (vM (ρ 0).toNat) (vE (ρ 0).toNat)≤0)):LyD h ρ s t:=by
  refine ⟨sm,sg,?_⟩;have n0:=jjv h sg;have e:An.lkQ (ρ 2) (vM (ρ 0).toNat) (vE (ρ 0).toNat) (ρ 1)=ρ 1+160 - min (An.lkN0 (ρ 2) (vM (ρ 0).toNat) (vE (ρ 0).toNat)) 0:=by unfold An.lkQ;rw [sm];rfl
  rw [e]
  by_cases k:An.lkN0 (ρ 2) (vM (ρ 0).toNat) (vE (ρ 0).toNat)≤0
  · rw [decide_eq_true k] at ht
    subst ht
    show ρ 1+160 - (lyN0 s).den (FL h) ρ=_
    rw [n0];omega
  · rw [decide_eq_false k] at ht
    subst ht
    show ρ 1+160 - 0=_
    omega
theorem jsp {ρ:Nat→Int} {s t:Bool} (D:LyD h ρ s t):(lyPl s (lyQ s t)).den (FL h) ρ=An.lkL (ρ 2) (vM (ρ 0).toNat) (vE (ρ 0).toNat) (ρ 1)∧(lyPh s (lyQ s t)).den (FL h) ρ=An.lkU (ρ 2) (vM (ρ 0).toNat) (vE (ρ 0).toNat) (ρ 1)∧(lyN s t).den (FL h) ρ=An.lkN (ρ 2) (vM (ρ 0).toNat) (vE (ρ 0).toNat) (ρ 1)∧(lyS s t).den (FL h) ρ=An.lkQ (ρ 2) (vM (ρ 0).toNat) (vE (ρ 0).toNat) (ρ 1) - 53+An.lkN (ρ 2) (vM (ρ 0).toNat) (vE (ρ 0).toNat) (ρ 1):=by
  have a:(lyPl s (lyQ s t)).den (FL h) ρ=An.lkL (ρ 2) (vM (ρ 0).toNat) (vE (ρ 0).toNat) (ρ 1):=by rw [jju,D.q];unfold An.lkL;rw [D.sg]
  have b:(lyPh s (lyQ s t)).den (FL h) ρ=An.lkU (ρ 2) (vM (ρ 0).toNat) (vE (ρ 0).toNat) (ρ 1):=by rw [jvr,D.q];unfold An.lkU;rw [D.sg]
  have c:(lyN s t).den (FL h) ρ=An.lkN (ρ 2) (vM (ρ 0).toNat) (vE (ρ 0).toNat) (ρ 1):=by
    show (nbits ((lyPl s (lyQ s t)).den (FL h) ρ).natAbs:Nat) - 1 - (lyQ s t).den (FL h) ρ=_
    rw [a,D.q];rfl
  refine ⟨a,b,c,?_⟩
  show (lyQ s t).den (FL h) ρ - 53+(lyN s t).den (FL h) ρ=_
  rw [c,D.q]
theorem j2n {ρ:Nat→Int} {s t:Bool} (D:LyD h ρ s t) {fs:List T}:eqA (FL h) ρ (lyR s t) (lookS 14 fs).res:=by
  obtain ⟨a,b,c,g⟩:=jsp h D;have hs:=D.sm;have dq:(lyL 88).den (FL h) ρ=(lyQ s t).den (FL h) ρ:=D.q.symm
  have d:∀n,(lyA n (lyQ s t)).den (FL h) ρ=(lyA n (lyL 88)).den (FL h) ρ:=fun n=>by
    show FL h n [ρ 2,vM (ρ 0).toNat,vE (ρ 0).toNat,(lyQ s t).den (FL h) ρ]=FL h n [ρ 2,vM (ρ 0).toNat,vE (ρ 0).toNat,(lyL 88).den (FL h) ρ]
    rw [dq]
  have eS:An.lkS (ρ 2) (vM (ρ 0).toNat) (vE (ρ 0).toNat) (ρ 1)=An.lkQ (ρ 2) (vM (ρ 0).toNat) (vE (ρ 0).toNat) (ρ 1) - 53+An.lkN (ρ 2) (vM (ρ 0).toNat) (vE (ρ 0).toNat) (ρ 1):=by unfold An.lkS;rw [hs];rfl
  have e89:(T.add (lyN s t) (lyA 82 (lyQ s t))).den (FL h) ρ=(lyL 89).den (FL h) ρ:=by
    show (lyN s t).den (FL h) ρ+An.atK (ρ 2) (vM (ρ 0).toNat) (vE (ρ 0).toNat) ((lyQ s t).den (FL h) ρ)=An.lkE (ρ 2) (vM (ρ 0).toNat) (vE (ρ 0).toNat) (ρ 1)
    rw [c,D.q];unfold An.lkE;rw [hs];rfl
  have e90:(lyS s t).den (FL h) ρ=(lyL 90).den (FL h) ρ:=by
    show _=An.lkS (ρ 2) (vM (ρ 0).toNat) (vE (ρ 0).toNat) (ρ 1)
    rw [g,eS]
  have e91:(lyG 94 s t).den (FL h) ρ=(lyL 91).den (FL h) ρ:=by
    show gLeast ((lyPl s (lyQ s t)).den (FL h) ρ) ((lyPh s (lyQ s t)).den (FL h) ρ) (2^((lyS s t).den (FL h) ρ).toNat)=An.lkLe (ρ 2) (vM (ρ 0).toNat) (vE (ρ 0).toNat) (ρ 1)
    rw [a,b,g,←eS];unfold An.lkLe;rw [hs];rfl
  have e92:(lyG 95 s t).den (FL h) ρ=(lyL 92).den (FL h) ρ:=by
    show gMo ((lyPl s (lyQ s t)).den (FL h) ρ) ((lyPh s (lyQ s t)).den (FL h) ρ) ((lyS s t).den (FL h) ρ)=An.lkMo (ρ 2) (vM (ρ 0).toNat) (vE (ρ 0).toNat) (ρ 1)
    rw [a,b,g,←eS];unfold An.lkMo;rw [hs];rfl
  refine ⟨?_,⟨rfl,rfl⟩,trivial⟩;refine ⟨⟨Nat.le_refl _,rfl,d 80⟩,⟨Nat.le_refl _,rfl,d 81⟩,⟨rfl,dq.symm⟩,⟨rfl,d 82⟩,⟨rfl,e89⟩,⟨rfl,e90⟩,⟨Nat.le_refl _,rfl,e91⟩,⟨Nat.le_refl _,rfl,e92⟩,?_,trivial⟩
  show (T.le (ap1 6 (lyG 94 s t)) (.sub (lyS s t) (.v 1))).bd (FL h) ρ=(lyL 93).bd (FL h) ρ
  rw [bd_le]
  show decide (((nbits ((lyG 94 s t).den (FL h) ρ).natAbs:Nat):Int)≤(lyS s t).den (FL h) ρ - ρ 1)=(b2i (An.lkH (ρ 2) (vM (ρ 0).toNat) (vE (ρ 0).toNat) (ρ 1)) != 0)
  rw [jcu,e91,e90];unfold An.lkH;rw [hs];rfl
theorem jz0 {a:Int} {x:Rat} (h:(a:Rat)≤x) (hx:x≤An.two 890):a≤lyC:=by
  refine An.rat_le (Rat.le_trans h (Rat.le_trans hx ?_));have e:((lyC:Int):Rat)=An.two 900:=An.pow_two (n:=900) (by omega);rw [e];exact An.two_le_two (by omega)
theorem j2o {ρ:Nat→Int} {s t:Bool} (D:LyD h ρ s t) (ht:t=decide (An.lkN0 (ρ 2) (vM (ρ 0).toNat) (vE (ρ 0).toNat)≤0)) (hb:allT (FL h) ρ lyBase):allT (FL h) ρ (lyF s t):=by
  obtain ⟨hm,hb2⟩:=hb;have hp:=jbn hb2;have hth:=jab hb2;have m0:1≤ρ 1:=jaa hth.1;have m1:ρ 1≤128:=jaa hth.2.1;have M:An.May (ρ 2) (vM (ρ 0).toNat) (vE (ρ 0).toNat) 300:=An.may_one.1 (jet hm);have L:=An.look_ok M.B D.sm m0 m1;obtain ⟨a,b,c,g⟩:=jsp h D;have n0:=jjv h D.sg;have le0:=(An.told_at M.B).tells.le;have leq:=(An.told_at L.B).tells.le;have RR:∀x y:T,x.den (FL h) ρ≤y.den (FL h) ρ→(rightL x y).bd (FL h) ρ=true:=fun x y k=>jae (g:=gR (hC (hD (hV h)))) k
  have kq:=An.k_in L.B;have lw:=L.low;have up:=L.up;have nn:=L.n0;have q0:=L.q0;have q1:=L.q1;have pos:=L.pos;have dq:=D.q;have sgm:=D.sg
  -- the signs of both balls
  have signs:∀q:T,An.atLo (ρ 2) (vM (ρ 0).toNat) (vE (ρ 0).toNat) (q.den (FL h) ρ)≤An.atHi (ρ 2) (vM (ρ 0).toNat) (vE (ρ 0).toNat) (q.den (FL h) ρ)→0<An.plL s (An.atLo (ρ 2) (vM (ρ 0).toNat) (vE (ρ 0).toNat) (q.den (FL h) ρ)) (An.atHi (ρ 2) (vM (ρ 0).toNat) (vE (ρ 0).toNat) (q.den (FL h) ρ))→allT (FL h) ρ (lySg s q):=fun q hle hpos=>by
    have e0:(lyA 80 q).den (FL h) ρ=An.atLo (ρ 2) (vM (ρ 0).toNat) (vE (ρ 0).toNat) (q.den (FL h) ρ):=rfl;have e1:(lyA 81 q).den (FL h) ρ=An.atHi (ρ 2) (vM (ρ 0).toNat) (vE (ρ 0).toNat) (q.den (FL h) ρ):=rfl
    cases s
    · have hpos:0<An.atLo (ρ 2) (vM (ρ 0).toNat) (vE (ρ 0).toNat) (q.den (FL h) ρ):=hpos
      refine ⟨jbj ?_,jad ?_,RR _ _ (by rw [e0,e1];exact hle),trivial⟩
      · show 0<((lyA 80 q).den (FL h) ρ).sign*((lyA 81 q).den (FL h) ρ).sign
        rw [e0,e1];exact (jhk hle).1.2 (.inl hpos)
      · show 0≤((lyA 80 q).den (FL h) ρ).sign
        rw [e0];exact (jn5 _).2.2.2 (by omega)
    · have hpos:0<0 - An.atHi (ρ 2) (vM (ρ 0).toNat) (vE (ρ 0).toNat) (q.den (FL h) ρ):=hpos
      refine ⟨jbj ?_,jbj ?_,RR _ _ (by rw [e0,e1];exact hle),trivial⟩
      · show 0<((lyA 80 q).den (FL h) ρ).sign*((lyA 81 q).den (FL h) ρ).sign
        rw [e0,e1];exact (jhk hle).1.2 (.inr (by omega))
      · show ((lyA 80 q).den (FL h) ρ).sign<0
        rw [e0];exact (jn5 _).1.2 (by omega)
  have some:=of_decide_eq_true D.sm
  have s3:=signs (.n 300) le0 (by
    show 0<An.plL s (An.atLo (ρ 2) (vM (ρ 0).toNat) (vE (ρ 0).toNat) 300) (An.atHi (ρ 2) (vM (ρ 0).toNat) (vE (ρ 0).toNat) 300)
    rw [←sgm];unfold An.lkSg An.plL
    by_cases k:An.atHi (ρ 2) (vM (ρ 0).toNat) (vE (ρ 0).toNat) 300<0
    · rw [decide_eq_true k,if_pos rfl];omega
    · rw [decide_eq_false k,if_neg (by simp)];omega)
  have sq:=signs (lyQ s t) (by rw [dq];exact leq) (by rw [←jju,a];exact pos)
  -- how great
  obtain ⟨N,hN⟩:=L.T 1 (by grind);obtain ⟨v,⟨v1,v2,v3,v4⟩,-,vb,-⟩:=hN N (Nat.le_refl _);have dd:=An.DD_pos (An.lkQ (ρ 2) (vM (ρ 0).toNat) (vE (ρ 0).toNat) (ρ 1))
  have big:4096*An.DD (An.lkQ (ρ 2) (vM (ρ 0).toNat) (vE (ρ 0).toNat) (ρ 1))+2≤An.two 890:=by
    have e12:An.two 12=4096:=by show (2:Rat)^12=4096;decide +kernel
    have e:An.two (12+An.lkQ (ρ 2) (vM (ρ 0).toNat) (vE (ρ 0).toNat) (ρ 1))=4096*An.DD (An.lkQ (ρ 2) (vM (ρ 0).toNat) (vE (ρ 0).toNat) (ρ 1)):=by rw [An.two_add,An.two_DD (q:=An.lkQ (ρ 2) (vM (ρ 0).toNat) (vE (ρ 0).toNat) (ρ 1)) (by omega),e12]
    have l1:=An.two_le_two (show 12+An.lkQ (ρ 2) (vM (ρ 0).toNat) (vE (ρ 0).toNat) (ρ 1)≤888 by omega);have l2:=An.two_succ 888;have l3:=An.two_succ 889;have l4:=An.two_le_two (show (1:Int)≤888 by omega);rw [An.two_one] at l4;rw [e] at l1;rw [show (888:Int)+1=889 from rfl] at l2;rw [show (889:Int)+1=890 from rfl] at l3
    grind
  have m1':=Rat.mul_le_mul_of_nonneg_right vb.2 (Rat.le_of_lt dd);have hU:An.lkU (ρ 2) (vM (ρ 0).toNat) (vE (ρ 0).toNat) (ρ 1)≤lyC:=jz0 (x:=v*An.DD (An.lkQ (ρ 2) (vM (ρ 0).toNat) (vE (ρ 0).toNat) (ρ 1))+2) v3 (by grind);have cp:0≤lyC:=by unfold lyC;decide +kernel
  have le2:=L.le;have szs:∀x:T,0<x.den (FL h) ρ→x.den (FL h) ρ≤lyC→allT (FL h) ρ (lySz x):=fun x k1 k2=>⟨jad (show -lyC≤x.den (FL h) ρ by omega),jad k2,trivial⟩
  have tn:(if t then T.le (lyN0 s) (.n 0) else .lt (.n 0) (lyN0 s)).bd (FL h) ρ=true:=by
    cases t
    · have k:=of_decide_eq_false ht.symm
      exact jbj (show 0<(lyN0 s).den (FL h) ρ by rw [n0];omega)
    · have k:=of_decide_eq_true ht.symm
      exact jad (show (lyN0 s).den (FL h) ρ≤0 by rw [n0];omega)
  have eK:(lyA 82 (lyQ s t)).den (FL h) ρ=An.atK (ρ 2) (vM (ρ 0).toNat) (vE (ρ 0).toNat) (An.lkQ (ρ 2) (vM (ρ 0).toNat) (vE (ρ 0).toNat) (ρ 1)):=by rw [←dq];rfl
  have eM:(lyA 96 (lyQ s t)).den (FL h) ρ=1:=by
    have:(lyA 96 (lyQ s t)).den (FL h) ρ=An.mayI (ρ 2) (vM (ρ 0).toNat) (vE (ρ 0).toNat) (An.lkQ (ρ 2) (vM (ρ 0).toNat) (vE (ρ 0).toNat) (ρ 1)):=by rw [←dq];rfl
    rw [this];exact An.may_one.2 ⟨L.B,M.n9⟩
  refine jac s3 (jac sq (jac ⟨jad ?_,jad ?_,jad ?_,jad ?_,jad ?_,jad ?_,jad ?_,jad ?_,RR _ _ ?_,bd_eq' ?_,jad ?_,tn,trivial⟩ (jac (szs _ (by rw [a];exact pos) (by rw [a];omega)) (jac (szs _ (by rw [b];omega) (by rw [b];exact hU)) (jac (ly_x h hp) ⟨hm,hb2⟩)))))
  · show 161≤(lyQ s t).den (FL h) ρ;rw [dq];exact q0
  · show (lyQ s t).den (FL h) ρ≤588;rw [dq];exact q1
  · show -1000≤(lyN s t).den (FL h) ρ;rw [c];omega
  · show (lyN s t).den (FL h) ρ≤12;rw [c];exact up
  · show 50≤(lyS s t).den (FL h) ρ;rw [g];omega
  · show (lyS s t).den (FL h) ρ≤700;rw [g];omega
  · show -1600≤(lyA 82 (lyQ s t)).den (FL h) ρ;rw [eK];exact kq.1
  · show (lyA 82 (lyQ s t)).den (FL h) ρ≤1600;rw [eK];exact kq.2.1
  · rw [a,b];exact le2
  · exact eM
  · show -300≤(lyN0 s).den (FL h) ρ;rw [n0];exact nn
theorem lookG:SpecOK Tryz.prog (FL h) (lookS 14 lyBase):=by
  intro ρ β w vs ha hb hf;have he:Enters Tryz.prog 14:=jan (f:=14) (by kernel_rfl);have M:An.May (ρ 2) (vM (ρ 0).toNat) (vE (ρ 0).toNat) 300:=An.may_one.1 (jet hf.1);have le0:=(An.told_at M.B).tells.le
  cases hs:An.lkSm (ρ 2) (vM (ρ 0).toNat) (vE (ρ 0).toNat)
  · have k:=of_decide_eq_false hs
    exact jaq (tab:=lyB h) (sp:=lookS 14 lyZ) follows_any he (lyXZ h) rfl (fun ρ hf=>j2m h hf) ha hb ⟨jad ((jhk le0).2.2 k),jae (g:=gR (hC (hD (hV h)))) le0,jac (ly_x h (jbn hf.2)) hf⟩
  · obtain ⟨s,sg⟩:∃s,An.lkSg (ρ 2) (vM (ρ 0).toNat) (vE (ρ 0).toNat)=s:=⟨_,rfl⟩
    obtain ⟨t,ht⟩:∃t,t=decide (An.lkN0 (ρ 2) (vM (ρ 0).toNat) (vE (ρ 0).toNat)≤0):=⟨_,rfl⟩
    have rs:∀ρ,allT (FL h) ρ (lookS 14 (lyF s t)).fs→eqA (FL h) ρ (lyR s t) (lookS 14 (lyF s t)).res:=fun ρ hf=>by
      have s3:=jbn hf;have hle:An.atLo (ρ 2) (vM (ρ 0).toNat) (vE (ρ 0).toNat) 300≤An.atHi (ρ 2) (vM (ρ 0).toNat) (vE (ρ 0).toNat) 300:=(jkv _ _).1 (jaa s3.2.2.1);have pr:0<(An.atLo (ρ 2) (vM (ρ 0).toNat) (vE (ρ 0).toNat) 300).sign*(An.atHi (ρ 2) (vM (ρ 0).toNat) (vE (ρ 0).toNat) 300).sign:=jco s3.1;have some:=(jhk hle).1.1 pr;have sm:An.lkSm (ρ 2) (vM (ρ 0).toNat) (vE (ρ 0).toNat)=true:=decide_eq_true some
      have sg:An.lkSg (ρ 2) (vM (ρ 0).toNat) (vE (ρ 0).toNat)=s:=by
        cases s
        · have k:0≤(An.atLo (ρ 2) (vM (ρ 0).toNat) (vE (ρ 0).toNat) 300).sign:=jaa s3.2.1
          have k2:=(jn5 _).2.2.1 k;exact decide_eq_false (by omega)
        · have k:(An.atLo (ρ 2) (vM (ρ 0).toNat) (vE (ρ 0).toNat) 300).sign<0:=jco s3.2.1
          have k2:=(jn5 _).1.1 k;exact decide_eq_true (by omega)
      have n0:=jjv h sg;have hd:=jbn (jab (jab hf));have tn:=hd.2.2.2.2.2.2.2.2.2.2.2.1
      have ht:t=decide (An.lkN0 (ρ 2) (vM (ρ 0).toNat) (vE (ρ 0).toNat)≤0):=by
        cases t
        · have k:0<(lyN0 s).den (FL h) ρ:=jco tn
          rw [n0] at k;exact (decide_eq_false (by omega)).symm
        · have k:(lyN0 s).den (FL h) ρ≤0:=jaa tn
          rw [n0] at k;exact (decide_eq_true k).symm
      exact j2n h (jxo h sm sg ht)
    exact jaq (tab:=lyB h) (sp:=lookS 14 (lyF s t)) follows_any he (lyXF h s t) rfl rs ha hb (j2o h (jxo h hs sg ht) ht hf)
end
end V
end Go.Proofs.YtllgjggkchgpbaaGreat
