/- V: elem.At of any function, by names; a look's parts, by names; how far a ball is. Plain: patterns as rational numbers; what may be asked of them. Plain: the patterns of a job: what may be asked of them; between two of them. V: point.Gap, by names (balls of at most 16 limbs). -/
import Derived.Test.YtllgjggkchgpbaaGreatLb
import Derived.Test.YtllgjggkchgpbaaGreatAo
import Derived.Test.YtllgjggkchgpbaaGreatLaws
set_option linter.unusedVariables false
set_option linter.unusedSimpArgs false
namespace Go.Proofs.YtllgjggkchgpbaaGreat
section
section
open Go.RowKit Go.Shelf
namespace An
structure May (c z x q:Int):Prop where
  B:Base c z x q
  n9:¬(c=2∨c=3)→lgOk (nM z x) (nE z x)=false∨lgN (nM z x) (nE z x)≤9
open Classical in
noncomputable def mayI (c z x q:Int):Int:=if May c z x q then 1 else 0
theorem may_one {c z x q:Int}:mayI c z x q=1↔May c z x q:=by
  unfold mayI
  by_cases h:May c z x q
  · rw [if_pos h];exact ⟨fun _=>h,fun _=>rfl⟩
  · rw [if_neg h];exact ⟨fun k=>absurd k (by decide),fun k=>absurd k h⟩
def lkSg (c z x:Int):Bool:=decide (atHi c z x 300<0)
def lkSm (c z x:Int):Bool:=decide (0<atLo c z x 300∨atHi c z x 300<0)
def lkN0 (c z x:Int):Int:=(nbits (plL (lkSg c z x) (atLo c z x 300) (atHi c z x 300)).natAbs:Nat) - 1 - 300
def lkQ (c z x m:Int):Int:=if lkSm c z x then m+160 - min (lkN0 c z x) 0 else 300
def lkL (c z x m:Int):Int:=plL (lkSg c z x) (atLo c z x (lkQ c z x m)) (atHi c z x (lkQ c z x m))
def lkU (c z x m:Int):Int:=plH (lkSg c z x) (atLo c z x (lkQ c z x m)) (atHi c z x (lkQ c z x m))
def lkN (c z x m:Int):Int:=(nbits (lkL c z x m).natAbs:Nat) - 1 - lkQ c z x m
def lkE (c z x m:Int):Int:=if lkSm c z x then lkN c z x m+atK c z x (lkQ c z x m) else 0
def lkS (c z x m:Int):Int:=if lkSm c z x then lkQ c z x m - 53+lkN c z x m else 0
def lkLe (c z x m:Int):Int:=if lkSm c z x then gLeast (lkL c z x m) (lkU c z x m) (2^(lkS c z x m).toNat) else 0
def lkMo (c z x m:Int):Int:=if lkSm c z x then V.gMo (lkL c z x m) (lkU c z x m) (lkS c z x m) else 0
def lkH (c z x m:Int):Bool:=if lkSm c z x then decide (((nbits (lkLe c z x m).natAbs:Nat):Int)≤lkS c z x m - m) else true
noncomputable def hL (h:Nat→List Int→Int):Nat→List Int→Int
  | 0,[c,z,x,m]=>lkQ c z x m
  | 1,[c,z,x,m]=>lkE c z x m
  | 2,[c,z,x,m]=>lkS c z x m
  | 3,[c,z,x,m]=>lkLe c z x m
  | 4,[c,z,x,m]=>lkMo c z x m
  | 5,[c,z,x,m]=>V.b2i (lkH c z x m)
  | 6,[a,b,s]=>gLeast a b (2^s.toNat)
  | 7,[a,b,s]=>V.gMo a b s
  | 8,[c,z,x,q]=>mayI c z x q
  | n,l=>if n<16 then 0 else h (n - 16) l
structure LookOK (c z x m:Int):Prop where
  B:Base c z x (lkQ c z x m)
  n0 : -300≤lkN0 c z x
  q0:161≤lkQ c z x m
  q1:lkQ c z x m≤588
  pos:0<lkL c z x m
  le:lkL c z x m≤lkU c z x m
  low:150+m≤lkN c z x m+lkQ c z x m
  up:lkN c z x m≤12
  T:Told c (sgF (lkSg c z x) (valF c z x)) (lkL c z x m) (lkU c z x m) (atK c z x (lkQ c z x m)) (lkQ c z x m)
  S:Seen (sgF (lkSg c z x) (valF c z x)) (lkL c z x m) (lkU c z x m) (atK c z x (lkQ c z x m)) (lkQ c z x m) (lkN c z x m)
  nn:lkSg c z x=true→2≤c
theorem Base.places {c z x q p:Int} (B:Base c z x q) (p0:0≤p) (p1:p≤800):Base c z x p:=⟨B.c0,B.c5,p0,p1,B.e0,B.e1,B.ex,B.lp,B.l0,B.l1⟩
theorem j4j {s:Bool} {lo hi:Int} (h:lo≤hi):plL s lo hi≤plH s lo hi:=by cases s <;> simp [plL,plH] <;> omega
theorem look_ok {c z x m:Int} (B:Base c z x 300) (hs:lkSm c z x=true) (m0:1≤m) (m1:m≤128):LookOK c z x m:=by
  have T0:=told_at B;have le0:=T0.tells.le;have some:0<atLo c z x 300∨atHi c z x 300<0:=of_decide_eq_true hs
  have nn:lkSg c z x=true→2≤c:=fun k=>by
    have k2:atHi c z x 300<0:=of_decide_eq_true k
    by_cases c1:c≤1
    · have:=T0.pos c1 (by omega);omega
    · omega
  have p0:0<plL (lkSg c z x) (atLo c z x 300) (atHi c z x 300):=by
    unfold lkSg plL
    by_cases k:atHi c z x 300<0
    · rw [decide_eq_true k];simp;omega
    · rw [decide_eq_false k];simp;omega
  have nb:=jbq (n:=(plL (lkSg c z x) (atLo c z x 300) (atHi c z x 300)).natAbs) (by omega);have n0 : -300≤lkN0 c z x:=by unfold lkN0;omega
  have eq:lkQ c z x m=m+160 - min (lkN0 c z x) 0:=by unfold lkQ;rw [hs];rfl
  have Bq:=B.places (p:=lkQ c z x m) (by omega) (by omega);have T:=told_at Bq;have G0:=T0.sg _ nn;have G:=T.sg _ nn;have S0:=seen (n:=lkN0 c z x) (by omega) G0.tells p0 rfl
  have hk:atK c z x (lkQ c z x m)≤atK c z x 300+3:=by
    by_cases c1:c≤1
    · exact Told.pow_near c1 T0 T
    · rw [(k_in B).2.2 (by omega),(k_in Bq).2.2 (by omega)];omega
  have R:=jsl (n:=lkN c z x m) (lo:=lkL c z x m) (by omega) eq n0 G0 S0 G hk rfl;exact ⟨Bq,n0,by omega,by omega,R.pos,j4j T.tells.le,R.nlow,R.nup,G,seen (by omega) G.tells R.pos rfl,nn⟩
theorem jzx {g:Int} (h:0≤g) {n:Int} (hn:0≤n):((nbits g.natAbs:Nat):Int)≤n↔g<2^n.toNat:=by
  have k:=jba g.natAbs n.toNat;have e:((2^n.toNat:Nat):Int)=(2:Int)^n.toNat:=by rw [Int.natCast_pow];rfl
  constructor
  · intro a
    have:=k.1 (by omega);have:=Int.ofNat_lt.2 this
    omega
  · intro a
    have:g.natAbs<2^n.toNat:=Int.ofNat_lt.1 (by rw [e];omega);have:=k.2 this
    omega
theorem look_finer {c z x m n:Int} (B:Base c z x 300) (m0:1≤m) (hm:m≤n) (n1:n≤128) (h:lkH c z x n=true):lkH c z x m=true:=by
  by_cases e:m=n
  · rw [e];exact h
  cases hs:lkSm c z x
  · unfold lkH;rw [hs];rfl
  · have A:=look_ok B hs m0 (by omega)
    have C:=look_ok B hs (m:=n) (by omega) n1;have eS:∀k,lkS c z x k=lkQ c z x k - 53+lkN c z x k:=fun k=>by unfold lkS;rw [hs];rfl
    have eL:∀k,lkLe c z x k=gLeast (lkL c z x k) (lkU c z x k) (2^(lkS c z x k).toNat):=fun k=>by unfold lkLe;rw [hs];rfl
    have eH:∀k,94+k≤lkN c z x k+lkQ c z x k→(lkH c z x k=true↔gLeast (lkL c z x k) (lkU c z x k) (2^(lkQ c z x k - 53+lkN c z x k).toNat)<2^(lkQ c z x k - 53+lkN c z x k - k).toNat):=fun k hk=>by
      unfold lkH;rw [hs,if_pos rfl,decide_eq_true_iff,eL,eS];exact jzx (jn7 (Int.pow_pos (by omega))) (by omega)
    have la:=A.low;have lc:=C.low;rw [eH m (by omega)];rw [eH n (by omega)] at h;exact Seen.finer A.S C.S C.le (by omega) (by omega) (by omega) (by omega) h
theorem look_near {c z x m n:Int} (B:Base c z x 300) (m0:1≤m) (m1:m≤128) (n0:1≤n) (n1:n≤128):lkE c z x m≤lkE c z x n+1:=by
  cases hs:lkSm c z x
  · unfold lkE;rw [hs];exact Int.le_add_one (Int.le_refl 0)
  · have A:=look_ok B hs m0 m1
    have C:=look_ok B hs n0 n1;have:=A.S.scales C.S;unfold lkE;rw [hs];exact this
end An
namespace V
section
variable (h:Nat→List Int→Int)
noncomputable abbrev FL:Nat→List Int→Int:=FA (An.hL h)
noncomputable abbrev hV:Nat→List Int→Int:=An.hA (An.hL h)
def atGS (f:FuncId):Spec:=dsp f [i64 (.v 3),d0,i64 (.v 2)] 4 (.eq (ap4' 96 (.v 3) (.v 0) (.v 1) (.v 2)) (.n 1)::xF 1) (.tup [.ag [.z 1000 true (ap4' 80 (.v 3) (.v 0) (.v 1) (.v 2)),.z 1000 true (ap4' 81 (.v 3) (.v 0) (.v 1) (.v 2)),.i .i64 (.v 2)],.sc (.i .i64 (ap4' 82 (.v 3) (.v 0) (.v 1) (.v 2))),.sc (.i .i64 (.n 0))])
theorem at_g {c:Int} {fs:List T} (H:SpecOK Tryz.prog (FL h) (atS 29 c fs)) {ρ:Nat→Int} {β:Nat→Nat} {w:World} {vs:List Value} (e:ρ 3=c) (ha:hasA (FL h) ρ β w (atGS 29).ps vs) (hf:allT (FL h) ρ fs) :
    Calls Tryz.prog 29 vs.toArray w (fun e w'=>Below w.heap.size w w'∧∃u,e=.returned u∧(atGS 29).res.has (FL h) ρ β w' u):=by
  obtain ⟨v1,r1,rfl,a1,hr⟩:=ha;have a1':[v1]=[Value.int .i64 (ρ 3)]:=a1;rw [e] at a1';have g:=(H (ρ:=ρ) (β:=β) (w:=w) (vs:=v1::r1) ⟨v1,r1,rfl,a1',hr⟩ jgr hf).2;refine g.mono fun x w' ⟨k1,u,k2,k3⟩=>⟨k1,u,k2,jxh ?_ k3⟩
  have d:∀n,(ap4' n (.n c) (.v 0) (.v 1) (.v 2)).den (FL h) ρ=(ap4' n (.v 3) (.v 0) (.v 1) (.v 2)).den (FL h) ρ:=fun n=>by
    show FL h n [c,ρ 0,ρ 1,ρ 2]=FL h n [ρ 3,ρ 0,ρ 1,ρ 2]
    rw [e]
  refine ⟨?_,?_,?_,trivial⟩
  · exact ⟨⟨Nat.le_refl _,rfl,d 80⟩,⟨Nat.le_refl _,rfl,d 81⟩,⟨rfl,rfl⟩,trivial⟩
  · exact ⟨rfl,d 82⟩
  · exact ⟨rfl,rfl⟩
theorem jof {ρ:Nat→Int} (hx:allT (FL h) ρ (xF 1)) {c:Int} (hc:¬(c=2∨c=3)) (M:An.May c (ρ 0) (ρ 1) (ρ 2)):allT (FL h) ρ ([may9] ++ aF):=by
  have B:=M.B;have ha:allT (FL h) ρ aF:=jac hx ⟨jad B.q0,jad B.q1,jad B.e0,jad B.e1,trivial⟩;refine jac ⟨?_,trivial⟩ ha;unfold may9;rw [jew,jax,bd_le]
  show (!(b2i (lgOk (nM (ρ 0) (ρ 1)) (nE (ρ 0) (ρ 1))) != 0) || decide (lgN (nM (ρ 0) (ρ 1)) (nE (ρ 0) (ρ 1))≤9))=true
  rw [jcu,Bool.or_eq_true]
  rcases M.n9 hc with k | k
  · left;rw [k];rfl
  · right;exact decide_eq_true k
theorem jxm {ρ:Nat→Int} (hx:allT (FL h) ρ (xF 1)) {c:Int} (hc:c=2∨c=3) (M:An.May c (ρ 0) (ρ 1) (ρ 2)):allT (FL h) ρ lgB:=by
  have B:=M.B;have ha:allT (FL h) ρ aF:=jac hx ⟨jad B.q0,jad B.q1,jad B.e0,jad B.e1,trivial⟩;exact jac ⟨jbj (An.av_pos_iff.2 (B.lp hc)),jad (B.l0 hc),jad (B.l1 hc),trivial⟩ ha
theorem atG:SpecOK Tryz.prog (FL h) (atGS 29):=by
  intro ρ β w vs ha hb hf;have M:An.May (ρ 3) (ρ 0) (ρ 1) (ρ 2):=An.may_one.1 (jet hf.1);have c0:=M.B.c0;have c5:=M.B.c5;refine ⟨trivial,?_⟩;obtain ⟨c,ec⟩:∃c,ρ 3=c:=⟨_,rfl⟩;rw [ec] at M c0 c5;have hc:c=0∨c=1∨c=2∨c=3∨c=4∨c=5:=by omega
  rcases hc with rfl | rfl | rfl | rfl | rfl | rfl
  · exact at_g h (at0 (An.hL h)) ec ha (jof h hf.2 (by omega) M)
  · exact at_g h (at1 (An.hL h)) ec ha (jof h hf.2 (by omega) M)
  · exact at_g h (at2 (An.hL h)) ec ha (jxm h hf.2 (by omega) M)
  · exact at_g h (at3 (An.hL h)) ec ha (jxm h hf.2 (by omega) M)
  · exact at_g h (at4 (An.hL h)) ec ha (jof h hf.2 (by omega) M)
  · exact at_g h (at5 (An.hL h)) ec ha (jof h hf.2 (by omega) M)
end
end V
end
end
section
section
open Go.RowKit Go.Shelf
namespace An
def bv (b:Nat):Rat:=rv (av 4000 (vM b) (vE b))
theorem nrm_pat {b:Nat} (h:pFld b≠2047):Nrm (vM b) (vE b) (bv b):=by
  have e:=jmx b h;obtain ⟨n1,n2⟩:=jsd (v_nf b h) (by omega) (by omega);exact ⟨n1,n2,by omega,by omega,rfl⟩
theorem jjt {c a b q:Int} {r:Rat} (c0:0≤c) (c5:c≤5) (hc:¬(c=2∨c=3)) (N:Nrm a b r) (q0:0≤q) (q1:q≤800) (h:lgOk a b=false∨lgN a b≤9):May c a b q:=by
  have b0:=N.b0;have b1:=N.b1;refine ⟨⟨c0,c5,q0,q1,by rw [N.ne];exact b0,by rw [N.ne];exact b1,fun _=>?_,fun k=>absurd k hc,fun k=>absurd k hc,fun k=>absurd k hc⟩,fun _=>by rw [N.nm,N.ne];exact h⟩;rw [N.xQ];have t10:=two_ten;have hr:=N.rr
  by_cases hz:a=0
  · have:r=0:=by
      rw [←hr,hz,jd5 (by omega) b1]
      show (0:Rat)*_=0
      grind
    rw [this];unfold Bd;grind
  · have h9:lgN a b≤9:=by
      rcases h with k | k
      · exfalso
        unfold lgOk cM at k;rw [if_neg (by omega)] at k;simp [hz] at k
      · exact k
    have t:=two_le_two (show lgN a b+1≤10 by omega)
    by_cases hp:0<a
    · obtain ⟨-,l,-⟩:=jms (z:=a) (x:=b) (by omega) b1 hp
      have p:=rv_pos (v:=av 4000 a b) (by
        have:0<sv 4000 a b:=by unfold sv;exact Int.mul_pos hp (Int.pow_pos (by omega))
        rw [jmj (by omega) b1];exact this)
      rw [hr] at l p;unfold Bd;grind
    · obtain ⟨-,l,-⟩:=jms (z := -a) (x:=b) (by omega) b1 (by omega)
      have p:=rv_pos (v:=av 4000 (-a) b) (by
        have:0<sv 4000 (-a) b:=by unfold sv;exact Int.mul_pos (by omega) (Int.pow_pos (by omega))
        rw [jmj (by omega) b1];exact this)
      rw [jre,jrd (by omega) b1,hr] at l;rw [jrd (by omega) b1,hr] at p;unfold Bd;grind
theorem jsn {c a b q:Int} {r:Rat} (c0:0≤c) (c5:c≤5) (hc:c=2∨c=3) (N:Nrm a b r) (q0:0≤q) (q1:q≤800) (hr:0<r) (g0 : -1100≤lgN a b) (g1:lgN a b≤1100):May c a b q:=by
  have b0:=N.b0;have b1:=N.b1;have g:gE a b=lgN a b:=by unfold gE;rw [N.nm,N.ne]
  exact ⟨⟨c0,c5,q0,q1,by rw [N.ne];exact b0,by rw [N.ne];exact b1,fun k=>absurd hc k,fun _=>by rw [N.xV];exact N.sign.2.1.2 hr,fun _=>by rw [g];exact g0,fun _=>by rw [g];exact g1⟩,fun k=>absurd hc k⟩
theorem jxn {b:Nat} (h:pFld b≠2047) : -1100≤lgN (vM b) (vE b)∧lgN (vM b) (vE b)≤1100:=by
  have e:=jmx b h;have l:=jzb b;have nb:nbits (vM b).natAbs≤64:=(jba _ _).2 (by rw [show (2:Nat)^64=W^1 from by decide +kernel];exact l);unfold lgN cM cE
  by_cases hz:vE b < -4000∨4000<vE b∨vM b=0
  · simp only [if_pos hz,if_true]
    omega
  · simp only [if_neg hz]
    rw [if_neg (by omega)];omega
theorem not_may {c:Int} {b:Nat} (h:pFld b≠2047) (hn:¬ May c (vM b) (vE b) 300):c<0∨5<c∨((c=2∨c=3)∧(cM (vM b) (vE b)).sign≤0)∨(¬(c=2∨c=3)∧0≤c∧c≤5∧lgOk (vM b) (vE b)=true∧10≤lgN (vM b) (vE b)):=by
  have N:=nrm_pat h;obtain ⟨g0,g1⟩:=jxn h
  by_cases c0:c<0
  · exact .inl c0
  by_cases c5:5<c
  · exact .inr (.inl c5)
  by_cases c2:c=2∨c=3
  · right;right;left
    refine ⟨c2,?_⟩
    by_cases s:(cM (vM b) (vE b)).sign≤0
    · exact s
    · exfalso
      have p:=av_pos_iff.1 (show 0<(cM (vM b) (vE b)).sign by omega);exact hn (jsn (by omega) (by omega) c2 N (by omega) (by omega) (N.sign.2.1.1 p) g0 g1)
  · right;right;right
    refine ⟨c2,by omega,by omega,?_⟩
    cases k:lgOk (vM b) (vE b)
    · exact absurd (jjt (by omega) (by omega) c2 N (by omega) (by omega) (.inl k)) hn
    · refine ⟨rfl,?_⟩
      by_cases k9:lgN (vM b) (vE b)≤9
      · exact absurd (jjt (by omega) (by omega) c2 N (by omega) (by omega) (.inr k9)) hn
      · omega
theorem lkE_in {c z x m:Int} (B:Base c z x 300) (m0:1≤m) (m1:m≤128) : -2200≤lkE c z x m∧lkE c z x m≤2200:=by
  cases hs:lkSm c z x
  · have e:lkE c z x m=0:=by unfold lkE;rw [hs];rfl
    omega
  · have A:=look_ok B hs m0 m1
    have k:=k_in A.B;have l:=A.low;have u:=A.up;have q:=A.q1;have e:lkE c z x m=lkN c z x m+atK c z x (lkQ c z x m):=by unfold lkE;rw [hs];rfl
    omega
end An
end
end
section
section
open Go.RowKit Go.Shelf
namespace An
def jp (E:Int) (i:Nat):Nat:=((E+1023)*4503599627370496).toNat+i
theorem jeo {E:Int} {i:Nat} (h0 : -64≤E) (h1:E≤9) (hi:i<4503599627370496):(pFld (jp E i):Int)=E+1023∧pFrc (jp E i)=i∧pNeg (jp E i)=false∧jp E i<9218868437227405312:=by
  unfold jp pFld pFrc pNeg;refine ⟨?_,?_,decide_eq_false ?_,?_⟩ <;> omega
theorem jso {E:Int} {i:Nat} (h0 : -64≤E) (h1:E≤9) (hi:i<4503599627370496):0<bv (jp E i)∧bv (jp E i)<two (E+1):=by
  obtain ⟨p1,p2,p3,p4⟩:=jeo h0 h1 hi;have f:pFld (jp E i)≠2047:=by omega
  have e:bv (jp E i)=((rM (jp E i):Int):Rat)*two (rE (jp E i)):=by
    have b:=jsf (jp E i) f;unfold bv;rw [joc 4000 (Nat.le_refl _) _ f,←jmj (by omega) (by omega),jd5 (by omega) (by omega)]
  have eM:rM (jp E i)=(i:Int)+4503599627370496:=by
    unfold rM;rw [if_neg (by omega),p2,p3]
    show (((i+4503599627370496:Nat)):Int)=_
    omega
  have eE:rE (jp E i)=E - 52:=by unfold rE;rw [if_neg (by omega)];omega
  rw [e,eM,eE];have p:=two_pos (E - 52);have e53:two 53=9007199254740992:=by show (2:Rat)^53=9007199254740992;decide +kernel
  have e2:two (E+1)=two 53*two (E - 52):=by rw [←two_add];congr 1;omega
  have i1:((i:Int)+4503599627370496:Int)<9007199254740992:=by omega
  have i0:0<((i:Int)+4503599627370496:Int):=by omega
  have r1:=Rat.intCast_lt_intCast.2 i1;have r0:=Rat.intCast_pos.2 i0;rw [e2,e53];exact ⟨Rat.mul_pos r0 p,Rat.mul_lt_mul_of_pos_right r1 p⟩
theorem jp_may {c E:Int} {i:Nat} (c0:0≤c) (c5:c≤5) (h0 : -64≤E) (h1:E≤9) (hi:i<4503599627370496):May c (vM (jp E i)) (vE (jp E i)) 300:=by
  obtain ⟨p1,p2,p3,p4⟩:=jeo h0 h1 hi;have f:pFld (jp E i)≠2047:=by omega
  obtain ⟨r0,r1⟩:=jso h0 h1 hi;have N:=nrm_pat f;obtain ⟨g0,g1⟩:=jxn f
  by_cases hc:c=2∨c=3
  · exact jsn c0 c5 hc N (by omega) (by omega) r0 g0 g1
  · refine jjt c0 c5 hc N (by omega) (by omega) (.inr ?_)
    have b0:=N.b0;have b1:=N.b1
    have hp:0<vM (jp E i):=by
      have e:=jd5 (z:=vM (jp E i)) (x:=vE (jp E i)) (by omega) b1;have t:=two_pos (vE (jp E i))
      by_cases k:0<vM (jp E i)
      · exact k
      · have:=Rat.mul_le_mul_of_nonneg_right (show ((vM (jp E i):Int):Rat)≤0 from jag (show vM (jp E i)≤0 by omega)) (Rat.le_of_lt t)
        unfold bv at r0
        grind
    obtain ⟨l1,-,-⟩:=jms (z:=vM (jp E i)) (x:=vE (jp E i)) (by omega) b1 hp;have e:rv (av 4000 (vM (jp E i)) (vE (jp E i)))=bv (jp E i):=rfl;rw [e] at l1;have:=jb5 (show two (lgN (vM (jp E i)) (vE (jp E i)))<two (E+1) by grind)
    omega
theorem jzy {E:Int} {i k:Nat} (h0 : -64≤E) (h1:E≤9) (hk:k<4503599627370496) (h:i≤k):bv (jp E i)≤bv (jp E k):=by
  have a:=(jeo h0 h1 (i:=i) (by omega)).2.2.2;have b:=(jeo h0 h1 hk).2.2.2;have c:=j2l 4000 (Nat.le_refl _) a b;have l:jp E i≤jp E k:=by unfold jp;omega
  have key:av 4000 (vM (jp E i)) (vE (jp E i))≤av 4000 (vM (jp E k)) (vE (jp E k)):=by
    have g:cmpZ (av 4000 (vM (jp E i)) (vE (jp E i))) (av 4000 (vM (jp E k)) (vE (jp E k)))≤0:=by
      rw [c];unfold cmpN
      split <;> omega
    exact (jkv _ _).1 g
  unfold bv rv;exact Rat.mul_le_mul_of_nonneg_right (jag key) (Rat.le_of_lt (Rat.inv_pos.2 (DD_pos _)))
theorem jp_inside {c E m:Int} {i k:Nat} (c0:0≤c) (c5:c≤5) (h0 : -64≤E) (h1:E≤9) (hk:k<4503599627370496) (h:i≤k) (m0:1≤m) (m1:m≤128) (hl:lkE c (vM (jp E k)) (vE (jp E k)) m≤1022) :
    -1023≤lkE c (vM (jp E i)) (vE (jp E i)) m∧lkE c (vM (jp E i)) (vE (jp E i)) m≤1023:=by
  have Mi:=jp_may c0 c5 h0 h1 (i:=i) (by omega);have Mk:=jp_may c0 c5 h0 h1 hk
  cases hs:lkSm c (vM (jp E i)) (vE (jp E i))
  · have e:lkE c (vM (jp E i)) (vE (jp E i)) m=0:=by unfold lkE;rw [hs];rfl
    omega
  have A:=look_ok Mi.B hs m0 m1;have eA:lkE c (vM (jp E i)) (vE (jp E i)) m=lkN c (vM (jp E i)) (vE (jp E i)) m+atK c (vM (jp E i)) (vE (jp E i)) (lkQ c (vM (jp E i)) (vE (jp E i)) m):=by unfold lkE;rw [hs];rfl
  by_cases c2:2≤c
  · have z:=(k_in A.B).2.2 c2
    have l:=A.low;have u:=A.up;have q:=A.q1
    omega
  · have hs2:lkSm c (vM (jp E k)) (vE (jp E k))=true:=decide_eq_true (.inl ((told_at Mk.B).pos (by omega) (by omega)))
    have C:=look_ok Mk.B hs2 m0 m1;have eC:lkE c (vM (jp E k)) (vE (jp E k)) m=lkN c (vM (jp E k)) (vE (jp E k)) m+atK c (vM (jp E k)) (vE (jp E k)) (lkQ c (vM (jp E k)) (vE (jp E k)) m):=by unfold lkE;rw [hs2];rfl
    have sA:lkSg c (vM (jp E i)) (vE (jp E i))=false:=by
      cases t:lkSg c (vM (jp E i)) (vE (jp E i))
      · rfl
      · have:=A.nn t;omega
    have sC:lkSg c (vM (jp E k)) (vE (jp E k))=false:=by
      cases t:lkSg c (vM (jp E k)) (vE (jp E k))
      · rfl
      · have:=C.nn t;omega
    have fi:pFld (jp E i)≠2047:=by have:=(jeo h0 h1 (i:=i) (by omega)).1;omega
    have fk:pFld (jp E k)≠2047:=by have:=(jeo h0 h1 hk).1;omega
    have xi:=(nrm_pat fi).xQ;have xk:=(nrm_pat fk).xQ;have mono:=jzy h0 h1 hk h;have vi:=(jso h0 h1 (i:=i) (by omega)).1;have vk:=(jso h0 h1 hk).1;have bi:=Mi.B.ex (by omega);have bk:=Mk.B.ex (by omega);rw [xi] at bi;rw [xk] at bk
    have F:Lim fun n ε=>valF c (vM (jp E i)) (vE (jp E i)) n≤valF c (vM (jp E k)) (vE (jp E k)) n+ε∧1≤valF c (vM (jp E i)) (vE (jp E i)) n:=by
      refine ((juv 1024).and (Lim.late (P:=fun m _=>1≤m) 1 fun n ε h _=>h)).mono fun n ε he ⟨g,hn⟩=>?_
      have ln:=jmb n
      have one:∀y:Rat,0≤y→1≤En n y:=fun y hy=>by
        have mo:=jnp (x:=0) (y:=y) (by grind) hy n;obtain ⟨n',rfl⟩:∃n',n=n'+1:=⟨n - 1,by omega⟩;rw [E0] at mo;exact mo
      have cc:c=0∨c=1:=by omega
      rcases cc with rfl | rfl
      · have e1:valF 0 (vM (jp E i)) (vE (jp E i)) n=En n (bv (jp E i)):=by rw [←xi];rfl
        have e2:valF 0 (vM (jp E k)) (vE (jp E k)) n=En n (bv (jp E k)):=by rw [←xk];rfl
        rw [e1,e2];exact ⟨g _ _ bi bk mono,one _ (Rat.le_of_lt vi)⟩
      · have e1:valF 1 (vM (jp E i)) (vE (jp E i)) n=En n (bv (jp E i)*lnn n):=by rw [←xi];rfl
        have e2:valF 1 (vM (jp E k)) (vE (jp E k)) n=En n (bv (jp E k)*lnn n):=by rw [←xk];rfl
        rw [e1,e2];have b1:Bd 1 (lnn n):=by unfold Bd;grind
        exact ⟨g _ _ ((bi.mul b1).mono (by grind)) ((bk.mul b1).mono (by grind)) (Rat.mul_le_mul_of_nonneg_right mono ln.1),one _ (Rat.mul_nonneg (Rat.le_of_lt vi) ln.1)⟩
    have la:=A.S.lim;have lc:=C.S.lim;rw [sA] at la;rw [sC] at lc;have wa:=A.S.w_le;have wc:=C.S.w_le;rw [←eA] at la wa;rw [←eC] at lc wc
    have up:two (lkE c (vM (jp E i)) (vE (jp E i)) m)≤two (lkE c (vM (jp E k)) (vE (jp E k)) m+1)+two (lkE c (vM (jp E k)) (vE (jp E k)) m):=by
      refine Lim.le (K:=3) (by grind) (((la.and lc).and F).mono fun n ε he ⟨⟨a,b⟩,f⟩=>?_);have a1:two (lkE c (vM (jp E i)) (vE (jp E i)) m)≤valF c (vM (jp E i)) (vE (jp E i)) n+ε:=a.1;have b1:valF c (vM (jp E k)) (vE (jp E k)) n≤_:=b.2
      grind
    have dn:(1:Rat)≤two (lkE c (vM (jp E i)) (vE (jp E i)) m+1)+two (lkE c (vM (jp E i)) (vE (jp E i)) m):=by
      refine Lim.le (K:=3) (by grind) ((la.and F).mono fun n ε he ⟨a,f⟩=>?_);have a1:valF c (vM (jp E i)) (vE (jp E i)) n≤_:=a.2
      grind
    generalize lkE c (vM (jp E i)) (vE (jp E i)) m=e1 at *
    generalize lkE c (vM (jp E k)) (vE (jp E k)) m=e2 at *
    have s1:=two_succ e2;have s2:=two_succ (e2+1);have p2:=two_pos e2;have s3:=two_succ e1;have s4:=two_succ (e1+1);have p1:=two_pos e1;have u:=jb5 (show two e1<two (e2+1+1) by grind);have d:=jb5 (show two 0<two (e1+1+1) by rw [jcz];grind)
    omega
end An
end
end
section
section
open Go.RowKit Go.Shelf
namespace V
section
variable (h:Nat→List Int→Int)
noncomputable def gpV:List (Ctr Tryz.prog (FL h)):=inl (dy1 (hV h)) 111 (by kernel_rfl)::inl (dy1 (hV h)) 50 (by kernel_rfl)::dy1 (hV h)
def gbV:A:=bA 16 false (.v 0) (.v 1) (.v 2)
def gfV:List T:=[.le (.n 0) (.v 2),.le (.v 2) (.n 2048),rightL (.v 0) (.v 1),.le (.n 0) (.v 3),.le (.v 3) (.n 2048)]
def gapVS (f:FuncId):Spec:=dsp f [gbV,i64 (.v 3)] 4 gfV (.tup [zC 90 (ap3 94 (.v 0) (.v 1) (.v 3)),zC 90 (ap3 95 (.v 0) (.v 1) (.v 3)),.sc (.i .i64 (.n 0))])
def gapVR:A:=.tup [zC 85 (tSw (tL1 tN1) (tL1 tN0)),zC 85 (tSw (tM1 tN0) (tM1 tN1)),.sc (.i .i64 (.n 0))]
theorem gapVX:in12 (inlX (gpV h) 49 gfV [] [gbV,i64 (.v 3)])=some ([],gapVR):=by kernel_rfl
theorem gapG:SpecOK Tryz.prog (FL h) (gapVS 49):=by
  have he:Enters Tryz.prog 49:=jan (f:=49) (by kernel_rfl)
  have rs:∀ρ,allT (FL h) ρ (gapVS 49).fs→eqA (FL h) ρ gapVR (gapVS 49).res:=fun ρ hf=>by
    obtain ⟨h1,h2,h3,h4,h5,-⟩:=hf;have hi:gIn (ρ 0) (ρ 1) (ρ 2) (ρ 3):=⟨jaa h1,jaa h2,(jkv _ _).1 (jaa h3),jaa h4,jaa h5⟩;have d1:=j2b (g:=gR (hC (hD (hV h)))) hi;have d2:=j2c (g:=gR (hC (hD (hV h)))) hi;refine ⟨⟨⟨by omega,rfl,d1⟩,trivial⟩,⟨⟨by omega,rfl,d2⟩,trivial⟩,⟨rfl,rfl⟩,trivial⟩
  exact fun {ρ β w vs} ha hb hf=>jaq (tab:=gpV h) (sp:=gapVS 49) follows_any he (gapVX h) rfl rs ha hb hf
end
end V
end
end
end Go.Proofs.YtllgjggkchgpbaaGreat