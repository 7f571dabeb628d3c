/- What law04's 'shown' comes to. Plain facts. law04's 'shown' is true. A pattern's number has that pattern. Plain facts. A binade's first pattern and its number. Plain facts. Patterns stand in order. Plain facts. cut: a dyad whose integer has so many limbs at most, its own. law03's 'of' and 'small'. law03's 'shown' is true. -/
import Derived.Test.YtllgjggkchgpbaaGreatCons
import Derived.Deep.DeepCutAuto
set_option linter.unusedVariables false
set_option linter.unusedSimpArgs false
namespace Go.Proofs.YtllgjggkchgpbaaGreat
section
section
section
open Go.RowKit
open L (val dig nth)
theorem jjs {z x:Int} (h1 : -4000≤x) (h2:x≤4000):cM z x=z:=by
  unfold cM
  by_cases hz:z=0
  · subst hz;split <;> rfl
  · rw [if_neg (by omega)]
theorem jvq {z x:Int} (h1 : -4000≤x) (h2:x≤4000) (hz:z≠0):cE z x=x:=by
  unfold cE;rw [if_neg (by omega)]
theorem jxk {z x:Int} (h1 : -4000≤x) (h2:x≤4000) (ho:z.natAbs%2=1):nM z x=z:=by
  unfold nM;rw [jjs h1 h2];exact j1z (x:=x) (.inr ho)
theorem jxl {z x:Int} (h1 : -4000≤x) (h2:x≤4000) (ho:z.natAbs%2=1):nE z x=x:=by
  have hz:z≠0:=by intro h;subst h;simp at ho
  unfold nE;rw [jjs h1 h2,jvq h1 h2 hz];exact j10 (.inr ho)
def one:Nat:=4607182418800017408
theorem j2k {z x m:Int} (h1 : -4000≤x) (h2:x≤4000) (hz:z≠0) (hm:x+nbits z.natAbs - 1=m) (hb:¬ ofBad z x m):oB1 z x=ofPat z x m∧oX1 z x=0:=by
  have hok:lgOk z x=true:=by unfold lgOk;rw [jjs h1 h2];simpa using hz
  have hlg:lgN z x=m:=by unfold lgN;rw [jjs h1 h2,jvq h1 h2 hz,if_neg hz];exact hm
  unfold oB1 oX1;rw [hok,hlg,if_neg (by simp),if_neg hb,if_neg (by simp),if_neg hb];exact ⟨rfl,rfl⟩
theorem jzt {N:Nat} (h:N<W):(dig W N).length≤1:=by rw [L.dig_len W_gt,Nat.pow_one];exact h
end
end
section
section
open Go.RowKit
open L (val dig nth)
end
end
end
section
section
section
open Go.RowKit
open L (val dig nth)
theorem jsd {z x:Int} (h:nf z x) (h1 : -4000≤x) (h2:x≤4000):nM z x=z∧nE z x=x:=by
  constructor
  · unfold nM;rw [jjs h1 h2];exact j1z h
  · unfold nE;rw [jjs h1 h2]
    by_cases hz:z=0
    · rcases h with ⟨_,rfl⟩ | h
      · subst hz;exact jdn _
      · subst hz;simp at h
    · rw [jvq h1 h2 hz];exact j10 h
theorem jk2 (b:Nat) (hb:b<W):b=pFrc b+pFld b*4503599627370496+(if pNeg b then T63 else 0):=by
  unfold pFrc pFld pNeg;unfold W at hb;rw [jxv]
  by_cases h:9223372036854775808≤b
  · rw [decide_eq_true h,if_pos rfl];omega
  · rw [decide_eq_false h,if_neg (by simp)];omega
theorem jse (b:Nat):pFrc b<4503599627370496:=Nat.mod_lt _ (by omega)
def rF (b:Nat):Nat:=if pFld b=0 then pFrc b else pFrc b+4503599627370496
theorem jzu (b:Nat):rM b=ival (pNeg b) (rF b):=rfl
theorem j4h (b:Nat):rF b<2^53:=by
  have:=jse b;rw [show (2:Nat)^53=9007199254740992 from rfl];unfold rF;split <;> omega
theorem jsf (b:Nat) (h:pFld b≠2047) : -1074≤rE b∧rE b≤971:=by
  have:=jjy b;unfold rE;split <;> omega
theorem jzv (b:Nat):tz (rF b)≤53:=jvb _ _ (j4h b)
theorem jqa (b:Nat) (h:pFld b≠2047):vM b=pM (rM b):=by
  have:=jsf b h;unfold vM;rw [if_neg h];unfold nM;rw [jjs (by omega) (by omega)]
theorem jsg (b:Nat) (h:pFld b≠2047):vE b=pE (rM b) (rE b):=by
  have:=jsf b h;unfold vE;rw [if_neg h];unfold nE;rw [jjs (by omega) (by omega)]
  by_cases hz:rM b=0
  · rw [hz,jdn,jdn]
  · rw [jvq (by omega) (by omega) hz]
theorem jk3 (b:Nat):(rM b).natAbs=rF b:=by rw [jzu,jbe]
theorem jmx (b:Nat) (h:pFld b≠2047) : -1074≤vE b∧vE b≤1024:=by
  have h1:=jsf b h;have h2:=jzv b;rw [jsg b h];unfold pE;rw [jk3];split <;> omega
theorem v_nf (b:Nat) (h:pFld b≠2047):nf (vM b) (vE b):=by rw [jqa b h,jsg b h];exact ju7 _ _
theorem jn9 {f:Nat} (h1:4503599627370496≤f) (h2:f<9007199254740992):nbits f=53:=
  jcn (by rw [show (2:Nat)^53=9007199254740992 from rfl];exact h2) (.inr (by rw [show (2:Nat)^(53 - 1)=4503599627370496 from rfl];exact h1))
theorem joa {f:Nat} (h2:f<4503599627370496):nbits f≤52:=by
  rw [jba,show (2:Nat)^52=4503599627370496 from rfl];exact h2
theorem jsh (b:Nat) (h:pFld b≠2047) (h0:rF b=0):oB1 (vM b) (vE b)=0∧oX1 (vM b) (vE b)=0:=by
  have hz:rM b=0:=by have:=jk3 b;omega
  have h1:lgOk (vM b) (vE b)=false:=by
    rw [jqa b h,jsg b h,hz,jg8,jdn];unfold lgOk;rw [jjs (by omega) (by omega)];rfl
  unfold oB1 oX1;rw [if_pos h1,if_pos h1];exact ⟨rfl,rfl⟩
theorem jsi (b:Nat) (hb:b<W) (h:pFld b≠2047) (h0:rF b≠0):oB1 (vM b) (vE b)=b∧oX1 (vM b) (vE b)=0:=by
  have hz:rM b≠0:=by have:=jk3 b;omega
  have hvb:=jmx b h;have hvz:vM b≠0:=by rw [jqa b h];exact j39 hz
  have hx:vE b=rE b+tz (rF b):=by rw [jsg b h,jp4 hz,jk3]
  have hg:(vM b).natAbs*2^tz (rF b)=rF b:=by
    have:=congrArg Int.natAbs (jez (rM b));rw [Int.natAbs_mul,natAbs_pow,jk3] at this;rw [jqa b h];exact this
  have hn:nbits (vM b).natAbs+tz (rF b)=nbits (rF b):=by rw [←jrt _ _ (by omega),hg]
  have hneg:(vM b<0)↔pNeg b=true:=by
    have e1:pM (rM b)*2^tz (rM b).natAbs=rM b:=jez _
    have e2:vM b<0↔rM b<0:=by
      rw [jqa b h,←Int.sign_eq_neg_one_iff_neg,←Int.sign_eq_neg_one_iff_neg]
      conv=>rhs;rw [←e1,Int.sign_mul,Int.sign_eq_one_of_pos (jbr _),Int.mul_one]
    rw [e2,jzu];have:=jpm (pNeg b) (rF b)
    cases hp:pNeg b <;> simp [ival] <;> omega
  have hfr:=jse b;have hfl:=jjy b;obtain ⟨m,hm⟩:∃m,vE b+nbits (vM b).natAbs - 1=m:=⟨_,rfl⟩;have hm2:m=rE b+nbits (rF b) - 1:=by omega
  have hlow:ofLow m=rE b∧m≤1023:=by
    unfold ofLow
    by_cases hf:pFld b=0
    · have:rF b<4503599627370496:=by unfold rF;rw [if_pos hf];omega
      have:=joa this;have:rE b = -1074:=by unfold rE;rw [if_pos hf]
      omega
    · have:nbits (rF b)=53:=by unfold rF;rw [if_neg hf];exact jn9 (by omega) (by omega)
      have:rE b=(pFld b:Int) - 1075:=by unfold rE;rw [if_neg hf]
      omega
  have hdl:(dig W (vM b).natAbs).length≤1:=jzt (by have:=jzb b;rwa [Nat.pow_one] at this);have hbad:¬ ofBad (vM b) (vE b) m:=by unfold ofBad;rw [hlow.1];omega
  have ho:=j2k (by omega) (by omega) hvz hm hbad;refine ⟨ho.1.trans ?_,ho.2⟩;unfold ofPat;rw [hlow.1,hx,show (rE b+(tz (rF b):Int) - rE b).toNat=tz (rF b) from by omega,hg];simp only [hneg]
  conv=>rhs;rw [jk2 b hb]
  congr 1
  by_cases hf:pFld b=0
  · have h1:rF b=pFrc b:=by unfold rF;rw [if_pos hf]
    have h2:=joa (f:=rF b) (by omega);have h3:rE b = -1074:=by unfold rE;rw [if_pos hf]
    rw [if_neg (by omega),h1,hf]
  · have h1:rF b=pFrc b+4503599627370496:=by unfold rF;rw [if_neg hf]
    have h2:=jn9 (f:=rF b) (by omega) (by omega);have h3:rE b=(pFld b:Int) - 1075:=by unfold rE;rw [if_neg hf]
    rw [if_pos (by omega),h1];omega
theorem back (b:Nat) (hb:b<W) (h:pFld b≠2047):oX1 (nM (vM b) (vE b)) (nE (vM b) (vE b))=0∧
    (oB1 (nM (vM b) (vE b)) (nE (vM b) (vE b))=b∨b=T63∧oB1 (nM (vM b) (vE b)) (nE (vM b) (vE b))=0):=by
  have hvb:=jmx b h;have hn:=jsd (v_nf b h) (by omega) (by omega);rw [hn.1,hn.2]
  by_cases h0:rF b=0
  · have h1:=jsh b h h0
    refine ⟨h1.2,?_⟩;rw [h1.1];have hp:=jk2 b hb;have hf:pFld b=0∧pFrc b=0:=by unfold rF at h0;split at h0 <;> omega
    rw [hf.1,hf.2] at hp
    by_cases hs:pNeg b=true
    · rw [if_pos hs] at hp;right;exact ⟨by omega,rfl⟩
    · rw [if_neg hs] at hp;left;omega
  · have h1:=jsi b hb h h0
    exact ⟨h1.2,.inl h1.1⟩
end
end
section
section
open Go.RowKit
open L (val dig nth)
theorem jsj (a:Int):cmpZ a a=0:=by simp [cmpZ]
section
variable {e:Int} (h1 : -1022≤e) (h2:e≤1023)
include h1 h2
end
end
end
section
section
open Go.RowKit
open L (val dig nth)
theorem joc (K:Nat) (hK:4000≤K) (b:Nat) (h:pFld b≠2047):av K (vM b) (vE b)=sv K (rM b) (rE b):=by
  have h1:=jmx b h;have h2:=jsf b h;rw [jmj (by omega) (by omega),jqa b h,jsg b h,jnx K _ _ (by omega)]
section
variable {a b:Nat}
theorem jod (h:a<9218868437227405312):pFld a=a / 4503599627370496∧pFld a≠2047∧pNeg a=false:=by
  refine ⟨by unfold pFld;omega,by unfold pFld;omega,?_⟩;unfold pNeg;rw [decide_eq_false];omega
theorem joe (K:Nat) (hK:4000≤K) (h:a<9218868437227405312):av K (vM a) (vE a)=sv K (rF a) (rE a):=by
  obtain ⟨h1,h2,h3⟩:=jod h;rw [joc K hK a h2,jzu,h3];rfl
def nn (a:Nat):Int:=if pNorm a then bnE a else -1022
theorem j4i (h:a<9218868437227405312):nn a=if pFld a=0 then -1022 else (pFld a:Int) - 1023:=by
  obtain ⟨h1,h2,h3⟩:=jod h;unfold nn bnE
  by_cases h0:pFld a=0
  · have:pNorm a=false:=by unfold pNorm;rw [decide_eq_false];omega
    rw [this,if_pos h0];rfl
  · have:pNorm a=true:=by unfold pNorm;rw [decide_eq_true];omega
    rw [this,if_neg h0,if_pos rfl,if_pos rfl]
theorem jzw (K:Nat) (hK:4000≤K) (h:a+1<9218868437227405312):sv K (rF (a+1)) (rE (a+1)) - sv K (rF a) (rE a)=sv K 1 (nn a - 52):=by
  obtain ⟨h1,h2,h3⟩:=jod (show a<9218868437227405312 by omega);obtain ⟨i1,i2,i3⟩:=jod h;have hn:=j4i (show a<9218868437227405312 by omega);have hf:pFrc a=a%4503599627370496:=rfl;have hf':pFrc (a+1)=(a+1)%4503599627370496:=rfl
  by_cases hc:pFrc a+1<4503599627370496
  · have e1:pFld (a+1)=pFld a:=by omega
    have e2:pFrc (a+1)=pFrc a+1:=by omega
    have e3:rF (a+1)=rF a+1:=by unfold rF;rw [e1,e2];split <;> omega
    have e4:rE (a+1)=rE a:=by unfold rE;rw [e1]
    have e5:nn a - 52=rE a:=by rw [hn];unfold rE;split <;> omega
    rw [e3,e4,e5,←jko];congr 1;omega
  · have e1:pFld (a+1)=pFld a+1:=by omega
    have e2:pFrc (a+1)=0:=by omega
    have e3:rF (a+1)=4503599627370496:=by unfold rF;rw [e1,e2,if_neg (by omega)]
    have e4:rE (a+1)=(pFld a:Int) - 1074:=by unfold rE;rw [e1,if_neg (by omega)];omega
    by_cases h0:pFld a=0
    · have e5:rF a=4503599627370495:=by unfold rF;rw [if_pos h0];omega
      have e6:rE a=(pFld a:Int) - 1074:=by unfold rE;rw [if_pos h0];omega
      have e7:nn a - 52=(pFld a:Int) - 1074:=by rw [hn,if_pos h0];omega
      rw [e3,e4,e5,e6,e7,←jko];congr 1
    · have e5:rF a=9007199254740991:=by unfold rF;rw [if_neg h0];omega
      have e6:rE a=(pFld a:Int) - 1075:=by unfold rE;rw [if_neg h0]
      have e7:nn a - 52=(pFld a:Int) - 1075:=by rw [hn,if_neg h0];omega
      have e8:sv K ((4503599627370496:Nat):Int) ((pFld a:Int) - 1074)=sv K (((4503599627370496:Nat):Int)*2^1) ((pFld a:Int) - 1075):=by
        rw [jjk K _ _ _ (by omega)];congr 1;omega
      rw [e3,e4,e5,e6,e7,e8,←jko];congr 1
theorem jqb (K:Nat) (x:Int):0<sv K 1 x:=by unfold sv;rw [Int.one_mul];exact jbr _
theorem jsk (K:Nat) (hK:4000≤K) (h:a<b) (hb:b<9218868437227405312):sv K (rF a) (rE a)<sv K (rF b) (rE b):=by
  induction b with
  | zero=>omega
  | succ b ih=>
    have h1:=jzw K hK hb;have h2:=jqb K (nn b - 52)
    rcases Nat.lt_or_ge a b with h3 | h3
    · have:=ih h3 (by omega);omega
    · obtain rfl:a=b:=by omega
      omega
theorem j2l (K:Nat) (hK:4000≤K) (ha:a<9218868437227405312) (hb:b<9218868437227405312):cmpZ (av K (vM a) (vE a)) (av K (vM b) (vE b))=cmpN a b:=by
  rw [joe K hK ha,joe K hK hb]
  rcases Nat.lt_trichotomy a b with h | h | h
  · rw [jhl h];unfold cmpZ;rw [if_pos (jsk K hK h hb)]
  · subst h;rw [jsj,jjx rfl]
  · have:=jsk K hK h ha
    rw [jjw h];unfold cmpZ;rw [if_neg (by omega),if_pos this]
end
end
end
end
section
section
section
open Go.RowKit
open L (val dig nth)
end
end
section
section
open Go.RowKit
open L (val dig nth)
end
end
section
section
open Go.RowKit
open L (val dig nth)
end
end
end
end Go.Proofs.YtllgjggkchgpbaaGreat