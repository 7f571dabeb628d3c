/- V: the functions (elem), and looks (point): tables. Plain: numbers reckoned. V: what must be in any case (hairlinelaw09, hairlinelaw18): reckoned. hairlinelaw09: limbs. -/
import Derived.Test.YtllgjggkchgpbaaGreatVg
import Derived.Test.YtllgjggkchgpbaaGreatDm
set_option linter.unusedVariables false
set_option linter.unusedSimpArgs false
namespace Go.Proofs.YtllgjggkchgpbaaGreat
section
section
open Go.RowKit Go.Shelf
namespace V
section
variable (h:Nat→List Int→Int)
noncomputable def inlS (tab:List (Ctr Tryz.prog (FD h))) (f:FuncId) (he:entersB Tryz.prog f=true):Ctr Tryz.prog (FD h):=Ctr.shr (inl tab f he)
def lemS {sp:Spec} (he:entersB Tryz.prog sp.f=true) (hs:SpecOK Tryz.prog (FD h) sp):Ctr Tryz.prog (FD h):=Ctr.shr (Ctr.lem (jan he) hs)
noncomputable def dy1:List (Ctr Tryz.prog (FD h)):=
  lemS h (by kernel_rfl) (normOK h) :: -- opt
  lemS h (by kernel_rfl) (negOK h) :: -- opt
  lemS h (by kernel_rfl) (shiftOK h) :: -- opt
  lemS h (by kernel_rfl) (ofOK h) :: -- opt
  lemS h (by kernel_rfl) (floorOK h) :: -- opt
  lemS h (by kernel_rfl) (ceilOK h) :: -- opt
  lemS h (by kernel_rfl) (subOK h) :: -- opt
  lemS h (by kernel_rfl) (signOK h) :: -- opt
  lemS h (by kernel_rfl) (logOK h) :: -- opt
  lemS h (by kernel_rfl) (valOK h) :: -- opt
  lemS h (by kernel_rfl) (bofOK h) :: -- opt
  lemS h (by kernel_rfl) (mulOK h) :: -- opt
  lemS h (by kernel_rfl) (divOK h) :: -- opt
  lemS h (by kernel_rfl) (pntOK h) :: -- opt
  lemS h (by kernel_rfl) (smallOK h) :: -- opt
  (cAtanh (hC (hD h))).shr :: -- opt
  inlS h (rows4 (hC (hD h))) 258 (by kernel_rfl) :: -- opt
  inlS h (rows4 (hC (hD h))) 289 (by kernel_rfl) :: -- opt
  inlS h (rows4 (hC (hD h))) 290 (by kernel_rfl) :: -- opt
  inl (cons2 (hD h)) 67 (by kernel_rfl) :: -- opt
  inl (cons2 (hD h)) 46 (by kernel_rfl) :: -- opt
  cons2 (hD h)
end
section
variable (a:Array Value) (w:World)
theorem mth0:(callMethod (Kc.ifc 163 []).val "hairline/elem.at" a).run Tryz.prog w=.ok (.enter 252 (#[Value.agg (([]:List Int).map (Value.int .i64)).toArray] ++ a)) w:=by kernel_rfl
theorem mth1:(callMethod (Kc.ifc 164 []).val "hairline/elem.at" a).run Tryz.prog w=.ok (.enter 269 (#[Value.agg (([]:List Int).map (Value.int .i64)).toArray] ++ a)) w:=by kernel_rfl
theorem mth2:(callMethod (Kc.ifc 165 []).val "hairline/elem.at" a).run Tryz.prog w=.ok (.enter 276 (#[Value.agg (([]:List Int).map (Value.int .i64)).toArray] ++ a)) w:=by kernel_rfl
theorem mth3:(callMethod (Kc.ifc 167 []).val "hairline/elem.at" a).run Tryz.prog w=.ok (.enter 285 (#[Value.agg (([]:List Int).map (Value.int .i64)).toArray] ++ a)) w:=by kernel_rfl
theorem mth4:(callMethod (Kc.ifc 169 [0]).val "hairline/elem.at" a).run Tryz.prog w=.ok (.enter 286 (#[Value.agg (([0]:List Int).map (Value.int .i64)).toArray] ++ a)) w:=by kernel_rfl
theorem mth5:(callMethod (Kc.ifc 169 [1]).val "hairline/elem.at" a).run Tryz.prog w=.ok (.enter 286 (#[Value.agg (([1]:List Int).map (Value.int .i64)).toArray] ++ a)) w:=by kernel_rfl
end
section
variable (h:Nat→List Int→Int)
noncomputable def el1 (b:List (Ctr Tryz.prog (FD h))):List (Ctr Tryz.prog (FD h)):=
  inl b 253 (by kernel_rfl) :: -- opt
  inl b 254 (by kernel_rfl) :: -- opt
  inl b 92 (by kernel_rfl) :: -- opt
  inl b 278 (by kernel_rfl) :: -- opt
  inl b 255 (by kernel_rfl) :: -- opt
  inl b 271 (by kernel_rfl) :: -- opt
  inl b 281 (by kernel_rfl) :: -- opt
  inl b 256 (by kernel_rfl) :: -- opt
  inl b 257 (by kernel_rfl) :: -- opt
  inl b 94 (by kernel_rfl) :: -- opt
  b
noncomputable def el2 (b:List (Ctr Tryz.prog (FD h))):List (Ctr Tryz.prog (FD h)):=
  inl (el1 h b) 280 (by kernel_rfl) :: -- opt
  inl (el1 h b) 251 (by kernel_rfl) :: -- opt
  el1 h b
noncomputable def el3 (b:List (Ctr Tryz.prog (FD h))):List (Ctr Tryz.prog (FD h)):=
  inl (el2 h b) 277 (by kernel_rfl) :: -- opt
  el2 h b
noncomputable def el4 (b:List (Ctr Tryz.prog (FD h))):List (Ctr Tryz.prog (FD h)):=
  (inl (el3 h b) 252 (by kernel_rfl)).meth 163 [] "hairline/elem.at" (fun w a => mth0 a w) :: -- opt
  (inl (el3 h b) 269 (by kernel_rfl)).meth 164 [] "hairline/elem.at" (fun w a => mth1 a w) :: -- opt
  (inl (el3 h b) 276 (by kernel_rfl)).meth 165 [] "hairline/elem.at" (fun w a => mth2 a w) :: -- opt
  (inl (el3 h b) 285 (by kernel_rfl)).meth 167 [] "hairline/elem.at" (fun w a => mth3 a w) :: -- opt
  (inl (el3 h b) 286 (by kernel_rfl)).meth 169 [0] "hairline/elem.at" (fun w a => mth4 a w) :: -- opt
  (inl (el3 h b) 286 (by kernel_rfl)).meth 169 [1] "hairline/elem.at" (fun w a => mth5 a w) :: -- opt
  el3 h b
noncomputable def el5 (b:List (Ctr Tryz.prog (FD h))):List (Ctr Tryz.prog (FD h)):=
  inl (el4 h b) 29 (by kernel_rfl) :: -- opt
  el4 h b
noncomputable def pt1 (b:List (Ctr Tryz.prog (FD h))):List (Ctr Tryz.prog (FD h)):=
  inl (el5 h b) 111 (by kernel_rfl) :: -- opt
  inl (el5 h b) 50 (by kernel_rfl) :: -- opt
  inl (el5 h b) 47 (by kernel_rfl) :: -- opt
  el5 h b
noncomputable def pt2 (b:List (Ctr Tryz.prog (FD h))):List (Ctr Tryz.prog (FD h)):=
  inl (pt1 h b) 49 (by kernel_rfl) :: -- opt
  inl (pt1 h b) 48 (by kernel_rfl) :: -- opt
  pt1 h b
noncomputable def pt3 (b:List (Ctr Tryz.prog (FD h))):List (Ctr Tryz.prog (FD h)):=
  inl (pt2 h b) 14 (by kernel_rfl) :: -- opt
  pt2 h b
end
end V
end
end
section
section
namespace Co
def p2 (n:Nat):Int:=((2^n:Nat):Int)
theorem jk4 (n:Nat):(2:Int)^n=p2 n:=by unfold p2;push_cast;rfl
def nb (n:Nat):Nat:=bif Nat.beq n 0 then 0 else n.log2+1
theorem jz1 (n:Nat):nbits n=nb n:=by
  unfold nb
  cases hn:Nat.beq n 0
  · have h0:n≠0:=fun h=>by rw [h] at hn;cases hn
    exact jcn (Nat.lt_log2_self) (.inr (Nat.log2_self_le h0))
  · rw [Nat.eq_of_beq_eq_true hn]
    exact jcn (by decide) (.inl rfl)
def tzL:Nat→Nat→Option Nat
  | 0,_=>none
  | f+1,n=>bif Nat.beq (n%2) 1 then some 0 else bif Nat.beq n 0 then some 0 else (tzL f (n / 2)).map Nat.succ
theorem jk5:∀{f n m:Nat},tzL f n=some m→tz n=m
  | 0,_,_,h=>by cases h
  | f+1,n,m,h=>by
    unfold tzL at h
    cases h1:Nat.beq (n%2) 1 <;> rw [h1] at h
    · cases h2:Nat.beq n 0 <;> rw [h2] at h
      · obtain ⟨r,h3,rfl⟩:=Option.map_eq_some_iff.1 h
        have h4:n≠0:=fun e=>by rw [e] at h2;cases h2
        have h5:¬ n%2=1:=fun e=>by rw [e] at h1;cases h1
        unfold tz;rw [dif_neg h4,if_neg h5,jk5 h3]
      · cases h
        rw [Nat.eq_of_beq_eq_true h2,jmm]
    · cases h
      exact jks (Nat.eq_of_beq_eq_true h1)
def avE (z x:Int):Int:=cM z x*p2 (cE z x+(4000:Nat)).toNat
theorem je1 (z x:Int):av 4000 z x=avE z x:=by unfold av avE sv;rw [jk4]
def flE (V p:Int):Int:=if 0≤p then V*p2 p.toNat / p2 4000 else V / p2 (4000+(-p).toNat)
theorem jxp (V p:Int):vFloor 4000 V p=flE V p:=by unfold vFloor flE;simp only [jk4]
def pME (z:Int):Option Int:=(tzL 9000 z.natAbs).map fun n=>z / p2 n
theorem jk6 {z x:Int} (h:pME z=some x):pM z=x:=by
  obtain ⟨n,h1,rfl⟩:=Option.map_eq_some_iff.1 h;unfold pM;rw [jk5 h1,jk4]
def pEE (z x:Int):Option Int:=(tzL 9000 z.natAbs).map fun (n:Nat)=>if z=0 then 0 else x+(n:Int)
theorem jk7 {z x y:Int} (h:pEE z x=some y):pE z x=y:=by
  obtain ⟨n,h1,rfl⟩:=Option.map_eq_some_iff.1 h;unfold pE;rw [jk5 h1]
def dnE (z n:Int):Int:=if n≤0 then z*p2 (-n).toNat else z / p2 n.toNat
theorem jxq (z n:Int):vDn z n=dnE z n:=by unfold vDn dnE;simp only [jk4]
def loE (q x y:Int):Int := -vUp (-(x*p2 q.toNat)) y
def hiE (q x y:Int):Int:=vUp (x*p2 q.toNat) y
def lgE (z x:Int):Int:=if cM z x=0 then 0 else cE z x+(nb (cM z x).natAbs:Nat) - 1
theorem jxr (z x:Int):lgN z x=lgE z x:=by unfold lgN lgE;rw [jz1]
def bad (z x m:Int):Bool:=decide (1023<m) || (decide (x<ofLow m) || Nat.ble W z.natAbs)
theorem jog (z x m:Int):ofBad z x m↔bad z x m=true:=by
  unfold ofBad bad;rw [Bool.or_eq_true,Bool.or_eq_true,decide_eq_true_iff,decide_eq_true_iff,Nat.ble_eq];have h:=L.dig_len W_gt z.natAbs 1;rw [Nat.pow_one] at h
  omega
def oBE (z x:Int):Nat:=bif !decide (cM z x≠0) then 0 else bif bad z x (lgE z x) then 0 else ofPat z x (lgE z x)
def oXE (z x:Int):Int:=bif !decide (cM z x≠0) then 0 else bif bad z x (lgE z x) then 1 else 0
theorem j2p (z x:Int):oB1 z x=oBE z x:=by
  unfold oB1 oBE lgOk;rw [jxr]
  cases decide (cM z x≠0)
  · rfl
  · rw [if_neg (by decide)]
    by_cases hb:ofBad z x (lgE z x)
    · rw [if_pos hb,(jog _ _ _).1 hb];rfl
    · rw [if_neg hb,Bool.eq_false_iff.2 fun h=>hb ((jog _ _ _).2 h)];rfl
theorem j2q (z x:Int):oX1 z x=oXE z x:=by
  unfold oX1 oXE lgOk;rw [jxr]
  cases decide (cM z x≠0)
  · rfl
  · rw [if_neg (by decide)]
    by_cases hb:ofBad z x (lgE z x)
    · rw [if_pos hb,(jog _ _ _).1 hb];rfl
    · rw [if_neg hb,Bool.eq_false_iff.2 fun h=>hb ((jog _ _ _).2 h)];rfl
def mEE (f:Int→Int→Int) (z x:Int):Option Int:=match pME (cM z x),pEE (cM z x) (cE z x) with
  | some m,some n=>some (f m n)
  | _,_=>none
theorem jxs {f:Int→Int→Int} {z x y:Int} (h:mEE f z x=some y):f (nM z x) (nE z x)=y:=by
  unfold mEE at h
  split at h
  · rename_i m n h1 h2
    cases h
    rw [show nM z x=m from jk6 h1,show nE z x=n from jk7 h2]
  · cases h
def sE (T P:Nat):Nat→Nat
  | 0=>P
  | k+1=>sE T P k*T / ((k+1)*P)
def sF (T P:Nat):Nat→Nat
  | 0=>P
  | k+1=>up (sF T P k*T) ((k+1)*P)
def lpE (T P:Nat):Nat→Nat→Nat→Nat→Nat×Nat
  | 0,_,a,s=>(s,a)
  | n+1,k,a,s=>lpE T P n (k+1) (a*T / ((k+1)*P)) (s+a)
def lpF (T P:Nat):Nat→Nat→Nat→Nat→Nat×Nat
  | 0,_,a,s=>(s,a)
  | n+1,k,a,s=>lpF T P n (k+1) (up (a*T) ((k+1)*P)) (s+a)
theorem jsq (T P:Nat):∀n k s,((lpE T P n k (sE T P k) s).1:Int)+su (fun y=>((sE T P y:Nat):Int)) k=s+su (fun y=>((sE T P y:Nat):Int)) (k+n)∧(lpE T P n k (sE T P k) s).2=sE T P (k+n)
  | 0,k,s=>⟨rfl,rfl⟩
  | n+1,k,s=>by
    obtain ⟨h,h2⟩:=jsq T P n (k+1) (s+sE T P k);have e:su (fun y=>((sE T P y:Nat):Int)) (k+1)=su (fun y=>((sE T P y:Nat):Int)) k+(sE T P k:Nat):=rfl;rw [e,show k+1+n=k+(n+1) by omega] at h;rw [show k+1+n=k+(n+1) by omega] at h2;have e2:lpE T P (n+1) k (sE T P k) s=lpE T P n (k+1) (sE T P (k+1)) (s+sE T P k):=rfl;rw [e2]
    push_cast at h
    exact ⟨by omega,h2⟩
theorem jsr (T P:Nat):∀n k s,((lpF T P n k (sF T P k) s).1:Int)+su (fun y=>((sF T P y:Nat):Int)) k=s+su (fun y=>((sF T P y:Nat):Int)) (k+n)∧(lpF T P n k (sF T P k) s).2=sF T P (k+n)
  | 0,k,s=>⟨rfl,rfl⟩
  | n+1,k,s=>by
    obtain ⟨h,h2⟩:=jsr T P n (k+1) (s+sF T P k);have e:su (fun y=>((sF T P y:Nat):Int)) (k+1)=su (fun y=>((sF T P y:Nat):Int)) k+(sF T P k:Nat):=rfl;rw [e,show k+1+n=k+(n+1) by omega] at h;rw [show k+1+n=k+(n+1) by omega] at h2;have e2:lpF T P (n+1) k (sF T P k) s=lpF T P n (k+1) (sF T P (k+1)) (s+sF T P k):=rfl;rw [e2]
    push_cast at h
    exact ⟨by omega,h2⟩
section
variable (t w:Nat)
theorem jxt:(1:Int)*2^(w:Int).toNat=((2^w:Nat):Int):=by rw [Int.one_mul,Int.toNat_natCast];push_cast;rfl
theorem joh (k:Nat):dExp (w:Int) k=((k*2^w:Nat):Int):=by unfold dExp;rw [Int.toNat_natCast];push_cast;rfl
theorem jss:∀k,rA (dExp w) t (1*2^(w:Int).toNat) k=((sE t (2^w) k:Nat):Int)
  | 0=>jxt w
  | k+1=>by
    show rA (dExp w) t (1*2^(w:Int).toNat) k*t / dExp w (k+1:Nat)=_
    rw [jss k,joh]
    show _=((sE t (2^w) k*t / ((k+1)*2^w):Nat):Int)
    rw [Int.natCast_ediv,Int.natCast_mul (sE t (2^w) k)]
theorem jst:∀k,rB (dExp w) t (1*2^(w:Int).toNat) k=((sF t (2^w) k:Nat):Int)
  | 0=>jxt w
  | k+1=>by
    show vUp (rB (dExp w) t (1*2^(w:Int).toNat) k*t) (dExp w (k+1:Nat))=_
    rw [jst k,joh,←Int.natCast_mul,jrm _ _ (Nat.mul_pos (by omega) (Nat.two_pow_pos _))]
    rfl
theorem eA_v (n:Nat):rA (dExp w) t (1*2^(w:Int).toNat) n=((lpE t (2^w) n 0 (2^w) 0).2:Int):=by
  have h:=(jsq t (2^w) n 0 0).2;rw [Nat.zero_add] at h;rw [jss,←h]
  rfl
theorem eB_v (n:Nat):rB (dExp w) t (1*2^(w:Int).toNat) n=((lpF t (2^w) n 0 (2^w) 0).2:Int):=by
  have h:=(jsr t (2^w) n 0 0).2;rw [Nat.zero_add] at h;rw [jst,←h]
  rfl
theorem eA_s (n:Nat):su (rA (dExp w) t (1*2^(w:Int).toNat)) n=((lpE t (2^w) n 0 (2^w) 0).1:Int):=by
  have h:=(jsq t (2^w) n 0 0).1;rw [Nat.zero_add,show su (fun y=>((sE t (2^w) y:Nat):Int)) 0=0 from rfl,show sE t (2^w) 0=2^w from rfl] at h;rw [jfa (jss t w)]
  omega
theorem eB_s (n:Nat):su (rB (dExp w) t (1*2^(w:Int).toNat)) n=((lpF t (2^w) n 0 (2^w) 0).1:Int):=by
  have h:=(jsr t (2^w) n 0 0).1;rw [Nat.zero_add,show su (fun y=>((sF t (2^w) y:Nat):Int)) 0=0 from rfl,show sF t (2^w) 0=2^w from rfl] at h;rw [jfa (jst t w)]
  omega
end
end Co
namespace V
open Co
def ev1:Nat→List Int→Option Int
  | 0,[x]=>some (Co.p2 x.toNat)
  | 1,[a,b]=>some (a / b)
  | 2,[a,b]=>some (a%b)
  | 3,[a,b]=>some (vUp a b)
  | 4,[a]=>some a.sign
  | _,_=>none
theorem j2r (h:Nat→List Int→Int):EvOK (FD h) ev1:=by
  intro f l z e;unfold ev1 at e
  split at e
  · cases e;exact jk4 _
  · cases e;rfl
  · cases e;rfl
  · cases e;rfl
  · cases e;rfl
  · cases e
def ev2:Nat→List Int→Option Int
  | 5,[a,b]=>some (cmpZ a b)
  | 6,[a]=>some (nb a.natAbs:Nat)
  | 16,[.ofNat w,.ofNat t,i]=>some ((lpE t (2^w) i.toNat 0 (2^w) 0).2:Nat)
  | 17,[.ofNat w,.ofNat t,i]=>some ((lpF t (2^w) i.toNat 0 (2^w) 0).2:Nat)
  | 18,[.ofNat w,.ofNat t,i]=>some ((lpE t (2^w) i.toNat 0 (2^w) 0).1:Nat)
  | _,_=>none
theorem j2s (h:Nat→List Int→Int):EvOK (FD h) ev2:=by
  intro f l z e;unfold ev2 at e
  split at e
  · cases e;rfl
  · rename_i a;cases e;exact congrArg (fun n:Nat=>(n:Int)) (jz1 a.natAbs)
  · cases e;exact eA_v _ _ _
  · cases e;exact eB_v _ _ _
  · cases e;exact eA_s _ _ _
  · cases e
def ev3:Nat→List Int→Option Int
  | 19,[.ofNat w,.ofNat t,i]=>some ((lpF t (2^w) i.toNat 0 (2^w) 0).1:Nat)
  | 34,[.ofNat w,.ofNat t,n]=>some (lpA (t*t) (2^(2*w)) n.toNat 0 t 0:Nat)
  | 35,[.ofNat w,.ofNat t,n]=>some (match lpB (t*t) (2^(2*w)) n.toNat 0 t 0 with | (s,b)=>s+2*up b (2*n.toNat+1):Nat)
  | 48,[.ofNat q]=>some ((lnLo (q+16):Int)*2 / 65536)
  | 49,[.ofNat q]=>some (0 - (0 - (lnHi (q+16):Int)*2) / 65536)
  | _,_=>none
theorem j2t (h:Nat→List Int→Int):EvOK (FD h) ev3:=by
  intro f l z e;unfold ev3 at e
  split at e
  · cases e;exact eB_s _ _ _
  · cases e;exact atanhLo_nat _ _ _
  · cases e;exact atanhHi_nat _ _ _
  · rename_i q;cases e
    show lnLoZ (q:Nat)=_
    unfold lnLoZ;rw [jxy,s16]
  · rename_i q;cases e
    show lnHiZ (q:Nat)=_
    unfold lnHiZ;rw [jxz,s16]
  · cases e
def ev4:Nat→List Int→Option Int
  | 56,[z,x]=>pME (cM z x)
  | 57,[z,x]=>pEE (cM z x) (cE z x)
  | 58,[z,x]=>some (if cM z x=0 then 0 else cE z x+(nb (cM z x).natAbs:Nat) - 1)
  | 59,[z,x,p]=>some (flE (avE z x) (nearZ p))
  | 60,[z,x,p]=>some (-flE (-avE z x) (nearZ p))
  | _,_=>none
theorem j2u (h:Nat→List Int→Int):EvOK (FD h) ev4:=by
  intro f l z e;unfold ev4 at e
  split at e
  · exact jk6 e
  · exact jk7 e
  · cases e;show lgN _ _=_;unfold lgN;rw [jz1]
  · cases e;show vFloor _ _ _=_;rw [je1,jxp]
  · cases e;show vCeil _ _ _=_;unfold vCeil;rw [je1,jxp]
  · cases e
def ev5:Nat→List Int→Option Int
  | 61,[z,x,u,y]=>pME (avE z x - avE u y)
  | 62,[z,x,u,y]=>pEE (avE z x - avE u y) (-(4000:Nat))
  | 63,[z,x,p]=>pEE (avE z x) (nearZ p - (4000:Nat))
  | 64,[z,x]=>pME (avE z x)
  | 65,[z,x]=>pME (-avE z x)
  | _,_=>none
theorem j2v (h:Nat→List Int→Int):EvOK (FD h) ev5:=by
  intro f l z e;unfold ev5 at e
  split at e
  · exact (by rw [show FD h 61 _=pM (av 4000 _ _ - av 4000 _ _) from rfl,je1,je1];exact jk6 e)
  · exact (by rw [show FD h 62 _=pE (av 4000 _ _ - av 4000 _ _) _ from rfl,je1,je1];exact jk7 e)
  · exact (by rw [show FD h 63 _=pE (av 4000 _ _) _ from rfl,je1];exact jk7 e)
  · exact (by rw [show FD h 64 _=pM (av 4000 _ _) from rfl,je1];exact jk6 e)
  · exact (by rw [show FD h 65 _=pM (-av 4000 _ _) from rfl,je1];exact jk6 e)
  · cases e
def ev6:Nat→List Int→Option Int
  | 66,[z,x]=>pEE (-avE z x) (-(4000:Nat))
  | 67,[z,x]=>some (cM z x).sign
  | 68,[z,x]=>some (b2i (decide (cM z x≠0)))
  | 69,[b]=>match (tzL 9000 (cM (rM b.toNat) (rE b.toNat)).natAbs) with
    | some n=>some (if pFld b.toNat=2047 then 0 else cM (rM b.toNat) (rE b.toNat) / Co.p2 n)
    | none=>none
  | 70,[b]=>match (tzL 9000 (cM (rM b.toNat) (rE b.toNat)).natAbs) with
    | some n=>some (if pFld b.toNat=2047 then 0 else if cM (rM b.toNat) (rE b.toNat)=0 then 0 else cE (rM b.toNat) (rE b.toNat)+n)
    | none=>none
  | _,_=>none
theorem j2w (h:Nat→List Int→Int):EvOK (FD h) ev6:=by
  intro f l z e;unfold ev6 at e
  split at e
  · exact (by rw [show FD h 66 _=pE (-av 4000 _ _) _ from rfl,je1];exact jk7 e)
  · cases e;rfl
  · cases e;rfl
  · rename_i b
    split at e
    · rename_i n en;cases e
      show vM _=_
      unfold vM nM pM;rw [jk5 en,jk4]
    · cases e
  · rename_i b
    split at e
    · rename_i n en;cases e
      show vE _=_
      unfold vE nE pE;rw [jk5 en]
    · cases e
  · cases e
def ev7:Nat→List Int→Option Int
  | 71,[b]=>some (vX b.toNat)
  | 74,[x0,x1,y0,y1,q]=>some (dnE (min4 (x0*y0) (x0*y1) (x1*y0) (x1*y1)) q)
  | 75,[x0,x1,y0,y1,q]=>some (-dnE (-max4 (x0*y0) (x0*y1) (x1*y0) (x1*y1)) q)
  | 76,[x0,x1,y0,y1,q]=>some (min4 (loE q x0 y0) (loE q x0 y1) (loE q x1 y0) (loE q x1 y1))
  | 77,[x0,x1,y0,y1,q]=>some (max4 (hiE q x0 y0) (hiE q x0 y1) (hiE q x1 y0) (hiE q x1 y1))
  | _,_=>none
theorem j2x (h:Nat→List Int→Int):EvOK (FD h) ev7:=by
  intro f l z e;unfold ev7 at e
  split at e
  · cases e;rfl
  · cases e;show vDn _ _=_;rw [jxq]
  · cases e;show vOv _ _=_;unfold vOv;rw [jxq]
  · cases e;show min4 _ _ _ _=_;unfold vLo loE;simp only [jk4]
  · cases e;show max4 _ _ _ _=_;unfold vHi hiE;simp only [jk4]
  · cases e
def ev9:Nat→List Int→Option Int
  | 72,[z,x]=>mEE (fun m n=>(oBE m n:Nat)) z x
  | 73,[z,x]=>mEE oXE z x
  | _,_=>none
theorem j2y (h:Nat→List Int→Int):EvOK (FD h) ev9:=by
  intro f l z e;unfold ev9 at e
  split at e
  · show ((oB1 _ _:Nat):Int)=_;rw [j2p];exact jxs e
  · show oX1 _ _=_;rw [j2q];exact jxs e
  · cases e
def evT (f:Nat) (l:List Int):Option Int:=match ev1 f l with | some z=>some z | none=>match ev2 f l with | some z=>some z | none=>match ev3 f l with | some z=>some z | none=>match ev4 f l with | some z=>some z | none=>match ev5 f l with | some z=>some z | none=>match ev6 f l with | some z=>some z | none=>match ev7 f l with | some z=>some z | none=>ev9 f l
theorem jsu (h:Nat→List Int→Int):EvOK (FD h) evT:=by
  intro f l z e;unfold evT at e
  split at e
  · rename_i k;cases e;exact j2r h f l _ k
  split at e
  · rename_i k;cases e;exact j2s h f l _ k
  split at e
  · rename_i k;cases e;exact j2t h f l _ k
  split at e
  · rename_i k;cases e;exact j2u h f l _ k
  split at e
  · rename_i k;cases e;exact j2v h f l _ k
  split at e
  · rename_i k;cases e;exact j2w h f l _ k
  split at e
  · rename_i k;cases e;exact j2x h f l _ k
  exact j2y h f l _ e
end V
end
end
section
section
open Go.RowKit Go.Shelf
namespace V
section
variable (h:Nat→List Int→Int)
noncomputable def base:List (Ctr Tryz.prog (FD h)):=(dy1 h).map (Ctr.fold (jsu h))
noncomputable def lk1:List (Ctr Tryz.prog (FD h)):=
  Ctr.fold (jsu h) (inl (pt2 h (base h)) 14 (by kernel_rfl)) :: -- opt
  pt2 h (base h)
noncomputable def jb1:List (Ctr Tryz.prog (FD h)):=
  inl (lk1 h) 65 (by kernel_rfl) :: -- opt
  inl (lk1 h) 19 (by kernel_rfl) :: -- opt
  lk1 h
noncomputable def jb2:List (Ctr Tryz.prog (FD h)):=
  inl (jb1 h) 66 (by kernel_rfl) :: -- opt
  inl (jb1 h) 64 (by kernel_rfl) :: -- opt
  jb1 h
noncomputable def jb3:List (Ctr Tryz.prog (FD h)):=
  Ctr.fold (jsu h) (inl (jb2 h) 18 (by kernel_rfl)) :: -- opt
  inl (jb2 h) 63 (by kernel_rfl) :: -- opt
  jb2 h
end
def shS (f:FuncId):Spec:=dsp f [] 0 [] (.one (.sc (.b (.n 1))))
theorem sh09 (h:Nat→List Int→Int):checkF (P:=Tryz.prog) (lk1 h) R0 [] (drawX (lk1 h)) (shS 13)=true:=by kernel_rfl
theorem sh18 (h:Nat→List Int→Int):checkF (P:=Tryz.prog) (jb3 h) R0 [] (drawX (jb3 h)) (shS 17)=true:=by kernel_rfl
noncomputable def c09 (h:Nat→List Int→Int):Ctr Tryz.prog (FD h):=Ctr.of (jtx _) follows_any (sh09 h)
noncomputable def c18 (h:Nat→List Int→Int):Ctr Tryz.prog (FD h):=Ctr.of (jtx _) follows_any (sh18 h)
end V
end
end
section
section
open Go.RowKit
open L (val dig nth)
namespace V
open Go.Shelf
end V
end
end
end Go.Proofs.YtllgjggkchgpbaaGreat