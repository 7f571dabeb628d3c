/- V: elem.At of sine and cosine, its answer by names. V: elem.At of the sine is run: eight cases. V: elem.At of the cosine is run: eight cases. -/
import Derived.Test.YtcjklbakhlehhaaGreatAt
set_option linter.unusedVariables false
set_option linter.unusedSimpArgs false
namespace Go.Proofs.YtcjklbakhlehhaaGreat
section
section
open Go.RowKit Go.Shelf
namespace V
theorem jyg (n:Nat):n &&& 2=n%4 - n%2:=by
  have h1:(n &&& 2) / 2^1=n / 2^1 &&& 2 / 2^1:=Nat.and_div_two_pow ..;have h2:(n &&& 2)%2^1=n%2^1 &&& 2%2^1:=Nat.and_mod_two_pow ..;rw [show 2^1=2 from rfl] at h1 h2;rw [show 2 / 2=1 from rfl,Nat.and_one_is_mod] at h1;rw [show 2%2=0 from rfl,Nat.and_zero] at h2
  omega
theorem jyh {P:Program} {w:World} (t:TypeId) (o1 o2:Operand) (x:Int):((do eqGuard .and t o1 o2 (.int .i64 x) (.int .i64 2);binOp .and t (.int .i64 x) (.int .i64 2)):Sem Value).run P w=.ok (.int .i64 (x%4 - x%2)) w:=by
  rw [jpj]
  congr 2
  show IntKind.i64.wrap (((BitVec.ofInt 64 x) &&& (BitVec.ofInt 64 2)).toNat:Int)=_
  have e:(((BitVec.ofInt 64 x) &&& (BitVec.ofInt 64 2)).toNat:Int)=x%4 - x%2:=by
    rw [BitVec.toNat_and,BitVec.toNat_ofInt,show (BitVec.ofInt 64 2).toNat=2 from rfl,jyg];have h64:((2^64:Nat):Int)=18446744073709551616:=rfl;rw [h64]
    omega
  rw [e];exact jc5 _ (by show -9223372036854775808≤x%4 - x%2∧x%4 - x%2≤9223372036854775807;omega)
def and2I (fs:List T) (op:BinOp) (k:IntKind) (a b:T):Option (List T×X×List T):=match op,k,b with
  | .and,.i64,.n 2=>some ([],.i .i64 (.sub (ap2 2 a (.n 4)) (ap2 2 a (.n 2))),[])
  | _,_,_=>none
section
variable (h:Nat→List Int→Int)
noncomputable def andC:Ctr Tryz.prog (FA h):={ lemS (An.hA h) (by kernel_rfl) (smallOK (An.hA h)) with
  opI:=and2I
  opOk:=fun {ρ β w op k fs a b pre x post} hf hi hp=>by
    unfold and2I at hi
    split at hi
    · cases hi
      exact ⟨trivial,fun t o1 o2=>⟨_,jyh t o1 o2 _,rfl⟩⟩
    · cases hi }
noncomputable def el4W:List (Ctr Tryz.prog (FA h)):=el4 (An.hA h) (andC h::dy1 (An.hA h))
def wvpL:T:=ap1 50 aW
def wvpH:T:=ap1 51 aW
def wvqL:T:=ap2 1 wvpL (ap1 0 (.n 1))
def wvqH:T:=.sub (.n 0) (ap2 1 (.sub (.n 0) wvpH) (ap1 0 (.n 1)))
def wvM (ng:Bool):T:=if ng then ap2 65 aM aE else aM
def wvE (ng:Bool):T:=if ng then ap2 66 aM aE else aE
def wvlo (ng:Bool):T:=ap3 59 (wvM ng) (wvE ng) aW
def wvhi (ng:Bool):T:=ap3 60 (wvM ng) (wvE ng) aW
def wvk (ng:Bool):T:=ap2 1 (wvlo ng) wvqH
def wvt (ng:Bool):T:=.add (wvlo ng) (.sub (.n 0) (.mul wvqH (wvk ng)))
def wvu (ng:Bool):T:=.add (wvhi ng) (.sub (.n 0) (.mul wvqL (wvk ng)))
def wvm (t:T):List T:=[.le (.n 0) t,.le t (.n cap),.le (.n 0) (ap1 4 t),.le (ap2 5 (.mul t (ap1 0 (.n 1))) (.mul (.n 4) (p2 aW))) (.n 0)]
def wvj (ng:Bool) (c:Int):T:=.add (wvk ng) (.n c)
def sgF (ng:Bool):T:=if ng then .lt (ap2 67 aM aE) (.n 0) else .le (.n 0) (ap2 67 aM aE)
def odF (ng od:Bool) (c:Int):T:=.eq (ap2 2 (wvj ng c) (.n 2)) (.n (if od then 1 else 0))
def n8T:T:=.add (ap2 1 aW (.n 8)) (.n 6)
def wvloT (ng od:Bool):T:=if od then ap3 32 aW (wvt ng) (.mul (.n 2) n8T) else ap3 28 aW (wvt ng) (.mul (.n 2) n8T)
def wvF0 (ng:Bool):List T:=[.lt (.n 0) wvpL,.lt (.n 0) wvpH,rightL wvpL wvpH,rightL wvqL wvqH,.lt (.n 0) wvqH,.lt (.n 0) wvqL,.le (.n 0) (wvk ng),.le (wvk ng) (.n 800),.le (.n 0) (ap1 4 (wvk ng)),.le (.n (-100000)) (wvE ng),.le (wvE ng) (.n 100000),rightL (wvlo ng) (wvhi ng),rightL (.mul wvqL (wvk ng)) (.mul wvqH (wvk ng)),rightL (.sub (.n 0) (.mul wvqH (wvk ng))) (.sub (.n 0) (.mul wvqL (wvk ng))),.lt (.n 0) lL,rightL lL lH]
def wvF (ng od:Bool) (c:Int):List T:=[sgF ng,odF ng od c] ++ (wvF0 ng ++ (wvm (wvt ng) ++ ([may9] ++ aF)))
def wvhiT (ng od:Bool):T:=if od then .add (ap3 33 aW (wvt ng) (.mul (.n 2) n8T)) (ap3 31 aW (wvt ng) (.mul (.n 2) n8T)) else .add (ap3 29 aW (wvt ng) (.mul (.n 2) n8T)) (ap3 27 aW (wvt ng) (.mul (.n 2) n8T))
def wvg (ng:Bool):T:=.sub (wvu ng) (wvt ng)
def wvLo (ng od:Bool):T:=.sub (wvloT ng od) (wvg ng)
def wvHi (ng od:Bool):T:=.add (wvhiT ng od) (wvg ng)
def bit2 (ng:Bool) (c:Int):T:=.sub (ap2 2 (wvj ng c) (.n 4)) (ap2 2 (wvj ng c) (.n 2))
def flF (ng fl:Bool) (c:Int):T:=if fl then .not (.eq (bit2 ng c) (.n 0)) else .eq (bit2 ng c) (.n 0)
def wvS (ng fl:Bool) (c:Int):Bool:=fl != (ng && decide (c=0))
def wvkk (ng fl:Bool) (c:Int):Nat:=if wvS ng fl c then 329 else 328
def wvRl (ng od fl:Bool) (c:Int):T:=if wvS ng fl c then .mul (wvHi ng od) (.n (-1)) else wvLo ng od
def wvRh (ng od fl:Bool) (c:Int):T:=if wvS ng fl c then .mul (wvLo ng od) (.n (-1)) else wvHi ng od
def wvX (ng od fl:Bool) (c:Int):List T:=[flF ng fl c,rightL (wvLo ng od) (wvHi ng od),rightL (wvRl ng od fl c) (wvRh ng od fl c),.lt (ap1 4 (.n (-1))) (.n 0)] ++ wvF ng od c
end
end V
end
end
section
section
open Go.RowKit Go.Shelf
namespace V
section
variable (h:Nat→List Int→Int)
theorem xw0fff:in12 (inlX (el4W h) 29 (wvX false false false 0) [] [i64 (.n 4),d0,i64 (.v 2)])=some ([],atRes 328 328 (wvRl false false false 0) (wvRh false false false 0) (.n 0)):=by kernel_rfl
theorem xw0fft:in12 (inlX (el4W h) 29 (wvX false false true 0) [] [i64 (.n 4),d0,i64 (.v 2)])=some ([],atRes 329 329 (wvRl false false true 0) (wvRh false false true 0) (.n 0)):=by kernel_rfl
theorem xw0ftf:in12 (inlX (el4W h) 29 (wvX false true false 0) [] [i64 (.n 4),d0,i64 (.v 2)])=some ([],atRes 328 328 (wvRl false true false 0) (wvRh false true false 0) (.n 0)):=by kernel_rfl
theorem xw0ftt:in12 (inlX (el4W h) 29 (wvX false true true 0) [] [i64 (.n 4),d0,i64 (.v 2)])=some ([],atRes 329 329 (wvRl false true true 0) (wvRh false true true 0) (.n 0)):=by kernel_rfl
theorem xw0tff:in12 (inlX (el4W h) 29 (wvX true false false 0) [] [i64 (.n 4),d0,i64 (.v 2)])=some ([],atRes 329 329 (wvRl true false false 0) (wvRh true false false 0) (.n 0)):=by kernel_rfl
theorem xw0tft:in12 (inlX (el4W h) 29 (wvX true false true 0) [] [i64 (.n 4),d0,i64 (.v 2)])=some ([],atRes 328 328 (wvRl true false true 0) (wvRh true false true 0) (.n 0)):=by kernel_rfl
theorem xw0ttf:in12 (inlX (el4W h) 29 (wvX true true false 0) [] [i64 (.n 4),d0,i64 (.v 2)])=some ([],atRes 329 329 (wvRl true true false 0) (wvRh true true false 0) (.n 0)):=by kernel_rfl
theorem xw0ttt:in12 (inlX (el4W h) 29 (wvX true true true 0) [] [i64 (.n 4),d0,i64 (.v 2)])=some ([],atRes 328 328 (wvRl true true true 0) (wvRh true true true 0) (.n 0)):=by kernel_rfl
theorem xw0:∀ng od fl:Bool,in12 (inlX (el4W h) 29 (wvX ng od fl 0) [] [i64 (.n 4),d0,i64 (.v 2)])=some ([],atRes (wvkk ng fl 0) (wvkk ng fl 0) (wvRl ng od fl 0) (wvRh ng od fl 0) (.n 0))
  | false,false,false=>xw0fff h
  | false,false,true=>xw0fft h
  | false,true,false=>xw0ftf h
  | false,true,true=>xw0ftt h
  | true,false,false=>xw0tff h
  | true,false,true=>xw0tft h
  | true,true,false=>xw0ttf h
  | true,true,true=>xw0ttt h
end
end V
end
end
section
section
open Go.RowKit Go.Shelf
namespace V
section
variable (h:Nat→List Int→Int)
theorem xw1fff:in12 (inlX (el4W h) 29 (wvX false false false 1) [] [i64 (.n 5),d0,i64 (.v 2)])=some ([],atRes 328 328 (wvRl false false false 1) (wvRh false false false 1) (.n 0)):=by kernel_rfl
theorem xw1fft:in12 (inlX (el4W h) 29 (wvX false false true 1) [] [i64 (.n 5),d0,i64 (.v 2)])=some ([],atRes 329 329 (wvRl false false true 1) (wvRh false false true 1) (.n 0)):=by kernel_rfl
theorem xw1ftf:in12 (inlX (el4W h) 29 (wvX false true false 1) [] [i64 (.n 5),d0,i64 (.v 2)])=some ([],atRes 328 328 (wvRl false true false 1) (wvRh false true false 1) (.n 0)):=by kernel_rfl
theorem xw1ftt:in12 (inlX (el4W h) 29 (wvX false true true 1) [] [i64 (.n 5),d0,i64 (.v 2)])=some ([],atRes 329 329 (wvRl false true true 1) (wvRh false true true 1) (.n 0)):=by kernel_rfl
theorem xw1tff:in12 (inlX (el4W h) 29 (wvX true false false 1) [] [i64 (.n 5),d0,i64 (.v 2)])=some ([],atRes 328 328 (wvRl true false false 1) (wvRh true false false 1) (.n 0)):=by kernel_rfl
theorem xw1tft:in12 (inlX (el4W h) 29 (wvX true false true 1) [] [i64 (.n 5),d0,i64 (.v 2)])=some ([],atRes 329 329 (wvRl true false true 1) (wvRh true false true 1) (.n 0)):=by kernel_rfl
theorem xw1ttf:in12 (inlX (el4W h) 29 (wvX true true false 1) [] [i64 (.n 5),d0,i64 (.v 2)])=some ([],atRes 328 328 (wvRl true true false 1) (wvRh true true false 1) (.n 0)):=by kernel_rfl
theorem xw1ttt:in12 (inlX (el4W h) 29 (wvX true true true 1) [] [i64 (.n 5),d0,i64 (.v 2)])=some ([],atRes 329 329 (wvRl true true true 1) (wvRh true true true 1) (.n 0)):=by kernel_rfl
theorem xw1:∀ng od fl:Bool,in12 (inlX (el4W h) 29 (wvX ng od fl 1) [] [i64 (.n 5),d0,i64 (.v 2)])=some ([],atRes (wvkk ng fl 1) (wvkk ng fl 1) (wvRl ng od fl 1) (wvRh ng od fl 1) (.n 0))
  | false,false,false=>xw1fff h
  | false,false,true=>xw1fft h
  | false,true,false=>xw1ftf h
  | false,true,true=>xw1ftt h
  | true,false,false=>xw1tff h
  | true,false,true=>xw1tft h
  | true,true,false=>xw1ttf h
  | true,true,true=>xw1ttt h
end
end V
end
end
end Go.Proofs.YtcjklbakhlehhaaGreat