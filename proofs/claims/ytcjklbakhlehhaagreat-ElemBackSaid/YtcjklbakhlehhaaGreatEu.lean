/- V: hairlinelaw08.ElemLogs is run. -/
import Derived.Test.YtcjklbakhlehhaaGreatEy
set_option linter.unusedVariables false
set_option linter.unusedSimpArgs false
namespace Go.Proofs.YtcjklbakhlehhaaGreat
open Go.RowKit Go.Shelf L
namespace V
section
variable (h:Nat→List Int→Int)
noncomputable def lgT:List (Ctr Tryz.prog (FT h)):=Ctr.shr (Ctr.lem (jae (by kernel_rfl)) (dmulOK h))::(lwB (An.hT h)).map Ctr.shr
def lsM (n:Bool) (i:Nat):T:=if n then ap2 65 (s88i i) (s89i i) else s88i i
def lsE (n:Bool) (i:Nat):T:=if n then ap2 66 (s88i i) (s89i i) else s89i i
def lsQ:T:=ap2 2 (.v 4) (.n 128)
def pdM (n m:Bool):T:=ap4' 98 (lsM n 0) (lsE n 0) (lsM m 2) (lsE m 2)
def pdE (n m:Bool):T:=ap4' 99 (lsM n 0) (lsE n 0) (lsM m 2) (lsE m 2)
def lsS (n:Bool) (i:Nat):List T:=if n then [.lt (ap2 67 (s88i i) (s89i i)) (.n 0),.lt (.n 0) (ap2 67 (lsM true i) (lsE true i))] else [.lt (.n 0) (ap2 67 (s88i i) (s89i i))]
def lsL (c:Int) (n:Bool) (i:Nat):T:=n90 c (lsM n i) (lsE n i) lsQ
def lsH (c:Int) (n:Bool) (i:Nat):T:=n91 c (lsM n i) (lsE n i) lsQ
def lsF (c:Int) (b:T) (n m:Bool):List T:=b::rightL (lsL c n 0) (lsH c n 0)::rightL (lsL c m 2) (lsH c m 2)::(lsS n 0 ++ (lsS m 2 ++ (szF capS (pdM n m) ++ (xbI (s89i 0) ++ (xbI (s89i 2) ++ (xbI (lsE n 0) ++ (xbI (lsE m 2) ++ (xbI (pdE n m) ++ (bsI c (lsM n 0) (lsE n 0) lsQ ++ (bsI c (lsM m 2) (lsE m 2) lsQ ++ (bsI c (pdM n m) (pdE n m) lsQ ++ laI)))))))))))
def lsR (c:Int) (n m:Bool):A:=.one (.sc (.b (meet1T lsQ (.add (lsL c n 0) (lsL c m 2)) (.add (lsH c n 0) (lsH c m 2)) (n90 c (pdM n m) (pdE n m) lsQ) (n91 c (pdM n m) (pdE n m) lsQ))))
theorem lx2:∀n m:Bool,in12 (inlX (lgT h) 7 (lsF 2 (.not (.v 5)) n m) [] laP)=some ([],lsR 2 n m)
  | false,false=>by kernel_rfl
  | false,true=>by kernel_rfl
  | true,false=>by kernel_rfl
  | true,true=>by kernel_rfl
theorem lx3:∀n m:Bool,in12 (inlX (lgT h) 7 (lsF 3 (.v 5) n m) [] laP)=some ([],lsR 3 n m)
  | false,false=>by kernel_rfl
  | false,true=>by kernel_rfl
  | true,false=>by kernel_rfl
  | true,true=>by kernel_rfl
def lsZ1 (m:Bool):List T:=.eq (ap2 67 (s88i 0) (s89i 0)) (.n 0)::(if m then .lt (ap2 67 (s88i 2) (s89i 2)) (.n 0) else .le (.n 0) (ap2 67 (s88i 2) (s89i 2)))::(xbI (s89i 0) ++ (xbI (s89i 2) ++ laI))
def lsZ2 (n:Bool):List T:=.eq (ap2 67 (s88i 2) (s89i 2)) (.n 0)::(lsS n 0 ++ (xbI (s89i 0) ++ (xbI (s89i 2) ++ (xbI (lsE n 0) ++ laI))))
theorem lz1:∀m:Bool,in12 (inlX (lgT h) 7 (lsZ1 m) [] laP)=some ([],.one (.sc (.b (.n 1))))
  | false=>by kernel_rfl
  | true=>by kernel_rfl
theorem lz2:∀n:Bool,in12 (inlX (lgT h) 7 (lsZ2 n) [] laP)=some ([],.one (.sc (.b (.n 1))))
  | false=>by kernel_rfl
  | true=>by kernel_rfl
end
end V
end Go.Proofs.YtcjklbakhlehhaaGreat
