/- V: hairlinelaw08.ElemMeets. -/
import Derived.Test.YtcjklbakhlehhaaGreatEn
set_option linter.unusedVariables false
set_option linter.unusedSimpArgs false
namespace Go.Proofs.YtcjklbakhlehhaaGreat
open Go.RowKit Go.Shelf
namespace V
section
variable (h:Nat→List Int→Int)
def mtF:T:=ap2 2 (ap2 2 (.v 2) (.n 8)) (.n 6)
def mtP:T:=ap2 2 (.v 3) (.n 128)
def mtQ:T:=ap2 2 (.v 4) (.n 128)
def s88:T:=ap1 88 (.v 0)
def s89:T:=ap1 89 (.v 0)
def n88:T:=ap2 65 s88 s89
def n89:T:=ap2 66 s88 s89
def mtI:List T:=i64F 1 ++ (i64F 2 ++ (i64F 3 ++ i64F 4))
def nm90 (c:Int) (a b q:T):T:=ap4' 90 (.n c) a b q
def nm91 (c:Int) (a b q:T):T:=ap4' 91 (.n c) a b q
def mtS (f:FuncId) (fs:List T):Spec:=dsp f [i64 (.v 2),rawD,i64 (.v 3),i64 (.v 4)] 5 fs (.one (.sc (.b (.n 1))))
def mtR (c:Int) (a b:T):T:=meetT mtP mtQ (nm90 c a b mtP) (nm91 c a b mtP) (nm90 c a b mtQ) (nm91 c a b mtQ)
def mtE (c:Int) (a b:T):List T:=bsI c a b mtP ++ (bsI c a b mtQ ++ mtI)
def xbF:List T:=[.le (.n (-100000)) s89,.le s89 (.n 100000)]
def mt1 (c:Int):List T:=.eq mtF (.n c)::(xbF ++ mtE c s88 s89)
def mt2 (c:Int):List T:=.eq mtF (.n c)::.lt (.n 0) (ap2 67 s88 s89)::(xbF ++ mtE c s88 s89)
def mt3 (c:Int):List T:=.eq mtF (.n c)::.lt (ap2 67 s88 s89) (.n 0)::.lt (.n 0) (ap2 67 n88 n89)::(xbF ++ mtE c n88 n89)
def mt4 (c:Int):List T:=.eq mtF (.n c)::.eq (ap2 67 s88 s89) (.n 0)::(xbF ++ mtI)
theorem mx1 (c:Int) (hc:c=0∨c=1∨c=4∨c=5):in12 (inlX (lwB h) 4 (mt1 c) [] [i64 (.v 2),rawD,i64 (.v 3),i64 (.v 4)])=some ([],.one (.sc (.b (mtR c s88 s89)))):=by
  rcases hc with rfl | rfl | rfl | rfl <;> kernel_rfl
theorem mx2 (c:Int) (hc:c=2∨c=3):in12 (inlX (lwB h) 4 (mt2 c) [] [i64 (.v 2),rawD,i64 (.v 3),i64 (.v 4)])=some ([],.one (.sc (.b (mtR c s88 s89)))):=by
  rcases hc with rfl | rfl <;> kernel_rfl
theorem mx3 (c:Int) (hc:c=2∨c=3):in12 (inlX (lwB h) 4 (mt3 c) [] [i64 (.v 2),rawD,i64 (.v 3),i64 (.v 4)])=some ([],.one (.sc (.b (mtR c n88 n89)))):=by
  rcases hc with rfl | rfl <;> kernel_rfl
theorem mx4 (c:Int) (hc:c=2∨c=3):in12 (inlX (lwB h) 4 (mt4 c) [] [i64 (.v 2),rawD,i64 (.v 3),i64 (.v 4)])=some ([],.one (.sc (.b (.n 1)))):=by
  rcases hc with rfl | rfl <;> kernel_rfl
end
end V
end Go.Proofs.YtcjklbakhlehhaaGreat
