/- The document's dyads in the values' words. -/
import Derived.Test.YtcjklbakhlehhaaGreatRefDB
import Derived.Test.YtcjklbakhlehhaaGreatEvs
set_option linter.unusedVariables false
set_option linter.unusedSimpArgs false
namespace Go.Proofs.YtcjklbakhlehhaaGreat
open Go.RowKit
open L (val dig nth)
section
variable {w:World} {k k':Nat} {n m:Bool} {A A':Option Addr} {len cap len' cap':Nat} {z z' x y:Int}
theorem jsv {K:Nat} (hz:z.natAbs<W^k) (hK:4000≤K) (q:Int):(vFloor K (av K z x) (nearZ q)).natAbs<W^(k+125):=by
  have hcb:=jan z x;have hnb:=jbc q;have hlt:=jn6 (e:=cE z x+nearZ q) (Nat.lt_of_le_of_lt (jii _ x) hz) (by omega)
  rwa [jn5 K _ _ _ (by omega)] at hlt
theorem jvg {K:Nat} (hz:z.natAbs<W^k) (hK:4000≤K) (q:Int):(vCeil K (av K z x) (nearZ q)).natAbs<W^(k+125):=by
  have hcb:=jan z x;have hnb:=jbc q;have hlt:=jn6 (a := -cM z x) (e:=cE z x+nearZ q) (k:=k) (by rw [Int.natAbs_neg];exact Nat.lt_of_le_of_lt (jii _ x) hz) (by omega);rw [←Int.natAbs_neg,←jmr] at hlt
  rwa [jr5 K _ _ _ (by omega)] at hlt
end
end Go.Proofs.YtcjklbakhlehhaaGreat
