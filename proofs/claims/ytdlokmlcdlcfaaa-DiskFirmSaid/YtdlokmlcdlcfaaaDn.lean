/- hairlinelaw20: DiskFirm, walked. -/
import Derived.Test.YtdlokmlcdlcfaaaDn0
import Derived.Test.YtdlokmlcdlcfaaaDn1
import Derived.Test.YtdlokmlcdlcfaaaDn2
import Derived.Test.YtdlokmlcdlcfaaaDn3
namespace Go.Proofs.Ytdlokmlcdlcfaaa
open Go.RowKit
theorem firm_calls (w : World) (v v' : Value) (l l' : List OpD) (hv : Ops w v l) (hv' : Ops w v' l') (kv : Value) (ks : List Bool) (hks : Sl w kv (ks.map Value.bool)) (hkl : ks.length ≤ 140737488351232) (nb : Bool) :
    Calls Try.prog 4 #[v, v', kv, .bool nb] w fun e w' => e = .returned (.bool true) ∧ Below w.heap.size w w' := by
  by_cases hx : l.length ≤ 100
  · by_cases hy : l'.length ≤ 60
    · exact firm_0 w v v' l l' hv hv' hx hy kv ks hks hkl nb
    · exact firm_1 w v v' l l' hv hv' hx (by omega) kv ks hks hkl nb
  · by_cases hy : l'.length ≤ 60
    · exact firm_2 w v v' l l' hv hv' (by omega) hy kv ks hks hkl nb
    · exact firm_3 w v v' l l' hv hv' (by omega) (by omega) kv ks hks hkl nb
end Go.Proofs.Ytdlokmlcdlcfaaa
