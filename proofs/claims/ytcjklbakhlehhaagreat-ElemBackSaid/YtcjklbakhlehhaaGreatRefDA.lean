/- The document's dyads: plain. The document's dyads: near counts Norm Of Sign Log. The document's dyads: raised lower. -/
import Derived.Test.YtcjklbakhlehhaaGreatDyadB
import Derived.Test.YtcjklbakhlehhaaGreatCons
import Derived.Test.YtcjklbakhlehhaaGreatPats
import Derived.Test.YtcjklbakhlehhaaGreatEvs
set_option linter.unusedVariables false
set_option linter.unusedSimpArgs false
namespace Go.Proofs.YtcjklbakhlehhaaGreat
section
section
open Go.RowKit
open L (val dig nth)
def Left (z:Int) (t:Nat) (z':Int):Prop:=z'*2^t=z
theorem Left.step {z z':Int} {t s:Nat} (h:Left z t z') (hd:z'.natAbs%2^s=0):Left z (t+s) (z' / 2^s):=by
  unfold Left at *;rw [Nat.add_comm,Int.pow_add,←Int.mul_assoc,Int.ediv_mul_cancel,h];rw [←Int.natAbs_dvd_natAbs,natAbs_pow];exact Nat.dvd_of_mod_eq_zero hd
theorem Left.le {z z':Int} {t k:Nat} (h:Left z t z') (hz:z≠0) (hk:z.natAbs<W^k):t<64*k∧z'≠0∧z'.natAbs≤z.natAbs:=by
  unfold Left at h;have h0:z'≠0:=by rintro rfl;rw [Int.zero_mul] at h;exact hz h.symm
  have e:=congrArg Int.natAbs h;rw [Int.natAbs_mul,natAbs_pow] at e;have h1:2^t≤z.natAbs:=by rw [←e];exact Nat.le_mul_of_pos_left _ (by omega)
  rw [jf8] at hk;refine ⟨(Nat.pow_lt_pow_iff_right (a:=2) (by omega)).1 (Nat.lt_of_le_of_lt h1 hk),h0,?_⟩;rw [←e];exact Nat.le_mul_of_pos_right _ (Nat.two_pow_pos _)
end
end
section
section
open Go.RowKit
open L (val dig nth)
end
end
section
section
open Go.RowKit
open L (val dig nth)
def UpTo (P z':Int) (m:Nat):Prop:=z'*2^m=P
theorem UpTo.step {P z':Int} {m c:Nat} (h:UpTo P z' m) (hc:c≤m):UpTo P (z'*2^c) (m - c):=by
  unfold UpTo at *;rw [Int.mul_assoc,←Int.pow_add,show c+(m - c)=m from by omega];exact h
theorem UpTo.lt {P z':Int} {m k:Nat} (h:UpTo P z' m) (hk:P.natAbs<W^k):z'.natAbs<W^k:=by
  unfold UpTo at h;have e:=congrArg Int.natAbs h;rw [Int.natAbs_mul,natAbs_pow] at e;exact Nat.lt_of_le_of_lt (by rw [←e];exact Nat.le_mul_of_pos_right _ (Nat.two_pow_pos _)) hk
end
end
end Go.Proofs.YtcjklbakhlehhaaGreat