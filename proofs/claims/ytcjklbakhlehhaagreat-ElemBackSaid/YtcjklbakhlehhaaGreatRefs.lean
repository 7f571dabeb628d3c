/- The document's numbers: digits of thirty-two bits: Trim, Digits, Limbs, Norm. The document's numbers: sums, differences of digits. The document's numbers: differences of digits, comparing, a digit's multiple. The document's numbers: products of digits. The document's numbers: Add, Sub, Mul, Shl, Shr, BitLen, Same. The document's numbers: Shl, Shr, BitLen. -/
import Derived.Test.YtcjklbakhlehhaaGreatNats
set_option linter.unusedVariables false
namespace Go.Proofs.YtcjklbakhlehhaaGreat
section
section
open Go.RowKit
open L (val dig nth)
def B32:Nat:=4294967296
theorem jsw:1<B32:=by unfold B32;omega
def CanonD (d:List Nat) (N:Nat):Prop:=d=dig B32 N
theorem CanonD.val {d:List Nat} {N:Nat} (h:CanonD d N):L.val B32 d=N:=by rw [show d=dig B32 N from h,L.val_dig jsw]
theorem CanonD.lt {d:List Nat} {N:Nat} (h:CanonD d N):∀x∈d,x<B32:=by rw [show d=dig B32 N from h];exact L.dig_lt jsw N
theorem CanonD.len {d:List Nat} {N m:Nat} (h:CanonD d N):d.length≤m↔N<B32^m:=by rw [show d=dig B32 N from h];exact L.dig_len jsw N m
end
end
section
section
open Go.RowKit
open L (val dig nth)
end
end
section
section
open Go.RowKit
open L (val dig nth)
end
end
section
section
open Go.RowKit
open L (val dig nth)
end
end
section
section
open Go.RowKit
open L (val dig nth)
end
end
section
section
open Go.RowKit
open L (val dig nth)
end
end
end Go.Proofs.YtcjklbakhlehhaaGreat