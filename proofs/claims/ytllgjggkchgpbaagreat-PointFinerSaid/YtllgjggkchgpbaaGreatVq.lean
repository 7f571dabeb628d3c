/- Plain: what the rows reckon. -/
import Derived.Test.YtllgjggkchgpbaaGreatWk
set_option linter.unusedVariables false
set_option linter.unusedSimpArgs false
namespace Go.Proofs.YtllgjggkchgpbaaGreat
def up2 (x:Int):Int:=x*2^(1:Int).toNat
def expLo (t q:Int) (n:Nat):Int:=su (rA (dExp q) t (1*2^q.toNat)) n
def expHi (t q:Int) (n:Nat):Int:=su (rB (dExp q) t (1*2^q.toNat)) n+up2 (rB (dExp q) t (1*2^q.toNat) n)
def atanhLo (t q:Int) (n:Nat):Int:=su (oA (rA (dPow q) (t*t) t)) n
def atanhHi (t q:Int) (n:Nat):Int:=su (oB (rB (dPow q) (t*t) t)) n+up2 (oB (rB (dPow q) (t*t) t) n)
def atanLo (t q:Int) (n:Nat):Int:=tu (oA (rA (dPow q) (t*t) t)) (oB (rB (dPow q) (t*t) t)) (2*n)
def atanHi (t q:Int) (n:Nat):Int:=tu (oB (rB (dPow q) (t*t) t)) (oA (rA (dPow q) (t*t) t)) (2*n)+oB (rB (dPow q) (t*t) t) (2*n)
def sinLo (t q:Int) (n:Nat):Int:=tu (rA (dSin q) (t*t) t) (rB (dSin q) (t*t) t) (2*n)
def sinHi (t q:Int) (n:Nat):Int:=tu (rB (dSin q) (t*t) t) (rA (dSin q) (t*t) t) (2*n)+rB (dSin q) (t*t) t (2*n)
def cosLo (t q:Int) (n:Nat):Int:=tu (rA (dCos q) (t*t) (1*2^q.toNat)) (rB (dCos q) (t*t) (1*2^q.toNat)) (2*n)
def cosHi (t q:Int) (n:Nat):Int:=tu (rB (dCos q) (t*t) (1*2^q.toNat)) (rA (dCos q) (t*t) (1*2^q.toNat)) (2*n)+rB (dCos q) (t*t) (1*2^q.toNat) (2*n)
end Go.Proofs.YtllgjggkchgpbaaGreat
