/- dyad.Mul; zed.Shl, Sub, Sign, Cmp in the values' words. Contracts of dyad and zed whose results are canonical. The references' Equal: are two integers, two dyads the very same? How far values reach: sums and products of small dyads count. Plain facts. Contracts of dyad with what they come to named by equations: for the laws' walks. -/
import Derived.Test.YtllgjggkchgpbaaGreatLaws
import Derived.Test.YtllgjggkchgpbaaGreatRefs
set_option linter.unusedVariables false
set_option linter.unusedSimpArgs false
namespace Go.Proofs.YtllgjggkchgpbaaGreat
section
section
open Go.RowKit
open L (val dig nth)
theorem jn1 {a b:Int} {k j:Nat} (ha:a.natAbs<W^k) (hb:b.natAbs<W^j):(a*b).natAbs<W^(k+j):=by
  rw [Int.natAbs_mul,Nat.pow_add];exact Nat.mul_lt_mul'' ha hb
section
variable {w:World} {k k':Nat} {n m:Bool} {A A':Option Addr} {len cap len' cap':Nat} {z z' x y:Int}
theorem jmo (h:Q w k n A len cap z) (hk:k≤50000) :
    Calls Tryz.prog 30 #[.agg #[.bool n,.slice A len cap]] w fun e w'=>Below w.heap.size w w'∧e=.returned (.int .i64 z.sign):=by
  obtain ⟨d,h1,h2,h3⟩:=h;exact jfs w n 0 _ d z.sign (by rw [h3]) h1 (by omega)
theorem jn2 (h:Q w k n A len cap z) (h':Q w k' m A' len' cap' z') (hk:k≤50000) (hk':k'≤50000) :
    Calls Tryz.prog 36 #[.agg #[.bool n,.slice A len cap],.agg #[.bool m,.slice A' len' cap']] w fun e w'=>Below w.heap.size w w'∧e=.returned (.int .i64 (cmpZ z z')):=by
  obtain ⟨d,h1,h2,rfl⟩:=h;obtain ⟨d',h1',h2',rfl⟩:=h';exact jqi w n m 0 0 _ _ d d' h1 h1' (by omega) (by omega)
end
end
end
section
section
open Go.RowKit
open L (val dig nth)
def QC (w:World) (k:Nat) (n:Bool) (A:Option Addr) (len cap:Nat) (z:Int):Prop:=∃d,Nums w 0 (.slice A len cap) d∧d.length≤k∧Canon d z.natAbs∧n=decide (z<0)
section
variable {w w':World} {k:Nat} {n:Bool} {A:Option Addr} {len cap:Nat} {z:Int}
theorem QC.q (h:QC w k n A len cap z):Q w k n A len cap z:=by
  obtain ⟨d,h1,h2,h3,rfl⟩:=h;exact ⟨d,h1,h2,by rw [h3.val,jaz]⟩
theorem QC.below (h:QC w k n A len cap z) (hb:Below w.heap.size w w'):QC w' k n A len cap z:=by
  obtain ⟨d,h1,h2⟩:=h;exact ⟨d,h1.below hb,h2⟩
theorem QC.drew (h:QC w k n A len cap z):QC w.drew k n A len cap z:=h
theorem QC.drewN (h:QC w k n A len cap z) (m:Nat):QC (w.drewN m) k n A len cap z:=h
theorem QC.of_canon {B:Nat} {u:Value} {d:List Nat} (hu:Nums w B u d) (hd:Canon d z.natAbs) (hz:z.natAbs<W^k) :
    ∃A len cap,u=.slice A len cap∧QC w k (decide (z<0)) A len cap z:=by
  obtain ⟨A,cap,rfl⟩:=hu.form;exact ⟨A,d.length,cap,rfl,d,hu.mono (Nat.zero_le _),by rw [hd.len];exact hz,hd,rfl⟩
end
def RetDC (k:Nat) (z x:Int) (e:Ending) (w:World):Prop:=∃n A len cap,e=.returned (.agg #[.bool n,.slice A len cap,.int .i64 x])∧QC w k n A len cap z
def RetIC (k:Nat) (z:Int) (e:Ending) (w:World):Prop:=∃n A len cap,e=.returned (.agg #[.bool n,.slice A len cap])∧QC w k n A len cap z
theorem RetQ.toDC {B k:Nat} {z x:Int} {e:Ending} {w:World} (h:RetQ B z x e w) (hz:z.natAbs<W^k):RetDC k z x e w:=by
  obtain ⟨u,d,rfl,hu,hd⟩:=h;obtain ⟨A,len,cap,rfl,hq⟩:=QC.of_canon hu hd hz;exact ⟨_,A,len,cap,rfl,hq⟩
theorem RetZ.toIC {B k:Nat} {z:Int} {e:Ending} {w:World} (h:RetZ B z e w) (hz:z.natAbs<W^k):RetIC k z e w:=by
  obtain ⟨u,d,rfl,hu,hd⟩:=h;obtain ⟨A,len,cap,rfl,hq⟩:=QC.of_canon hu hd hz;exact ⟨_,A,len,cap,rfl,hq⟩
section
variable {w:World} {k k':Nat} {n m:Bool} {A A':Option Addr} {len cap len' cap':Nat} {z z' x y:Int}
theorem j4c (h:Q w k n A len cap z) (hk:k≤40000) (hx0 : -9223372036854775808≤x) (hx1:x≤9223372036854775807) :
    Calls Tryz.prog 44 #[.agg #[.bool n,.slice A len cap],.int .i64 x] w fun e w'=>Below w.heap.size w w'∧RetDC k (nM z x) (nE z x) e w':=by
  have hz:=h.lt;obtain ⟨d,h1,h2,rfl⟩:=h;refine (jdp w n 0 _ d x h1 (by omega) hx0 hx1).mono ?_;rintro e w' ⟨hb,h⟩;exact ⟨hb,h.toDC (jvt hz)⟩
theorem jzd (h:Q w k n A len cap z) (hk:k≤40000) (hx0 : -9223372036854775808≤x) (hx1:x≤9223372036854775807) :
    Calls Tryz.prog 91 #[.agg #[.bool n,.slice A len cap,.int .i64 x]] w fun e w'=>Below w.heap.size w w'∧RetDC k (nM z x) (nE z x) e w':=by
  have hz:=h.lt;obtain ⟨d,h1,h2,rfl⟩:=h;refine (jcs w n 0 _ d x h1 (by omega) hx0 hx1).mono ?_;rintro e w' ⟨hb,h⟩;exact ⟨hb,h.toDC (jvt hz)⟩
theorem j14 (h:Q w k n A len cap z) (h':Q w k' m A' len' cap' z') (hk:k≤9000) (hk':k'≤9000)
    (hx0 : -9223372036854775808≤x) (hx1:x≤9223372036854775807) (hy0 : -9223372036854775808≤y) (hy1:y≤9223372036854775807) (K:Nat) (hK:4000≤K) :
    Calls Tryz.prog 270 #[.agg #[.bool n,.slice A len cap,.int .i64 x],.agg #[.bool m,.slice A' len' cap',.int .i64 y]] w fun e w'=>Below w.heap.size w w'∧
      RetDC (k+k'+126) (pM (av K z x - av K z' y)) (pE (av K z x - av K z' y) (-K)) e w':=by
  have hz:=h.lt;have hz':=h'.lt;obtain ⟨d,h1,h2,rfl⟩:=h;obtain ⟨d',h1',h2',rfl⟩:=h';refine (jh8 w n m 0 0 _ _ d d' x y h1 h1' (by omega) (by omega) hx0 hx1 hy0 hy1).mono ?_;rintro e w' ⟨hb,hr⟩;rw [jrv K hK,jy7 K hK] at hr;have hlb:=jdq (ival n (val W d)) x (ival m (val W d')) y;refine ⟨hb,hr.toDC (k:=k+k'+126) ?_⟩;rw [←jrv K hK];refine jvs (jxa (k:=k+k'+125) (Int.natAbs_sub_le _ _) ?_ ?_ (by omega))
  · exact jrx (Nat.lt_of_lt_of_le hz (Nat.pow_le_pow_right ja5 (by omega))) hlb.1
  · exact jrx (Nat.lt_of_lt_of_le hz' (Nat.pow_le_pow_right ja5 (by omega))) hlb.1
theorem j15 (h:Q w k n A len cap z) (hk:k≤30000) (hx0 : -9223372036854775808≤x) (hx1:x≤9223372036854775807) (K:Nat) (hK:4000≤K) :
    Calls Tryz.prog 287 #[.agg #[.bool n,.slice A len cap,.int .i64 x]] w fun e w'=>Below w.heap.size w w'∧RetDC k (pM (-av K z x)) (pE (-av K z x) (-K)) e w':=by
  have hz:=h.lt;obtain ⟨d,h1,h2,rfl⟩:=h;refine (jh7 w n 0 _ d x h1 (by omega) hx0 hx1).mono ?_;rintro e w' ⟨hb,h⟩;rw [jrw K,jy8 K hK] at h;refine ⟨hb,h.toDC ?_⟩;rw [←jrw K];exact jvs (by rw [Int.natAbs_neg];exact Nat.lt_of_le_of_lt (jjo _ x) hz)
theorem jvd (h:Q w k n A len cap z) (hk:k≤30000) (hx0 : -9223372036854775808≤x) (hx1:x≤9223372036854775807) (K:Nat) (hK:4000≤K) (p:Int) :
    Calls Tryz.prog 279 #[.agg #[.bool n,.slice A len cap,.int .i64 x],.int .i64 p] w fun e w'=>Below w.heap.size w w'∧
      RetDC k (pM (av K z x)) (pE (av K z x) (nearZ p - K)) e w':=by
  have hz:=h.lt;obtain ⟨d,h1,h2,rfl⟩:=h;refine (jga w n 0 _ d x p h1 (by omega) hx0 hx1).mono ?_;rintro e w' ⟨hb,h⟩;have hcb:=jaw (ival n (val W d)) x
  rw [jkq K,show pE (cM (ival n (val W d)) x) (cE (ival n (val W d)) x+nearZ p)=pE (av K (ival n (val W d)) x) (nearZ p - K) from by
    rw [jw8,show nearZ p - (K:Int) = -K+nearZ p from by omega,jw8];unfold av;rw [jrr K _ _ (by omega)]
    by_cases h0:cM (ival n (val W d)) x=0
    · rw [h0,if_pos rfl,if_pos (jg7 _ _)]
    · rw [if_neg h0,if_neg (fun hh=>h0 (jfu.1 hh))]] at h
  refine ⟨hb,h.toDC ?_⟩;rw [←jkq K];exact jvs (Nat.lt_of_le_of_lt (jjo _ x) hz)
theorem jve (h:Q w k n A len cap z) (hk:k≤9000) (hx0 : -9223372036854775808≤x) (hx1:x≤9223372036854775807) (K:Nat) (hK:4000≤K) (p:Int) :
    Calls Tryz.prog 264 #[.agg #[.bool n,.slice A len cap,.int .i64 x],.int .i64 p] w fun e w'=>Below w.heap.size w w'∧RetIC (k+125) (vFloor K (av K z x) (nearZ p)) e w':=by
  have hz:=h.lt;obtain ⟨d,h1,h2,rfl⟩:=h;refine (jdz w n 0 _ d x p h1 (by omega) hx0 hx1).mono ?_;rintro e w' ⟨hb,h⟩;have hcb:=jaw (ival n (val W d)) x;have hnb:=ja8 p;have hlt:=jnz (e:=cE (ival n (val W d)) x+nearZ p) (Nat.lt_of_le_of_lt (jjo _ x) hz) (by omega);rw [jny K _ _ _ (by omega)] at h hlt;exact ⟨hb,h.toIC hlt⟩
theorem jze (h:Q w k n A len cap z) (hk:k≤9000) (hx0 : -9223372036854775808≤x) (hx1:x≤9223372036854775807) (K:Nat) (hK:4000≤K) (p:Int) :
    Calls Tryz.prog 265 #[.agg #[.bool n,.slice A len cap,.int .i64 x],.int .i64 p] w fun e w'=>Below w.heap.size w w'∧RetIC (k+125) (vCeil K (av K z x) (nearZ p)) e w':=by
  have hz:=h.lt;obtain ⟨d,h1,h2,rfl⟩:=h;refine (jd3 w n 0 _ d x p h1 (by omega) hx0 hx1).mono ?_;rintro e w' ⟨hb,h⟩;have hcb:=jaw (ival n (val W d)) x;have hnb:=ja8 p;have hlt:=jnz (a := -cM (ival n (val W d)) x) (e:=cE (ival n (val W d)) x+nearZ p) (k:=k) (by rw [Int.natAbs_neg];exact Nat.lt_of_le_of_lt (jjo _ x) hz) (by omega);rw [←Int.natAbs_neg,←jmk] at hlt;rw [jry K _ _ _ (by omega)] at h hlt;exact ⟨hb,h.toIC hlt⟩
end
end
end
section
section
open Go.RowKit
open L (val dig nth)
end
end
section
section
open Go.RowKit
open L (val dig nth)
def InV (K:Nat) (lo hi V:Int):Prop:=0≤lo+K∧0≤hi+K∧(∃u:Int,V=sv K u lo)∧V.natAbs<2^(hi+K).toNat
section
variable {K J:Nat} {lo hi lo' hi' V V':Int}
theorem InV.mono (h:InV K lo hi V) (h1:lo'≤lo) (h2:0≤lo'+K) (h3:hi≤hi'):InV K lo' hi' V:=by
  obtain ⟨a,b,⟨u,hu⟩,c⟩:=h;refine ⟨h2,by omega,⟨u*2^(lo - lo').toNat,?_⟩,Nat.lt_of_lt_of_le c (Nat.pow_le_pow_right (by omega) (by omega))⟩;rw [jru K u lo lo' h1 h2];exact hu
theorem jkt {a b:Nat} {e:Int} (he:0≤e) (ha:a<2^e.toNat) (hb:b<2^e.toNat):a+b<2^(e+1).toNat:=by
  rw [show (e+1).toNat=e.toNat+1 from by omega,Nat.pow_succ];omega
theorem InV.add (h:InV K lo hi V) (h':InV K lo hi V'):InV K lo (hi+1) (V+V'):=by
  obtain ⟨a,b,⟨u,hu⟩,c⟩:=h;obtain ⟨a',b',⟨u',hu'⟩,c'⟩:=h';refine ⟨a,by omega,⟨u+u',by rw [j1w,←hu,←hu']⟩,Nat.lt_of_le_of_lt (Int.natAbs_add_le _ _) ?_⟩;rw [show hi+1+(K:Int)=hi+K+1 from by omega];exact jkt b c c'
theorem InV.neg (h:InV K lo hi V):InV K lo hi (-V):=by
  obtain ⟨a,b,⟨u,hu⟩,c⟩:=h;exact ⟨a,b,⟨-u,by rw [jrp,←hu]⟩,by rw [Int.natAbs_neg];exact c⟩
theorem InV.sub (h:InV K lo hi V) (h':InV K lo hi V'):InV K lo (hi+1) (V - V'):=by
  rw [Int.sub_eq_add_neg];exact h.add h'.neg
theorem InV.mul (h:InV K lo hi V) (h':InV J lo' hi' V'):InV (K+J) (lo+lo') (hi+hi') (V*V'):=by
  obtain ⟨a,b,⟨u,hu⟩,c⟩:=h;obtain ⟨a',b',⟨u',hu'⟩,c'⟩:=h';refine ⟨by omega,by omega,⟨u*u',by rw [j1x K J _ _ _ _ a a',←hu,←hu']⟩,?_⟩;rw [Int.natAbs_mul,show (hi+hi'+((K+J:Nat):Int)).toNat=(hi+K).toNat+(hi'+J).toNat from by omega,Nat.pow_add];exact Nat.mul_lt_mul'' c c'
theorem InV.pE (h:InV K lo hi V):V=0∧pE V (-K)=0∨lo≤pE V (-K)∧pE V (-K)≤hi:=by
  by_cases h0:V=0
  · left;subst h0;exact ⟨rfl,jdn _⟩
  · right
    obtain ⟨a,b,hu,c⟩:=h;exact pE_bounds' h0 hu a c b
theorem jzf (K:Nat) (V:Int):sv K V (-K)=V:=by
  unfold sv;rw [show (-(K:Int)+K).toNat=0 from by omega,Int.pow_zero,Int.mul_one]
theorem InV.av (h:InV K lo hi V) (h1 : -4000≤lo) (h2:hi≤4000):Proofs.YtllgjggkchgpbaaGreat.av K (pM V) (Proofs.YtllgjggkchgpbaaGreat.pE V (-K))=V:=by
  have hb:=h.pE;rw [jmj (by omega) (by omega),jnx K V _ (by omega),jzf]
theorem InV.bd (h:InV K lo hi V) (h1 : -4000≤lo) (h2:hi≤4000) : -4000≤Proofs.YtllgjggkchgpbaaGreat.pE V (-K)∧Proofs.YtllgjggkchgpbaaGreat.pE V (-K)≤4000:=by
  have hb:=h.pE
  omega
end
theorem InV.small {K:Nat} (hK:4000≤K) {z x:Int} {k:Nat} {m:Int} (hz:z.natAbs<W^k) (hx : -m≤x∧x≤m) (hm:m≤4000) (hm0:0≤m):InV K (-m) (64*k+m) (Proofs.YtllgjggkchgpbaaGreat.av K z x):=by
  rw [jmj (by omega) (by omega)];refine ⟨by omega,by omega,⟨z*2^(x - -m).toNat,by rw [jru K z x (-m) (by omega) (by omega)]⟩,?_⟩;rw [jfb,show (64*(k:Int)+m+K).toNat=64*k+(m+K).toNat from by omega,Nat.pow_add];rw [je4] at hz;exact Nat.lt_of_lt_of_le (Nat.mul_lt_mul_of_pos_right hz (Nat.two_pow_pos _)) (Nat.mul_le_mul_left _ (Nat.pow_le_pow_right (by omega) (by omega)))
theorem jzg (x:Int) (m:Nat) (hm:0<m) : -((m:Int) - 1)≤x.tmod m∧x.tmod m≤(m:Int) - 1:=by
  have h1:=Int.natAbs_tmod x m;rw [Int.natAbs_natCast] at h1;have h2:=Nat.mod_lt x.natAbs hm
  omega
theorem jgf (a b:Int):cmpZ a b=(a - b).sign:=by
  unfold cmpZ
  rcases jbu (a - b) with ⟨h,h'⟩ | ⟨h,h'⟩ | ⟨h,h'⟩ <;> rw [h]
  · rw [if_pos (by omega)]
  · rw [if_neg (by omega),if_neg (by omega)]
  · rw [if_neg (by omega),if_pos (by omega)]
end
end
section
section
open Go.RowKit
open L (val dig nth)
theorem jel {z:Int} {k c t:Nat} (hz:z.natAbs<W^k) (hc:c≤64*t):(z*2^c).natAbs<W^(k+t):=by
  have:=jgd (d:=dig W (z*2^c).natAbs) (k:=k) (n:=c) (t:=t) (z:=z) rfl hz hc
  rwa [L.dig_len W_gt] at this
theorem j4d {w:World} {k:Nat} {n:Bool} {A:Option Addr} {len cap:Nat} {z:Int} (h:Q w k n A len cap z) (hk:k≤50000) (c:Nat) (hc:c≤8000) :
    Calls Tryz.prog 69 #[.agg #[.bool n,.slice A len cap],.int .i64 (c:Nat)] w fun e w'=>Below w.heap.size w w'∧RetZ w.heap.size (z*2^c) e w':=by
  obtain ⟨d,h1,h2,rfl⟩:=h;exact jml w n 0 _ d c c _ h1 (by omega) (by omega) (by omega) rfl rfl
section
variable {w:World} {k k':Nat} {n m:Bool} {A A':Option Addr} {len cap len' cap':Nat} {z z' x y V V' zz xx:Int}
theorem j4e (K:Nat) (h:Q w k n A len cap z) (h':Q w k' m A' len' cap' z') (hK:4000≤K) (hk:k≤9000) (hk':k'≤9000) (hx : -100000≤x∧x≤100000) (hy : -100000≤y∧y≤100000)
    (hV:av K z x=V) (hV':av K z' y=V') (hz:pM (V - V')=zz) (hxx:pE (V - V') (-K)=xx) :
    Calls Tryz.prog 270 #[.agg #[.bool n,.slice A len cap,.int .i64 x],.agg #[.bool m,.slice A' len' cap',.int .i64 y]] w fun e w'=>Below w.heap.size w w'∧RetDC (k+k'+126) zz xx e w':=by
  have:=j14 (x:=x) (y:=y) h h' hk hk' (by omega) (by omega) (by omega) (by omega) K hK
  rwa [hV,hV',hz,hxx] at this
theorem j16 (K:Nat) (h:Q w k n A len cap z) (hK:4000≤K) (hk:k≤9000) (hx : -100000≤x∧x≤100000) (hV:av K z x=V) (hz:pM V=zz) (hxx:pE V (-K)=xx) :
    Calls Tryz.prog 91 #[.agg #[.bool n,.slice A len cap,.int .i64 x]] w fun e w'=>Below w.heap.size w w'∧RetDC k zz xx e w':=by
  have:=jzd (x:=x) h (by omega) (by omega) (by omega)
  rwa [ju9 K,jrs hK,hV,hz,hxx] at this
theorem j4f (K:Nat) (h:Q w k n A len cap z) (hK:4000≤K) (hk:k≤9000) (hx : -100000≤x∧x≤100000) (hV:av K z x=V) (hz:pM (-V)=zz) (hxx:pE (-V) (-K)=xx) :
    Calls Tryz.prog 287 #[.agg #[.bool n,.slice A len cap,.int .i64 x]] w fun e w'=>Below w.heap.size w w'∧RetDC k zz xx e w':=by
  have:=j15 (x:=x) h (by omega) (by omega) (by omega) K hK
  rwa [hV,hz,hxx] at this
theorem jzh (K:Nat) (p:Int) (h:Q w k n A len cap z) (hK:4000≤K) (hk:k≤9000) (hx : -100000≤x∧x≤100000) (hV:av K z x=V) (hz:pM V=zz) (hxx:pE V (nearZ p - K)=xx) :
    Calls Tryz.prog 279 #[.agg #[.bool n,.slice A len cap,.int .i64 x],.int .i64 p] w fun e w'=>Below w.heap.size w w'∧RetDC k zz xx e w':=by
  have:=jvd (x:=x) h (by omega) (by omega) (by omega) K hK p
  rwa [hV,hz,hxx] at this
theorem jzi (K:Nat) (p:Int) (h:Q w k n A len cap z) (hK:4000≤K) (hk:k≤9000) (hx : -100000≤x∧x≤100000) (hV:av K z x=V) (hz:vFloor K V (nearZ p)=zz) :
    Calls Tryz.prog 264 #[.agg #[.bool n,.slice A len cap,.int .i64 x],.int .i64 p] w fun e w'=>Below w.heap.size w w'∧RetIC (k+125) zz e w':=by
  have:=jve (x:=x) h (by omega) (by omega) (by omega) K hK p
  rwa [hV,hz] at this
theorem j17 (K:Nat) (p:Int) (h:Q w k n A len cap z) (hK:4000≤K) (hk:k≤9000) (hx : -100000≤x∧x≤100000) (hV:av K z x=V) (hz:vCeil K V (nearZ p)=zz) :
    Calls Tryz.prog 265 #[.agg #[.bool n,.slice A len cap,.int .i64 x],.int .i64 p] w fun e w'=>Below w.heap.size w w'∧RetIC (k+125) zz e w':=by
  have:=jze (x:=x) h (by omega) (by omega) (by omega) K hK p
  rwa [hV,hz] at this
theorem e_of (h:Q w k n A len cap z) (hk:k≤9000) (hx : -100000≤x∧x≤100000) (hz:nM z x=zz) (hxx:nE z x=xx) :
    Calls Tryz.prog 44 #[.agg #[.bool n,.slice A len cap],.int .i64 x] w fun e w'=>Below w.heap.size w w'∧RetDC k zz xx e w':=by
  have:=j4c (x:=x) h (by omega) (by omega) (by omega)
  rwa [hz,hxx] at this
end
end
end
end Go.Proofs.YtllgjggkchgpbaaGreat