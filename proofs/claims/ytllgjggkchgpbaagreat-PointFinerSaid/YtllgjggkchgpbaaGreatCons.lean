/- The value of a dyad, counted in places of 2^-K: what Norm, Sign, Log, Cmp, Add .. say of it. Plain facts. bits: Near. Contracts of dyad in the values' words, for the laws. -/
import Derived.Test.YtllgjggkchgpbaaGreatDyadB
import Derived.Test.YtllgjggkchgpbaaGreatPats
set_option linter.unusedVariables false
namespace Go.Proofs.YtllgjggkchgpbaaGreat
section
section
open Go.RowKit
open L (val dig nth)
def sv (K:Nat) (z x:Int):Int:=z*2^(x+K).toNat
theorem jg7 (K:Nat) (x:Int):sv K 0 x=0:=Int.zero_mul _
theorem jkn (k:Nat):(2:Int)^k≠0:=by have:=jbr k;omega
theorem jfu {K:Nat} {z x:Int}:sv K z x=0↔z=0:=by
  unfold sv
  constructor
  · intro h
    rcases Int.mul_eq_zero.1 h with h | h
    · exact h
    · exact absurd h (jkn _)
  · rintro rfl;exact Int.zero_mul _
theorem jjk (K:Nat) (z x:Int) (n:Nat) (h:0≤x+K):sv K (z*2^n) x=sv K z (x+n):=by
  unfold sv;rw [show (x+n+K).toNat=n+(x+K).toNat from by omega,Int.pow_add,Int.mul_assoc]
theorem j1w (K:Nat) (a b x:Int):sv K (a+b) x=sv K a x+sv K b x:=Int.add_mul _ _ _
theorem jko (K:Nat) (a b x:Int):sv K (a - b) x=sv K a x - sv K b x:=Int.sub_mul _ _ _
theorem jrp (K:Nat) (a x:Int):sv K (-a) x = -sv K a x:=Int.neg_mul _ _
theorem j1x (K J:Nat) (a b x y:Int) (hx:0≤x+K) (hy:0≤y+J):sv (K+J) (a*b) (x+y)=sv K a x*sv J b y:=by
  unfold sv;rw [show (x+y+((K+J:Nat):Int)).toNat=(x+K).toNat+(y+J).toNat from by omega,Int.pow_add];simp only [Int.mul_assoc,Int.mul_left_comm]
theorem natAbs_pow (k:Nat):((2:Int)^k).natAbs=2^k:=by rw [natpow,Int.natAbs_natCast]
theorem jfb (K:Nat) (z x:Int):(sv K z x).natAbs=z.natAbs*2^(x+K).toNat:=by
  unfold sv;rw [Int.natAbs_mul,natAbs_pow]
theorem jy6 (K:Nat) (z x:Int):(sv K z x).sign=z.sign:=by
  unfold sv;rw [Int.sign_mul,Int.sign_eq_one_of_pos (jbr _),Int.mul_one]
theorem jez (z:Int):pM z*2^tz z.natAbs=z:=by
  unfold pM
  by_cases h:z=0
  · subst h;simp
  · refine Int.ediv_mul_cancel ?_
    have h1:=(jg9 z.natAbs (by omega)).1;rw [←Int.natAbs_dvd_natAbs,natAbs_pow];exact ⟨_,by rw [Nat.mul_comm];exact h1.symm⟩
theorem jg8:pM 0=0:=by unfold pM;simp
theorem jdn (x:Int):pE 0 x=0:=by unfold pE;simp
theorem jkp (z:Int):(pM z).natAbs=z.natAbs / 2^tz z.natAbs:=by
  have h:=congrArg Int.natAbs (jez z);rw [Int.natAbs_mul,natAbs_pow] at h;exact (Nat.div_eq_of_eq_mul_left (Nat.two_pow_pos _) h.symm).symm
theorem jw5 {z:Int} (h:z≠0):(pM z).natAbs%2=1:=by
  rw [jkp];exact (jg9 z.natAbs (by omega)).2
theorem j39 {z:Int} (h:z≠0):pM z≠0:=by have:=jw5 h;intro h0;rw [h0] at this;simp at this
theorem jp4 {z:Int} (h:z≠0) (x:Int):pE z x=x+tz z.natAbs:=by unfold pE;rw [if_neg h]
def nf (z x:Int):Prop:=(z=0∧x=0)∨z.natAbs%2=1
theorem ju7 (z x:Int):nf (pM z) (pE z x):=by
  by_cases h:z=0
  · subst h;exact .inl ⟨jg8,jdn x⟩
  · exact .inr (jw5 h)
theorem jnx (K:Nat) (z x:Int) (h:0≤x+K):sv K (pM z) (pE z x)=sv K z x:=by
  by_cases hz:z=0
  · subst hz;rw [jg8,jg7,jg7]
  · rw [jp4 hz,←jjk K _ _ _ h,jez]
theorem jrq (N n:Nat) (h:N≠0):tz (N*2^n)=tz N+n:=by
  obtain ⟨h1,h2⟩:=jg9 N h;have e:N*2^n=N / 2^tz N*2^(tz N+n):=by rw [Nat.pow_add,←Nat.mul_assoc,h1]
  rw [e,jw9 h2]
theorem j1y (z:Int) (n:Nat):pM (z*2^n)=pM z:=by
  by_cases h:z=0
  · subst h;simp [pM]
  · have e:=jez (z*2^n)
    rw [Int.natAbs_mul,natAbs_pow,jrq _ _ (by omega),Int.pow_add,←Int.mul_assoc] at e;have e2:=Int.eq_of_mul_eq_mul_right (jkn n) e;have e3:=jez z;exact Int.eq_of_mul_eq_mul_right (jkn (tz z.natAbs)) (e2.trans e3.symm)
theorem ju8 (K:Nat) (z x:Int):pM (sv K z x)=pM z:=j1y z _
theorem jrr (K:Nat) (z x:Int) (h:0≤x+K):pE (sv K z x) (-K)=pE z x:=by
  by_cases hz:z=0
  · subst hz;rw [jg7,jdn,jdn]
  · rw [jp4 (fun h0=>hz (jfu.1 h0)),jp4 hz,jfb,jrq _ _ (by omega)]
    omega
theorem j1z {z x:Int} (h:nf z x):pM z=z:=by
  rcases h with ⟨rfl,rfl⟩ | h
  · exact jg8
  · unfold pM;rw [jks h];simp
theorem j10 {z x:Int} (h:nf z x):pE z x=x:=by
  rcases h with ⟨rfl,rfl⟩ | h
  · exact jdn 0
  · rw [jp4 (by intro h0;subst h0;simp at h),jks h];simp
def av (K:Nat) (z x:Int):Int:=sv K (cM z x) (cE z x)
theorem jmj {K:Nat} {z x:Int} (h1 : -4000≤x) (h2:x≤4000):av K z x=sv K z x:=by
  unfold av cM cE
  by_cases hz:z=0
  · subst hz;simp [jg7]
  · rw [if_neg (by omega),if_neg (by omega)]
theorem ju9 (K:Nat) (z x:Int):nM z x=pM (av K z x):=(ju8 K _ _).symm
theorem jrs {K:Nat} (hK:4000≤K) (z x:Int):nE z x=pE (av K z x) (-K):=by
  have:=jaw z x;exact (jrr K _ _ (by omega)).symm
theorem jjl (K:Nat) (z x:Int):(cM z x).sign=(av K z x).sign:=(jy6 K _ _).symm
theorem jrt (N n:Nat) (h:N≠0):nbits (N*2^n)=nbits N+n:=by
  have h1:=jds N;have h2:=jdr h;have h3:=jbq h;refine jcn ?_ (.inr ?_)
  · rw [Nat.pow_add];exact Nat.mul_lt_mul_of_pos_right h1 (Nat.two_pow_pos _)
  · rw [show nbits N+n - 1=(nbits N - 1)+n from by omega,Nat.pow_add]
    exact Nat.mul_le_mul_right _ h2
theorem jru (K:Nat) (z x low:Int) (h1:low≤x) (h2:0≤low+K):sv K (z*2^(x - low).toNat) low=sv K z x:=by
  rw [jjk K _ _ _ h2];congr 1;omega
theorem jjm (K:Nat) (z x low:Int) (h1:low≤cE z x) (h2:0≤low+K):sv K (lift z x low) low=av K z x:=jru K _ _ _ h1 h2
theorem jrv (K:Nat) (hK:4000≤K) (z x z' x':Int):pM (lift z x (lowE z x z' x') - lift z' x' (lowE z x z' x'))=pM (av K z x - av K z' x'):=by
  have hb:=jdq z x z' x';rw [←ju8 K _ (lowE z x z' x'),jko,jjm K z x _ (by unfold lowE;omega) (by omega),jjm K z' x' _ (by unfold lowE;omega) (by omega)]
theorem jy7 (K:Nat) (hK:4000≤K) (z x z' x':Int):pE (lift z x (lowE z x z' x') - lift z' x' (lowE z x z' x')) (lowE z x z' x')=pE (av K z x - av K z' x') (-K):=by
  have hb:=jdq z x z' x';rw [←jrr K _ (lowE z x z' x') (by omega),jko,jjm K z x _ (by unfold lowE;omega) (by omega),jjm K z' x' _ (by unfold lowE;omega) (by omega)]
theorem jw6 (V:Int):pM (-V) = -pM V:=by
  have h:=jez (-V);rw [Int.natAbs_neg] at h;have h2:=jez V;refine Int.eq_of_mul_eq_mul_right (jkn (tz V.natAbs)) ?_;rw [h,Int.neg_mul,h2]
theorem jw7 (V x:Int):pE (-V) x=pE V x:=by
  unfold pE;rw [Int.natAbs_neg];simp
theorem jrw (K:Nat) (z x:Int):pM (-cM z x)=pM (-av K z x):=by rw [jw6,jw6];unfold av;rw [ju8]
theorem jy8 (K:Nat) (hK:4000≤K) (z x:Int):pE (-cM z x) (cE z x)=pE (-av K z x) (-K):=by
  have:=jaw z x;rw [jw7,jw7];unfold av;rw [jrr K _ _ (by omega)]
theorem jkq (K:Nat) (z x:Int):pM (cM z x)=pM (av K z x):=(ju8 K _ _).symm
theorem jw8 (V x n:Int):pE V (x+n)=if V=0 then 0 else pE V x+n:=by unfold pE;split <;> omega
theorem pE_bounds' {K:Nat} {V:Int} {lo hi:Int} (h0:V≠0) (hlo:∃u:Int,V=sv K u lo) (hl:0≤lo+K) (hhi:V.natAbs<2^(hi+K).toNat) (hh:0≤hi+K):lo≤pE V (-K)∧pE V (-K)≤hi:=by
  obtain ⟨u,rfl⟩:=hlo;have hu:u≠0:=fun h=>h0 (jfu.2 h)
  rw [jrr K u lo hl];rw [jp4 hu];rw [jfb] at hhi;have ht:=jg9 u.natAbs (by omega)
  have h1:2^(tz u.natAbs+(lo+K).toNat)≤u.natAbs*2^(lo+K).toNat:=by
    rw [Nat.pow_add];refine Nat.mul_le_mul_right _ ?_;have h3:=Nat.le_mul_of_pos_left (2^tz u.natAbs) (Nat.pos_of_ne_zero (n:=u.natAbs / 2^tz u.natAbs) (fun h=>by rw [h] at ht;have:=ht.2;simp at this))
    rwa [ht.1] at h3
  have h2:=(Nat.pow_lt_pow_iff_right (a:=2) (by omega)).1 (Nat.lt_of_le_of_lt h1 hhi)
  omega
end
end
section
section
open Go.RowKit
open L (val dig nth)
def nrBad (z x:Int):Prop:=lgOk z x=false∨(cM z x).sign<0∨lgN z x < -1022∨1023<lgN z x
instance (z x:Int):Decidable (nrBad z x):=by unfold nrBad;infer_instance
theorem jy9 {d:List Nat} {m e:Int} {k:Nat} (hd:Canon d (scF m e).natAbs) (hm:m.natAbs<W^k) (he:e≤8000):d.length≤k+125:=by
  unfold scF at hd
  split at hd
  · exact jgd (t:=125) hd hm (by omega)
  · have:=jjn hd hm;omega
end
end
section
section
open Go.RowKit
open L (val dig nth)
def Q (w:World) (k:Nat) (n:Bool) (A:Option Addr) (len cap:Nat) (z:Int):Prop:=∃d,Nums w 0 (.slice A len cap) d∧d.length≤k∧ival n (val W d)=z
section
variable {w w':World} {k:Nat} {n:Bool} {A:Option Addr} {len cap:Nat} {z:Int}
theorem Q.below (h:Q w k n A len cap z) (hb:Below w.heap.size w w'):Q w' k n A len cap z:=by
  obtain ⟨d,h1,h2,h3⟩:=h;exact ⟨d,h1.below hb,h2,h3⟩
theorem Q.drewN (h:Q w k n A len cap z) (m:Nat):Q (w.drewN m) k n A len cap z:=h
theorem Q.drew (h:Q w k n A len cap z):Q w.drew k n A len cap z:=h
theorem Q.lt (h:Q w k n A len cap z):z.natAbs<W^k:=by
  obtain ⟨d,h1,h2,rfl⟩:=h;exact Nat.lt_of_lt_of_le (jbl h1.lt) (Nat.pow_le_pow_right ja5 h2)
theorem Q.mono {k':Nat} (h:Q w k n A len cap z) (hk:k≤k'):Q w k' n A len cap z:=by
  obtain ⟨d,h1,h2,h3⟩:=h;exact ⟨d,h1,by omega,h3⟩
end
theorem Q.of_canon {w:World} {B k:Nat} {u:Value} {d:List Nat} {z:Int} (hu:Nums w B u d) (hd:Canon d z.natAbs) (hz:z.natAbs<W^k) :
    ∃A len cap,u=.slice A len cap∧Q w k (decide (z<0)) A len cap z:=by
  obtain ⟨A,cap,rfl⟩:=hu.form;exact ⟨A,d.length,cap,rfl,d,hu.mono (Nat.zero_le _),by rw [hd.len];exact hz,by rw [hd.val,jaz]⟩
section
variable {w:World} {k k':Nat} {n m:Bool} {A A':Option Addr} {len cap len' cap':Nat} {z z' x y:Int}
theorem j11 (h:Q w k n A len cap z) (hk:k≤40000) (hx0 : -9223372036854775808≤x) (hx1:x≤9223372036854775807) :
    Calls Tryz.prog 104 #[.agg #[.bool n,.slice A len cap,.int .i64 x]] w fun e w'=>Below w.heap.size w w'∧e=.returned (.int .i64 (cM z x).sign):=by
  obtain ⟨d,h1,h2,rfl⟩:=h;exact jha w n 0 _ d x h1 (by omega) hx0 hx1
theorem j4a (h:Q w k n A len cap z) (hk:k≤40000) (hx0 : -9223372036854775808≤x) (hx1:x≤9223372036854775807) :
    Calls Tryz.prog 109 #[.agg #[.bool n,.slice A len cap,.int .i64 x]] w fun e w'=>Below w.heap.size w w'∧e=.returned (.tuple #[.int .i64 (lgN z x),.bool (lgOk z x)]):=by
  obtain ⟨d,h1,h2,rfl⟩:=h;exact je0 w n 0 _ d x h1 (by omega) hx0 hx1
theorem jrx {low:Int} (hz:z.natAbs<W^k) (hl : -4000≤low):(lift z x low).natAbs<W^(k+125):=by
  have h:=jjp (d:=dig W (lift z x low).natAbs) (x:=x) rfl hz hl
  rwa [L.dig_len W_gt] at h
def vFloor (K:Nat) (V p:Int):Int:=if 0≤p then V*2^p.toNat / 2^K else V / 2^(K+(-p).toNat)
theorem jny (K:Nat) (a b p:Int) (h:0≤b+K):scF a (b+p)=vFloor K (sv K a b) p:=by
  have hd:∀(t:Int) (i j:Nat),t*2^(i+j) / 2^i=t*2^j:=by
    intro t i j;rw [Int.pow_add,←Int.mul_assoc,Int.mul_right_comm];exact Int.mul_ediv_cancel _ (jkn i)
  have hq:∀(t:Int) (i j:Nat),t*2^i / 2^(i+j)=t / 2^j:=by
    intro t i j;rw [Int.pow_add,Int.mul_comm t];exact Int.mul_ediv_mul_of_pos _ _ (jbr i)
  unfold scF vFloor sv
  by_cases hp:0≤p
  · rw [if_pos hp,Int.mul_assoc,←Int.pow_add]
    by_cases hs:0≤b+p
    · rw [if_pos hs,show (b+K).toNat+p.toNat=K+(b+p).toNat from by omega,hd]
    · rw [if_neg hs,show K=((b+K).toNat+p.toNat)+(-(b+p)).toNat from by omega]
      rw [show ((b+((b+K).toNat+p.toNat+(-(b+p)).toNat:Nat))).toNat+p.toNat=(b+K).toNat+p.toNat from by omega,hq]
  · rw [if_neg hp]
    by_cases hs:0≤b+p
    · rw [if_pos hs,show (b+K).toNat=(K+(-p).toNat)+(b+p).toNat from by omega,hd]
    · rw [if_neg hs,show K+(-p).toNat=(b+K).toNat+(-(b+p)).toNat from by omega,hq]
theorem jmk (a b:Int):scC a b = -scF (-a) b:=by
  unfold scC scF
  split
  · rw [Int.neg_mul,Int.neg_neg]
  · rfl
def vCeil (K:Nat) (V p:Int):Int := -vFloor K (-V) p
theorem jry (K:Nat) (a b p:Int) (h:0≤b+K):scC a (b+p)=vCeil K (sv K a b) p:=by
  rw [jmk,jny K _ _ _ h,jrp];rfl
theorem jnz {a e:Int} (ha:a.natAbs<W^k) (he:e≤8000):(scF a e).natAbs<W^(k+125):=by
  have h:=jy9 (d:=dig W (scF a e).natAbs) rfl ha he
  rwa [L.dig_len W_gt] at h
theorem jza (h:Q w k n A len cap z) (hk:k≤30000) (hx0 : -9223372036854775808≤x) (hx1:x≤9223372036854775807) :
    Calls Tryz.prog 45 #[.agg #[.bool n,.slice A len cap,.int .i64 x]] w fun e w'=>Below w.heap.size w w'∧
      e=.returned (.tuple #[.int .u64 (oB1 (nM z x) (nE z x):Nat),.int .i64 (oX1 (nM z x) (nE z x))]):=by
  obtain ⟨d,h1,h2,rfl⟩:=h;exact jle w n 0 _ d x h1 (by omega) hx0 hx1
end
def RetDX (k:Nat) (z x er:Int) (e:Ending) (w:World):Prop:=∃n A len cap,e=.returned (.tuple #[.agg #[.bool n,.slice A len cap,.int .i64 x],.int .i64 er])∧Q w k n A len cap z
theorem j4b (b:Nat):(rM b).natAbs<W^1:=by
  have:pFrc b<4503599627370496:=Nat.mod_lt _ (by omega);rw [Nat.pow_one];unfold rM W;rw [jbe];split <;> omega
theorem jzb (b:Nat):(vM b).natAbs<W^1:=by
  unfold vM
  split
  · rw [Nat.pow_one];unfold W;omega
  · exact jvt (j4b b)
theorem jzc {w:World} (b:Nat) (hb:b<W) :
    Calls Tryz.prog 28 #[.int .u64 b] w fun e w'=>Below w.heap.size w w'∧RetDX 1 (vM b) (vE b) (vX b) e w':=by
  refine (jm0 w b hb).mono ?_;rintro e w' ⟨hb,u,d,rfl,hu,hd⟩;obtain ⟨A,len,cap,rfl,hq⟩:=Q.of_canon hu hd (jzb b);exact ⟨hb,_,A,len,cap,rfl,hq⟩
end
end
end Go.Proofs.YtllgjggkchgpbaaGreat