/- The value of a dyad, counted in places of 2^-K: what Norm, Sign, Log, Cmp, Add .. say of it. Plain facts. bits: Near. Contracts of dyad in the values' words, for the laws. -/
import Derived.Test.YtcjklbakhlehhaaGreatDyadB
import Derived.Test.YtcjklbakhlehhaaGreatPats
set_option linter.unusedVariables false
namespace Go.Proofs.YtcjklbakhlehhaaGreat
section
section
open Go.RowKit
open L (val dig nth)
def sv (K:Nat) (z x:Int):Int:=z*2^(x+K).toNat
theorem jf3 (K:Nat) (x:Int):sv K 0 x=0:=Int.zero_mul _
theorem jku (k:Nat):(2:Int)^k≠0:=by have:=jb3 k;omega
theorem jf4 {K:Nat} {z x:Int}:sv K z x=0↔z=0:=by
  unfold sv
  constructor
  · intro h
    rcases Int.mul_eq_zero.1 h with h | h
    · exact h
    · exact absurd h (jku _)
  · rintro rfl;exact Int.zero_mul _
theorem jn4 (K:Nat) (z x:Int) (n:Nat) (h:0≤x+K):sv K (z*2^n) x=sv K z (x+n):=by
  unfold sv;rw [show (x+n+K).toNat=n+(x+K).toNat from by omega,Int.pow_add,Int.mul_assoc]
theorem jru (K:Nat) (a b x:Int):sv K (a+b) x=sv K a x+sv K b x:=Int.add_mul _ _ _
theorem jwv (K:Nat) (a b x:Int):sv K (a - b) x=sv K a x - sv K b x:=Int.sub_mul _ _ _
theorem jrv (K:Nat) (a x:Int):sv K (-a) x = -sv K a x:=Int.neg_mul _ _
theorem jrw (K J:Nat) (a b x y:Int) (hx:0≤x+K) (hy:0≤y+J):sv (K+J) (a*b) (x+y)=sv K a x*sv J b y:=by
  unfold sv;rw [show (x+y+((K+J:Nat):Int)).toNat=(x+K).toNat+(y+J).toNat from by omega,Int.pow_add];simp only [Int.mul_assoc,Int.mul_left_comm]
theorem natAbs_pow (k:Nat):((2:Int)^k).natAbs=2^k:=by rw [natpow,Int.natAbs_natCast]
theorem jd3 (K:Nat) (z x:Int):(sv K z x).natAbs=z.natAbs*2^(x+K).toNat:=by
  unfold sv;rw [Int.natAbs_mul,natAbs_pow]
theorem jy1 (K:Nat) (z x:Int):(sv K z x).sign=z.sign:=by
  unfold sv;rw [Int.sign_mul,Int.sign_eq_one_of_pos (jb3 _),Int.mul_one]
theorem je3 (z:Int):pM z*2^tz z.natAbs=z:=by
  unfold pM
  by_cases h:z=0
  · subst h;simp
  · refine Int.ediv_mul_cancel ?_
    have h1:=(jhi z.natAbs (by omega)).1;rw [←Int.natAbs_dvd_natAbs,natAbs_pow];exact ⟨_,by rw [Nat.mul_comm];exact h1.symm⟩
theorem je6:pM 0=0:=by unfold pM;simp
theorem jce (x:Int):pE 0 x=0:=by unfold pE;simp
theorem jkv (z:Int):(pM z).natAbs=z.natAbs / 2^tz z.natAbs:=by
  have h:=congrArg Int.natAbs (je3 z);rw [Int.natAbs_mul,natAbs_pow] at h;exact (Nat.div_eq_of_eq_mul_left (Nat.two_pow_pos _) h.symm).symm
theorem jww {z:Int} (h:z≠0):(pM z).natAbs%2=1:=by
  rw [jkv];exact (jhi z.natAbs (by omega)).2
theorem j32 {z:Int} (h:z≠0):pM z≠0:=by have:=jww h;intro h0;rw [h0] at this;simp at this
theorem jkw {z:Int} (h:z≠0) (x:Int):pE z x=x+tz z.natAbs:=by unfold pE;rw [if_neg h]
def nf (z x:Int):Prop:=(z=0∧x=0)∨z.natAbs%2=1
theorem ju3 (z x:Int):nf (pM z) (pE z x):=by
  by_cases h:z=0
  · subst h;exact .inl ⟨je6,jce x⟩
  · exact .inr (jww h)
theorem ju4 (K:Nat) (z x:Int) (h:0≤x+K):sv K (pM z) (pE z x)=sv K z x:=by
  by_cases hz:z=0
  · subst hz;rw [je6,jf3,jf3]
  · rw [jkw hz,←jn4 K _ _ _ h,je3]
theorem jkx (N n:Nat) (h:N≠0):tz (N*2^n)=tz N+n:=by
  obtain ⟨h1,h2⟩:=jhi N h;have e:N*2^n=N / 2^tz N*2^(tz N+n):=by rw [Nat.pow_add,←Nat.mul_assoc,h1]
  rw [e,jwz h2]
theorem jrx (z:Int) (n:Nat):pM (z*2^n)=pM z:=by
  by_cases h:z=0
  · subst h;simp [pM]
  · have e:=je3 (z*2^n)
    rw [Int.natAbs_mul,natAbs_pow,jkx _ _ (by omega),Int.pow_add,←Int.mul_assoc] at e;have e2:=Int.eq_of_mul_eq_mul_right (jku n) e;have e3:=je3 z;exact Int.eq_of_mul_eq_mul_right (jku (tz z.natAbs)) (e2.trans e3.symm)
theorem jp5 (K:Nat) (z x:Int):pM (sv K z x)=pM z:=jrx z _
theorem jmp (K:Nat) (z x:Int) (h:0≤x+K):pE (sv K z x) (-K)=pE z x:=by
  by_cases hz:z=0
  · subst hz;rw [jf3,jce,jce]
  · rw [jkw (fun h0=>hz (jf4.1 h0)),jkw hz,jd3,jkx _ _ (by omega)]
    omega
theorem j1o {z x:Int} (h:nf z x):pM z=z:=by
  rcases h with ⟨rfl,rfl⟩ | h
  · exact je6
  · unfold pM;rw [jk0 h];simp
theorem j1p {z x:Int} (h:nf z x):pE z x=x:=by
  rcases h with ⟨rfl,rfl⟩ | h
  · exact jce 0
  · rw [jkw (by intro h0;subst h0;simp at h),jk0 h];simp
def av (K:Nat) (z x:Int):Int:=sv K (cM z x) (cE z x)
theorem ju5 {K:Nat} {z x:Int} (h1 : -4000≤x) (h2:x≤4000):av K z x=sv K z x:=by
  unfold av cM cE
  by_cases hz:z=0
  · subst hz;simp [jf3]
  · rw [if_neg (by omega),if_neg (by omega)]
theorem jry (K:Nat) (z x:Int):nM z x=pM (av K z x):=(jp5 K _ _).symm
theorem jmq {K:Nat} (hK:4000≤K) (z x:Int):nE z x=pE (av K z x) (-K):=by
  have:=jan z x;exact (jmp K _ _ (by omega)).symm
theorem jhh (K:Nat) (z x:Int):(cM z x).sign=(av K z x).sign:=(jy1 K _ _).symm
theorem jrz (N n:Nat) (h:N≠0):nbits (N*2^n)=nbits N+n:=by
  have h1:=jfn N;have h2:=jfm h;have h3:=jb7 h;refine jcp ?_ (.inr ?_)
  · rw [Nat.pow_add];exact Nat.mul_lt_mul_of_pos_right h1 (Nat.two_pow_pos _)
  · rw [show nbits N+n - 1=(nbits N - 1)+n from by omega,Nat.pow_add]
    exact Nat.mul_le_mul_right _ h2
def lg (K:Nat) (V:Int):Int:=nbits V.natAbs - 1 - K
theorem j1q {K:Nat} {V:Int} (h:V≠0) {n:Int} (hn:0≤n+K):n≤lg K V↔2^(n+K).toNat≤V.natAbs:=by
  unfold lg;have h1:=jbd V.natAbs (n+K).toNat;have h2:=jb7 (n:=V.natAbs) (by omega)
  omega
theorem j33 {K:Nat} {V:Int} (h:V≠0) {n:Int} (hn:0≤n+K):lg K V<n↔V.natAbs<2^(n+K).toNat:=by
  have:=j1q h hn
  omega
theorem jr0 (K:Nat) (z x low:Int) (h1:low≤x) (h2:0≤low+K):sv K (z*2^(x - low).toNat) low=sv K z x:=by
  rw [jn4 K _ _ _ h2];congr 1;omega
theorem jd4 (K:Nat) (z x low:Int) (h1:low≤cE z x) (h2:0≤low+K):sv K (lift z x low) low=av K z x:=jr0 K _ _ _ h1 h2
theorem jr1 (K:Nat) (hK:4000≤K) (z x z' x':Int):pM (lift z x (lowE z x z' x')+lift z' x' (lowE z x z' x'))=pM (av K z x+av K z' x'):=by
  have hb:=jbs z x z' x';rw [←jp5 K _ (lowE z x z' x'),jru,jd4 K z x _ (by unfold lowE;omega) (by omega),jd4 K z' x' _ (by unfold lowE;omega) (by omega)]
theorem jy2 (K:Nat) (hK:4000≤K) (z x z' x':Int):pE (lift z x (lowE z x z' x')+lift z' x' (lowE z x z' x')) (lowE z x z' x')=pE (av K z x+av K z' x') (-K):=by
  have hb:=jbs z x z' x';rw [←jmp K _ (lowE z x z' x') (by omega),jru,jd4 K z x _ (by unfold lowE;omega) (by omega),jd4 K z' x' _ (by unfold lowE;omega) (by omega)]
theorem jr2 (K:Nat) (hK:4000≤K) (z x z' x':Int):pM (lift z x (lowE z x z' x') - lift z' x' (lowE z x z' x'))=pM (av K z x - av K z' x'):=by
  have hb:=jbs z x z' x';rw [←jp5 K _ (lowE z x z' x'),jwv,jd4 K z x _ (by unfold lowE;omega) (by omega),jd4 K z' x' _ (by unfold lowE;omega) (by omega)]
theorem jy3 (K:Nat) (hK:4000≤K) (z x z' x':Int):pE (lift z x (lowE z x z' x') - lift z' x' (lowE z x z' x')) (lowE z x z' x')=pE (av K z x - av K z' x') (-K):=by
  have hb:=jbs z x z' x';rw [←jmp K _ (lowE z x z' x') (by omega),jwv,jd4 K z x _ (by unfold lowE;omega) (by omega),jd4 K z' x' _ (by unfold lowE;omega) (by omega)]
theorem jwx (V:Int):pM (-V) = -pM V:=by
  have h:=je3 (-V);rw [Int.natAbs_neg] at h;have h2:=je3 V;refine Int.eq_of_mul_eq_mul_right (jku (tz V.natAbs)) ?_;rw [h,Int.neg_mul,h2]
theorem pE_neg (V x:Int):pE (-V) x=pE V x:=by
  unfold pE;rw [Int.natAbs_neg];simp
theorem jr3 (K:Nat) (z x:Int):pM (-cM z x)=pM (-av K z x):=by rw [jwx,jwx];unfold av;rw [jp5]
theorem jy4 (K:Nat) (hK:4000≤K) (z x:Int):pE (-cM z x) (cE z x)=pE (-av K z x) (-K):=by
  have:=jan z x;rw [pE_neg,pE_neg];unfold av;rw [jmp K _ _ (by omega)]
theorem jky (K:Nat) (z x:Int):pM (cM z x)=pM (av K z x):=(jp5 K _ _).symm
theorem jwy (V x n:Int):pE V (x+n)=if V=0 then 0 else pE V x+n:=by unfold pE;split <;> omega
theorem jr4 (K J:Nat) (z x z' x':Int) (hK:4000≤K) (hJ:4000≤J):pM (cM z x*cM z' x')=pM (av K z x*av J z' x'):=by
  have:=jan z x;have:=jan z' x';unfold av;rw [←jrw K J _ _ _ _ (by omega) (by omega),jp5]
theorem jy5 (K J:Nat) (z x z' x':Int) (hK:4000≤K) (hJ:4000≤J):pE (cM z x*cM z' x') (cE z x+cE z' x')=pE (av K z x*av J z' x') (-((K+J:Nat):Int)):=by
  have:=jan z x;have:=jan z' x';unfold av;rw [←jrw K J _ _ _ _ (by omega) (by omega),jmp _ _ _ (by omega)]
theorem pE_bounds' {K:Nat} {V:Int} {lo hi:Int} (h0:V≠0) (hlo:∃u:Int,V=sv K u lo) (hl:0≤lo+K) (hhi:V.natAbs<2^(hi+K).toNat) (hh:0≤hi+K):lo≤pE V (-K)∧pE V (-K)≤hi:=by
  obtain ⟨u,rfl⟩:=hlo;have hu:u≠0:=fun h=>h0 (jf4.2 h)
  rw [jmp K u lo hl];rw [jkw hu];rw [jd3] at hhi;have ht:=jhi u.natAbs (by omega)
  have h1:2^(tz u.natAbs+(lo+K).toNat)≤u.natAbs*2^(lo+K).toNat:=by
    rw [Nat.pow_add];refine Nat.mul_le_mul_right _ ?_;have h3:=Nat.le_mul_of_pos_left (2^tz u.natAbs) (Nat.pos_of_ne_zero (n:=u.natAbs / 2^tz u.natAbs) (fun h=>by rw [h] at ht;have:=ht.2;simp at this))
    rwa [ht.1] at h3
  have h2:=(Nat.pow_lt_pow_iff_right (a:=2) (by omega)).1 (Nat.lt_of_le_of_lt h1 hhi)
  omega
end
end
section
section
open Go.RowKit
open L (val dig nth)
def nrBad (z x:Int):Prop:=lgOk z x=false∨(cM z x).sign<0∨lgN z x < -1022∨1023<lgN z x
instance (z x:Int):Decidable (nrBad z x):=by unfold nrBad;infer_instance
theorem jy6 {d:List Nat} {m e:Int} {k:Nat} (hd:Canon d (scF m e).natAbs) (hm:m.natAbs<W^k) (he:e≤8000):d.length≤k+125:=by
  unfold scF at hd
  split at hd
  · exact jgn (t:=125) hd hm (by omega)
  · have:=jjw hd hm;omega
end
end
section
section
open Go.RowKit
open L (val dig nth)
def Q (w:World) (k:Nat) (n:Bool) (A:Option Addr) (len cap:Nat) (z:Int):Prop:=∃d,Nums w 0 (.slice A len cap) d∧d.length≤k∧ival n (val W d)=z
section
variable {w w':World} {k:Nat} {n:Bool} {A:Option Addr} {len cap:Nat} {z:Int}
theorem Q.below (h:Q w k n A len cap z) (hb:Below w.heap.size w w'):Q w' k n A len cap z:=by
  obtain ⟨d,h1,h2,h3⟩:=h;exact ⟨d,h1.below hb,h2,h3⟩
theorem Q.drewN (h:Q w k n A len cap z) (m:Nat):Q (w.drewN m) k n A len cap z:=h
theorem Q.drew (h:Q w k n A len cap z):Q w.drew k n A len cap z:=h
theorem Q.lt (h:Q w k n A len cap z):z.natAbs<W^k:=by
  obtain ⟨d,h1,h2,rfl⟩:=h;exact Nat.lt_of_lt_of_le (ja2 h1.lt) (Nat.pow_le_pow_right ja5 h2)
theorem Q.mono {k':Nat} (h:Q w k n A len cap z) (hk:k≤k'):Q w k' n A len cap z:=by
  obtain ⟨d,h1,h2,h3⟩:=h;exact ⟨d,h1,by omega,h3⟩
end
theorem Q.of_canon {w:World} {B k:Nat} {u:Value} {d:List Nat} {z:Int} (hu:Nums w B u d) (hd:Canon d z.natAbs) (hz:z.natAbs<W^k) :
    ∃A len cap,u=.slice A len cap∧Q w k (decide (z<0)) A len cap z:=by
  obtain ⟨A,cap,rfl⟩:=hu.form;exact ⟨A,d.length,cap,rfl,d,hu.mono (Nat.zero_le _),by rw [hd.len];exact hz,by rw [hd.val,jas]⟩
section
variable {w:World} {k k':Nat} {n m:Bool} {A A':Option Addr} {len cap len' cap':Nat} {z z' x y:Int}
theorem j1r (h:Q w k n A len cap z) (hk:k≤40000) (hx0 : -9223372036854775808≤x) (hx1:x≤9223372036854775807) :
    Calls Tryz.prog 10 #[.agg #[.bool n,.slice A len cap,.int .i64 x]] w fun e w'=>Below w.heap.size w w'∧e=.returned (.int .i64 (cM z x).sign):=by
  obtain ⟨d,h1,h2,rfl⟩:=h;exact jhj w n 0 _ d x h1 (by omega) hx0 hx1
theorem j34 (h:Q w k n A len cap z) (hk:k≤40000) (hx0 : -9223372036854775808≤x) (hx1:x≤9223372036854775807) :
    Calls Tryz.prog 72 #[.agg #[.bool n,.slice A len cap,.int .i64 x]] w fun e w'=>Below w.heap.size w w'∧e=.returned (.tuple #[.int .i64 (lgN z x),.bool (lgOk z x)]):=by
  obtain ⟨d,h1,h2,rfl⟩:=h;exact jig w n 0 _ d x h1 (by omega) hx0 hx1
theorem jjv {low:Int} (hz:z.natAbs<W^k) (hl : -4000≤low):(lift z x low).natAbs<W^(k+125):=by
  have h:=jff (d:=dig W (lift z x low).natAbs) (x:=x) rfl hz hl
  rwa [L.dig_len W_gt] at h
def vFloor (K:Nat) (V p:Int):Int:=if 0≤p then V*2^p.toNat / 2^K else V / 2^(K+(-p).toNat)
theorem jn5 (K:Nat) (a b p:Int) (h:0≤b+K):scF a (b+p)=vFloor K (sv K a b) p:=by
  have hd:∀(t:Int) (i j:Nat),t*2^(i+j) / 2^i=t*2^j:=by
    intro t i j;rw [Int.pow_add,←Int.mul_assoc,Int.mul_right_comm];exact Int.mul_ediv_cancel _ (jku i)
  have hq:∀(t:Int) (i j:Nat),t*2^i / 2^(i+j)=t / 2^j:=by
    intro t i j;rw [Int.pow_add,Int.mul_comm t];exact Int.mul_ediv_mul_of_pos _ _ (jb3 i)
  unfold scF vFloor sv
  by_cases hp:0≤p
  · rw [if_pos hp,Int.mul_assoc,←Int.pow_add]
    by_cases hs:0≤b+p
    · rw [if_pos hs,show (b+K).toNat+p.toNat=K+(b+p).toNat from by omega,hd]
    · rw [if_neg hs,show K=((b+K).toNat+p.toNat)+(-(b+p)).toNat from by omega]
      rw [show ((b+((b+K).toNat+p.toNat+(-(b+p)).toNat:Nat))).toNat+p.toNat=(b+K).toNat+p.toNat from by omega,hq]
  · rw [if_neg hp]
    by_cases hs:0≤b+p
    · rw [if_pos hs,show (b+K).toNat=(K+(-p).toNat)+(b+p).toNat from by omega,hd]
    · rw [if_neg hs,show K+(-p).toNat=(b+K).toNat+(-(b+p)).toNat from by omega,hq]
theorem jmr (a b:Int):scC a b = -scF (-a) b:=by
  unfold scC scF
  split
  · rw [Int.neg_mul,Int.neg_neg]
  · rfl
def vCeil (K:Nat) (V p:Int):Int := -vFloor K (-V) p
theorem jr5 (K:Nat) (a b p:Int) (h:0≤b+K):scC a (b+p)=vCeil K (sv K a b) p:=by
  rw [jmr,jn5 K _ _ _ h,jrv];rfl
theorem jn6 {a e:Int} (ha:a.natAbs<W^k) (he:e≤8000):(scF a e).natAbs<W^(k+125):=by
  have h:=jy6 (d:=dig W (scF a e).natAbs) rfl ha he
  rwa [L.dig_len W_gt] at h
end
theorem j35 (b:Nat):(rM b).natAbs<W^1:=by
  have:pFrc b<4503599627370496:=Nat.mod_lt _ (by omega);rw [Nat.pow_one];unfold rM W;rw [jbh];split <;> omega
theorem j36 (b:Nat):(vM b).natAbs<W^1:=by
  unfold vM
  split
  · rw [Nat.pow_one];unfold W;omega
  · exact jzu (j35 b)
end
end
end Go.Proofs.YtcjklbakhlehhaaGreat