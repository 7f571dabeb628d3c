/- Plain: sine and cosine are at most 1; what lies beside an enclosed number; a logarithm's power. -/
import Derived.Test.YtcjklbakhlehhaaGreatEa
set_option linter.unusedVariables false
set_option linter.unusedSimpArgs false
namespace Go.Proofs.YtcjklbakhlehhaaGreat
open Go.RowKit Go.Shelf
namespace An
theorem Encl.neg {F:Nat→Rat} {lo hi q:Int} (h:Encl F lo hi q):Encl (fun m => -(F m)) (-hi) (-lo) q:=by
  refine Lim.mono h fun m ε he ⟨u,u1,u2,u3⟩=>⟨-u,?_,?_,?_⟩
  · rw [Rat.intCast_neg];grind
  · rw [Rat.intCast_neg];grind
  · unfold Bd at *;grind
theorem Tells.near {F:Nat→Rat} {lo hi q:Int} (h:Tells F lo hi 0 q):Lim fun m ε=>∃u:Rat,(lo:Rat)≤u*DD q∧u*DD q≤(hi:Rat)∧(hi:Rat)≤u*DD q+2∧u*DD q - 2≤(lo:Rat)∧Bd ε (u - F m):=by
  refine Lim.mono h fun m ε he ⟨v,⟨n1,n2,n3,n4⟩,b⟩=>⟨v,n1,n2,by grind,by grind,?_⟩
  rw [two_zero,Rat.mul_one] at b;exact b
theorem j2i {c z x q:Int} (h:2≤c):shLo c z x q=atLo c z x q∧shHi c z x q=atHi c z x q:=by
  have k:atK c z x q=0:=by
    unfold atK;rw [if_neg (by omega),if_neg (by omega)]
  unfold shLo shHi;rw [k,if_neg (by omega),if_neg (by omega)];refine ⟨?_,?_⟩
  · exact Int.mul_one _
  · exact Int.mul_one _
theorem near_fat {c z x q:Int} (B:Base c z x q) (h:2≤c):Lim fun m ε=>∃u:Rat,(shLo c z x q:Rat)≤u*DD q∧u*DD q≤(shHi c z x q:Rat)∧(shHi c z x q:Rat)≤u*DD q+2∧u*DD q - 2≤(shLo c z x q:Rat)∧Bd ε (u - valF c z x m):=by
  have T:=tells_at B;rw [(k_in B).2.2 h] at T;rw [(j2i h).1,(j2i h).2];exact T.near
theorem jzo {B:Rat}:Lim fun m ε=>∀r,Bd B r→Bd (1+ε) (Sn m r)∧Bd (1+ε) (Cn m r):=by
  refine (circle B).mono fun m ε he h r hr=>?_
  have c:=h r hr
  generalize Sn m r=s at *
  generalize Cn m r=t at *
  have key:∀a b:Rat,a*a+b*b≤1+ε→Bd (1+ε) a:=fun a b k=>by
    have bb:0≤b*b:=jb5 b;unfold Bd
    constructor
    · by_cases c : -(1+ε)≤a
      · exact c
      · have:=Rat.mul_lt_mul_of_pos_right (show 1+ε < -a by grind) (show 0 < -a by grind)
        have:=Rat.mul_le_mul_of_nonneg_left (show 1+ε≤-a by grind) (show 0≤1+ε by grind);have:=Rat.mul_nonneg (Rat.le_of_lt he) (Rat.le_of_lt he)
        grind
    · by_cases c:a≤1+ε
      · exact c
      · have:=Rat.mul_lt_mul_of_pos_right (show 1+ε<a by grind) (show 0<a by grind)
        have:=Rat.mul_le_mul_of_nonneg_left (show 1+ε≤a by grind) (show 0≤1+ε by grind);have:=Rat.mul_nonneg (Rat.le_of_lt he) (Rat.le_of_lt he)
        grind
  exact ⟨key s t (by unfold Bd at c;grind),key t s (by unfold Bd at c;grind)⟩
theorem le_one {c z x q:Int} (B:Base c z x q) (h:4≤c):shHi c z x q≤2^q.toNat+2∧-(2^q.toNat+2)≤shLo c z x q:=by
  have c5:=B.c5;have d:=DD_pos q
  have W:Lim fun m ε=>Bd (1+ε) (valF c z x m):=(jzo (B:=1024)).mono fun m ε he k=>by
    have k:=k (xQ z x) (B.ex (by omega));unfold valF;rw [if_neg (by omega),if_neg (by omega),if_neg (by omega),if_neg (by omega)]
    split
    · exact k.1
    · exact k.2
  have N:=(near_fat B (by omega)).and W;have e:(((2:Int)^q.toNat:Int):Rat)=DD q:=rfl;refine ⟨rat_le ?_,rat_le ?_⟩
  · rw [Rat.intCast_add,e]
    refine Lim.le (K:=2*DD q) (by grind) (N.mono fun m ε he ⟨⟨u,u1,u2,u3,u4,u5⟩,w⟩=>?_);have t:=Rat.mul_le_mul_of_nonneg_right (show u≤1+2*ε by unfold Bd at *;grind) (Rat.le_of_lt d)
    show _≤DD q+(2:Rat)+_
    grind
  · rw [Rat.intCast_neg,Rat.intCast_add,e]
    refine Lim.le (K:=2*DD q) (by grind) (N.mono fun m ε he ⟨⟨u,u1,u2,u3,u4,u5⟩,w⟩=>?_);have t:=Rat.mul_le_mul_of_nonneg_right (show -(1+2*ε)≤u by unfold Bd at *;grind) (Rat.le_of_lt d)
    show -(DD q+(2:Rat))≤_
    grind
theorem Encl.has {F:Nat→Rat} {lo hi q a:Int} {r:Rat} (h:Encl F lo hi q) (hF:Lim fun m ε=>Bd ε (F m - r)) (e:(a:Rat)=r*DD q):lo≤a∧a≤hi:=by
  have d:=DD_pos q;have N:=h.and hF;refine ⟨rat_le ?_,rat_le ?_⟩
  · rw [e]
    refine Lim.le (K:=2*DD q) (by grind) (N.mono fun m ε he ⟨⟨u,u1,u2,u3⟩,w⟩=>?_);have t:=Rat.mul_le_mul_of_nonneg_right (show u≤r+2*ε by unfold Bd at *;grind) (Rat.le_of_lt d)
    grind
  · rw [e]
    refine Lim.le (K:=2*DD q) (by grind) (N.mono fun m ε he ⟨⟨u,u1,u2,u3⟩,w⟩=>?_);have t:=Rat.mul_le_mul_of_nonneg_right (show r≤u+2*ε by unfold Bd at *;grind) (Rat.le_of_lt d)
    grind
theorem logF_B {a b:Int} {r:Rat} (L:Lg a b r) {K:Rat} (K0:0≤K) (hK:Bd K (gE a b:Rat)) (m:Nat):Bd (K+1) (valF 2 a b m):=by
  obtain ⟨h0,h1⟩:=z_in L.x1 L.x2 L.hz;exact jg2 h0 h1 K0 hK m
theorem pow_low {a b l q:Int} {r s:Rat} (L:Lg a b r) {K:Rat} (K1:1≤K) (hK:Bd K (gE a b:Rat)) (hs:Bd K s) (hl:Lim fun m ε=>s≤valF 2 a b m+ε) {F:Nat→Rat} {lo hi:Int} (hF:∀m,F m=En m s) (h:Encl F lo hi q):(lo:Rat)≤r*DD q:=by
  have d:=DD_pos q;have e1:=jwk (B:=K+1) (f:=fun _=>s) (g:=valF 2 a b) (by grind) (fun _=>hs.mono (by grind)) (fun m=>logF_B L (by grind) hK m) hl;have e2:=jg3 (gE a b) L.x1 L.x2 L.hz;rw [L.eq] at e2;refine Lim.le (K:=3*DD q) (by grind) (((h.and e1).and e2).mono fun m ε he ⟨⟨⟨u,u1,u2,u3⟩,v⟩,w⟩=>?_);rw [hF m] at u3;have wv:Bd ε (En m (valF 2 a b m) - r):=w;have t:=Rat.mul_le_mul_of_nonneg_right (show u≤r+3*ε by unfold Bd at *;grind) (Rat.le_of_lt d)
  grind
theorem pow_high {a b l q:Int} {r s:Rat} (L:Lg a b r) {K:Rat} (K1:1≤K) (hK:Bd K (gE a b:Rat)) (hs:Bd K s) (hl:Lim fun m ε=>valF 2 a b m≤s+ε) {F:Nat→Rat} {lo hi:Int} (hF:∀m,F m=En m s) (h:Encl F lo hi q):r*DD q≤(hi:Rat):=by
  have d:=DD_pos q;have e1:=jwk (B:=K+1) (f:=valF 2 a b) (g:=fun _=>s) (by grind) (fun m=>logF_B L (by grind) hK m) (fun _=>hs.mono (by grind)) hl;have e2:=jg3 (gE a b) L.x1 L.x2 L.hz;rw [L.eq] at e2;refine Lim.le (K:=3*DD q) (by grind) (((h.and e1).and e2).mono fun m ε he ⟨⟨⟨u,u1,u2,u3⟩,v⟩,w⟩=>?_);rw [hF m] at u3;have wv:Bd ε (En m (valF 2 a b m) - r):=w;have t:=Rat.mul_le_mul_of_nonneg_right (show r≤u+3*ε by unfold Bd at *;grind) (Rat.le_of_lt d)
  grind
end An
end Go.Proofs.YtcjklbakhlehhaaGreat
