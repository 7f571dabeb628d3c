/- dyad: counts, near, up, down: dyads as they are handed, and integers moved by powers of two. dyad: plain, Norm, Of: dyads as they are answered. dyad: Norm, Of, Sign, Neg, Shift, Log: of one dyad. -/
import Derived.Test.YtllgjggkchgpbaaGreatZeds
import Derived.StillTailTactics
import Derived.RegionTactic
import Derived.BigRegion
set_option linter.unusedVariables false
namespace Go.Proofs.YtllgjggkchgpbaaGreat
section
section
open Go.RowKit
open L (val dig nth)
theorem start2 (w:World) (t t':TypeId) (a b:Array Value):∃W0,W0=(w.alloc (.cells a t)).alloc (.cells b t')∧Blk W0 w.heap.size t a∧Blk W0 (w.heap.size+1) t' b∧
    Below w.heap.size w W0∧W0.heap.size=w.heap.size+2:=
  ⟨_,rfl,(Blk.new w t _).alloc _,by have:=Blk.new (w.alloc (.cells a t)) t' b;simpa using this,((Below.refl _ _).alloc (Nat.le_refl _) _).alloc (by simp) _,by simp⟩
theorem start3 (w:World) (t t' t'':TypeId) (a b c:Array Value):∃W0,W0=((w.alloc (.cells a t)).alloc (.cells b t')).alloc (.cells c t'')∧Blk W0 w.heap.size t a∧Blk W0 (w.heap.size+1) t' b∧
    Blk W0 (w.heap.size+2) t'' c∧Below w.heap.size w W0∧W0.heap.size=w.heap.size+3:=
  ⟨_,rfl,((Blk.new w t _).alloc _).alloc _,by have:=(Blk.new (w.alloc (.cells a t)) t' b).alloc (.cells c t'');simpa using this,
    by have:=Blk.new ((w.alloc (.cells a t)).alloc (.cells b t')) t'' c;simpa using this,(((Below.refl _ _).alloc (Nat.le_refl _) _).alloc (by simp) _).alloc (by simp;omega) _,by simp⟩
def nearZ (n:Int):Int:=max (-4000) (min n 4000)
theorem ja8 (n:Int) : -4000≤nearZ n∧nearZ n≤4000:=by unfold nearZ;omega
theorem jfv (w:World) (n:Int):Calls Tryz.prog 267 #[.int .i64 n] w fun e w'=>w=w'∧e=.returned (.int .i64 (nearZ n)):=by
  go_enter Tryz.func267,Tryz.ntmps267
  go_wp2_with fail
  go_ret
  exact ⟨rfl,jb0 (by unfold nearZ;omega)⟩
def cM (z e:Int):Int:=if e < -4000∨4000<e∨z=0 then 0 else z
def cE (z e:Int):Int:=if e < -4000∨4000<e∨z=0 then 0 else e
theorem jaw (z e:Int) : -4000≤cE z e∧cE z e≤4000:=by unfold cE;split <;> omega
def RetM (k:Nat) (z:Int) (m:Bool) (u:Value) (d:List Nat) (w:World):Prop:=Nums w 0 u d∧d.length≤k∧ival m (val W d)=z
def RetC (k:Nat) (z x:Int) (e:Ending) (w:World):Prop:=∃m u d,e=.returned (.tuple #[.agg #[.bool m,u],.int .i64 x])∧RetM k z m u d w
set_option maxRecDepth 100000 in
theorem ja9 (w:World) (n:Bool) (B:Nat) (v:Value) (l:List Nat) (x:Int) (h:Nums w B v l) (hl:l.length≤60000) (hx0 : -9223372036854775808≤x) (hx1:x≤9223372036854775807) :
    Calls Tryz.prog 155 #[.agg #[.bool n,v,.int .i64 x]] w fun e w'=>Below w.heap.size w w'∧
      RetC l.length (cM (ival n (val W l)) x) (cE (ival n (val W l)) x) e w':=by
  have h0:=h;obtain ⟨A,cap,rfl,-,-,-,hc⟩:=h;obtain ⟨W0,hW,hbx,hrs,hB0,hs⟩:=start2 w 52 26 #[.bool n,.slice A l.length cap,.int .i64 x] #[.bool false,.slice none 0 0];have h1:=h0.up hB0;have HS:=hide hs;have hs2:w.heap.size+1<W0.heap.size:=by omega
  clear hs hc;obtain ⟨c0,c1,c2,-,-,-⟩:=hbx.three;obtain ⟨z,HZ⟩:∃z,Hid (ival n (val W l)=z):=⟨_,hide rfl⟩
  go_enter Tryz.func155,Tryz.ntmps155
  go_upto_region 1 with (fail)
  rw [←hW];clear hW;obtain ⟨g0,g1,g2,g3⟩:=hrs.two
  by_cases hx2:x < -4000
  · have HM:Hid (cM z x=0):=hide (by unfold cM;rw [if_pos];omega)
    have HE:Hid (cE z x=0):=hide (by unfold cE;rw [if_pos];omega)
    go_wp2_with fail
    rw [HZ.out,HM.out,HE.out];refine bodyPost_ret (ja6 rfl _ _ _ _ _ _ rfl ((hrs.set_ 0 _).set_ 1 _)) rfl ⟨below2 hB0 (by omega) _ _,?_⟩;exact ⟨false,_,[],rfl,Nums.nil _ _,by simp,jej _⟩
  · by_cases hx3:4000<x
    · have HM:Hid (cM z x=0):=hide (by unfold cM;rw [if_pos];omega)
      have HE:Hid (cE z x=0):=hide (by unfold cE;rw [if_pos];omega)
      go_wp2_with fail
      rw [HZ.out,HM.out,HE.out];refine bodyPost_ret (ja6 rfl _ _ _ _ _ _ rfl ((hrs.set_ 0 _).set_ 1 _)) rfl ⟨below2 hB0 (by omega) _ _,?_⟩;exact ⟨false,_,[],rfl,Nums.nil _ _,by simp,jej _⟩
    · go_wp2_with fail
      refine (jfs _ n B _ l z.sign (by rw [HZ.out]) h1 hl).mono ?_;rintro e w1 ⟨hb1,rfl⟩;have hbx1:=hbx.below hb1 hbx.lt;have hrs1:=hrs.below hb1 hrs.lt;have h2:=h1.below hb1;obtain ⟨e0,e1,e2,-,-,-⟩:=hbx1.three;obtain ⟨k0,k1,k2,k3⟩:=hrs1.two;have HB1:=hide (hB0.trans (hb1.mono (by omega)));have s1:=hb1.size
      by_cases hz:z=0
      · have HM:Hid (cM z x=0):=hide (by unfold cM;rw [if_pos];omega)
        have HE:Hid (cE z x=0):=hide (by unfold cE;rw [if_pos];omega);have hsg:z.sign=0:=by rw [hz];rfl
        rw [hsg]
        go_wp2_with fail
        rw [HZ.out,HM.out,HE.out];refine bodyPost_ret (ja6 rfl _ _ _ _ _ _ rfl ((hrs1.set_ 0 _).set_ 1 _)) rfl ⟨below2 HB1.out (by omega) _ _,?_⟩;exact ⟨false,_,[],rfl,Nums.nil _ _,by simp,jej _⟩
      · have HM:Hid (cM z x=z):=hide (by unfold cM;rw [if_neg];omega)
        have HE:Hid (cE z x=x):=hide (by unfold cE;rw [if_neg];omega)
        have hsg:(z.sign == 0)=false:=by
          rw [beq_eq_false_iff_ne];intro h;exact hz (Int.sign_eq_zero_iff_zero.1 h)
        go_wp2_with fail
        go_big_region
        go_wp2_with fail
        rw [HZ.out,HM.out,HE.out];refine bodyPost_ret (ja6 rfl _ _ _ _ _ _ rfl ((hrs1.drew.set_ 0 _).set_ 1 _)) rfl ⟨below2 HB1.out.drew (by omega) _ _,?_⟩;exact ⟨n,_,l,rfl,(h0.below (below2 HB1.out.drew (by omega) _ _)).mono (Nat.zero_le _),Nat.le_refl _,HZ.out⟩
theorem jva {n t:Nat} (h:n≤64*t):2^n≤W^t:=by rw [je4];exact Nat.pow_le_pow_right (by omega) h
theorem jgd {d:List Nat} {z:Int} {k n t:Nat} (hd:Canon d (z*2^n).natAbs) (hz:z.natAbs<W^k) (hn:n≤64*t):d.length≤k+t:=by
  rw [hd.len,Int.natAbs_mul,Int.natAbs_pow,Nat.pow_add];exact Nat.mul_lt_mul_of_lt_of_le hz (jva hn) (Nat.pos_of_ne_zero (by rw [je4];exact Nat.pos_iff_ne_zero.1 (Nat.two_pow_pos _)))
theorem jjn {d:List Nat} {z:Int} {k n:Nat} (hd:Canon d (z / 2^n).natAbs) (hz:z.natAbs<W^k):d.length≤k:=by
  rw [hd.len];exact Nat.lt_of_le_of_lt (Int.natAbs_ediv_le_natAbs _ _) hz
theorem jbl {n:Bool} {l:List Nat} (h:∀x∈l,x<W):(ival n (val W l)).natAbs<W^l.length:=by rw [jbe];exact L.val_lt l h
theorem jkr {k:Nat} (h:k≤8192):clampN (k:Int)=k:=by unfold clampN;omega
theorem jai {w:World} {r:Nat} {t:TypeId} {a b x y:Value} (h:Blk w r t #[a,b]):Blk ((w.setCell ⟨r,0,none⟩ x).setCell ⟨r,1,none⟩ y) r t #[x,y]:=by
  have:=(h.set_ 0 x).set_ 1 y
  simpa using this
theorem jao {w:World} {r g:Nat} {t:TypeId} {cs:Array Value} (h:Blk w g t cs) (hn:g≠r) (x y:Value):Blk ((w.setCell ⟨r,0,none⟩ x).setCell ⟨r,1,none⟩ y) g t cs:=
  (h.far (p:=⟨r,0,none⟩) hn x).far (p:=⟨r,1,none⟩) hn y
theorem jaf {w:World} {B r:Nat} {v:Value} {l:List Nat} (h:Nums w B v l) (hr:r<B) (x y:Value):Nums ((w.setCell ⟨r,0,none⟩ x).setCell ⟨r,1,none⟩ y) B v l:=
  (h.set_low (p:=⟨r,0,none⟩) hr x).set_low (p:=⟨r,1,none⟩) hr y
theorem jml (w:World) (n:Bool) (B:Nat) (v:Value) (l:List Nat) (k:Int) (c:Nat) (z:Int) (h:Nums w B v l) (hl:l.length≤60000) (hk0:0≤k) (hk1:k≤8192) (hc:c=k) (hz:ival n (val W l)*2^c=z) :
    Calls Tryz.prog 69 #[.agg #[.bool n,v],.int .i64 k] w fun e w'=>Below w.heap.size w w'∧RetZ w.heap.size z e w':=by
  subst hc;have:=jqg w n B v l c h hl (by omega) (by omega);rw [jkr (by omega),hz] at this;exact this
theorem jr0 (w:World) (n:Bool) (B:Nat) (v:Value) (l:List Nat) (k:Int) (c:Nat) (z:Int) (h:Nums w B v l) (hl:l.length≤50000) (hk0:0≤k) (hk1:k≤8192) (hc:c=k) (hz:ival n (val W l) / 2^c=z) :
    Calls Tryz.prog 99 #[.agg #[.bool n,v],.int .i64 k] w fun e w'=>Below w.heap.size w w'∧RetZ w.heap.size z e w':=by
  subst hc;have:=ji0 w n B v l c h hl (by omega) (by omega);rw [jkr (by omega),hz] at this;exact this
set_option maxRecDepth 100000 in
theorem jge (w:World) (n:Bool) (B:Nat) (v:Value) (l:List Nat) (k:Nat) (h:Nums w B v l) (hl:l.length≤10000) (hk:k≤8000) :
    Calls Tryz.prog 168 #[.agg #[.bool n,v],.int .i64 k] w fun e w'=>Below w.heap.size w w'∧RetZ w.heap.size (ival n (val W l)*2^k) e w':=by
  have h0:=h;obtain ⟨A,cap,rfl,-,-,-,hc⟩:=h;obtain ⟨W0,hW,hbx,hrs,hB0,hs⟩:=start2 w 26 26 #[.bool n,.slice A l.length cap] #[.bool false,.slice none 0 0];have h1:=h0.up hB0;have hs2:w.heap.size+1<W0.heap.size:=by omega
  clear hs hc;obtain ⟨z,HZ⟩:∃z,Hid (ival n (val W l)=z):=⟨_,hide rfl⟩
  go_enter Tryz.func168,Tryz.ntmps168
  go_upto_region 1 with (fail)
  rw [←hW];clear hW
  go_loopw [1] (fun s wr=>∃(j:Nat) (m:Bool) (u:Value) (d:List Nat),s=.int .i64 j∧Blk wr w.heap.size 26 #[.bool m,u]∧Blk wr (w.heap.size+1) 26 #[.bool false,.slice none 0 0]∧
      Below w.heap.size w wr∧w.heap.size+1<wr.heap.size∧Nums wr 0 u d∧Hid (ival m (val W d)*2^j=z*2^k)∧d.length≤20000∧j≤8000∧(d.length≤10000∨j≤4000)) (fun s _=>(intOf s).toNat)
  case atStart=>exact ⟨k,n,_,l,rfl,hbx,hrs,hB0,hs2,h1.mono (Nat.zero_le _),hide (by rw [HZ.out]),by omega,hk,.inl hl⟩
  case round=>
    obtain ⟨j,m,u,d,rfl,hbx1,hrs1,hB1,hsr,hu,HV,hd1,hj,hdj⟩:=hrel;obtain ⟨Au,capu,rfl⟩:=hu.form;obtain ⟨c0,c1,c2,c3⟩:=hbx1.two
    by_cases hlt:4000<j
    · have hlt':(4000:Int)<(j:Int):=by omega
      have hw:IntKind.i64.wrap ((j:Int) - 4000)=((j - 4000:Nat):Int):=by rw [IntWalk.i64_in _ (by omega)];omega
      have HU:=hide hu.lt
      go_wp2_with fail
      obtain ⟨c,HC⟩:∃c:Nat,Hid (c=4000):=⟨_,hide rfl⟩;obtain ⟨y,HY⟩:∃y,Hid (ival m (val W d)*2^c=y):=⟨_,hide rfl⟩;refine (jml _ m 0 _ d 4000 c y hu (by omega) (by omega) (by omega) (by have:=HC.out;omega) HY.out).mono ?_;rintro e w1 ⟨hb1,u1,d1,rfl,hu1,hd1'⟩;have hbx2:=hbx1.below hb1 (by omega);have hrs2:=hrs1.below hb1 (by omega);obtain ⟨f0,f1,f2,f3⟩:=hbx2.two;have hln:=jgd (t:=63) (HY.out ▸ hd1') (jbl HU.out) (by have:=HC.out;omega);obtain ⟨A1,cap1,rfl⟩:=hu1.form
      go_wp2_with fail
      have s1:=hb1.size
      go_roundw
      case rel=>
        refine ⟨j - 4000,_,_,d1,rfl,jai hbx2,jao hrs2 (by omega) _ _,below2 (hB1.trans (hb1.mono (by omega))) (by omega) _ _,by simp;omega,(jaf hu1 (by omega) _ _).mono (Nat.zero_le _),?_,by omega,by omega,by omega⟩;refine hide ?_;rw [←HV.out,hd1'.val,jaz,←HY.out,Int.mul_assoc,←Int.pow_add]
        congr 2
        have:=HC.out
        omega
      case measure=>simp [intOf];omega
    · have hlt':(j:Int)≤4000:=by omega
      have HU:=hide hu.lt
      go_wp2_with fail
      obtain ⟨y,HY⟩:∃y,Hid (z*2^k=y):=⟨_,hide rfl⟩;refine (jml _ m 0 _ d j j y hu (by omega) (by omega) (by omega) rfl (HV.out.trans HY.out)).mono ?_;rintro e w1 ⟨hb1,u1,d1,rfl,hu1,hd1'⟩;have hrs2:=hrs1.below hb1 (by omega);obtain ⟨g0,g1,g2,g3⟩:=hrs2.two;obtain ⟨A1,cap1,rfl⟩:=hu1.form
      go_wp2_with fail
      have s1:=hb1.size;refine bodyPost_ret (jah rfl _ _ _ _ _ _ rfl ((hrs2.set_ 0 _).set_ 1 _)) rfl ⟨below2 (hB1.trans (hb1.mono (by omega))) (by omega) _ _,?_⟩;rw [HZ.out,HY.out];exact ⟨_,d1,rfl,(jaf hu1 (by omega) _ _).mono (by omega),hd1'⟩
set_option maxRecDepth 100000 in
theorem jfw (w:World) (n:Bool) (B:Nat) (v:Value) (l:List Nat) (k:Nat) (h:Nums w B v l) (hl:l.length≤50000) (hk:k≤9223372036854775807) :
    Calls Tryz.prog 206 #[.agg #[.bool n,v],.int .i64 k] w fun e w'=>Below w.heap.size w w'∧RetZ w.heap.size (ival n (val W l) / 2^k) e w':=by
  have h0:=h;obtain ⟨A,cap,rfl,-,-,-,hc⟩:=h;obtain ⟨W0,hW,hbx,hrs,hB0,hs⟩:=start2 w 26 26 #[.bool n,.slice A l.length cap] #[.bool false,.slice none 0 0];have h1:=h0.up hB0;have hs2:w.heap.size+1<W0.heap.size:=by omega
  clear hs hc;obtain ⟨z,HZ⟩:∃z,Hid (ival n (val W l)=z):=⟨_,hide rfl⟩
  go_enter Tryz.func206,Tryz.ntmps206
  go_upto_region 1 with (fail)
  rw [←hW];clear hW
  go_loopw [1] (fun s wr=>∃(j:Nat) (m:Bool) (u:Value) (d:List Nat),s=.int .i64 j∧Blk wr w.heap.size 26 #[.bool m,u]∧Blk wr (w.heap.size+1) 26 #[.bool false,.slice none 0 0]∧
      Below w.heap.size w wr∧w.heap.size+1<wr.heap.size∧Nums wr 0 u d∧Hid (ival m (val W d) / 2^j=z / 2^k)∧d.length≤50000∧j≤9223372036854775807) (fun s _=>(intOf s).toNat)
  case atStart=>exact ⟨k,n,_,l,rfl,hbx,hrs,hB0,hs2,h1.mono (Nat.zero_le _),hide (by rw [HZ.out]),hl,hk⟩
  case round=>
    obtain ⟨j,m,u,d,rfl,hbx1,hrs1,hB1,hsr,hu,HV,hd1,hj⟩:=hrel;obtain ⟨Au,capu,rfl⟩:=hu.form;obtain ⟨c0,c1,c2,c3⟩:=hbx1.two
    by_cases hlt:4000<j
    · have hlt':(4000:Int)<(j:Int):=by omega
      have hw:IntKind.i64.wrap ((j:Int) - 4000)=((j - 4000:Nat):Int):=by rw [IntWalk.i64_in _ (by omega)];omega
      have HU:=hide hu.lt
      go_wp2_with fail
      obtain ⟨c,HC⟩:∃c:Nat,Hid (c=4000):=⟨_,hide rfl⟩;obtain ⟨y,HY⟩:∃y,Hid (ival m (val W d) / 2^c=y):=⟨_,hide rfl⟩;refine (jr0 _ m 0 _ d 4000 c y hu (by omega) (by omega) (by omega) (by have:=HC.out;omega) HY.out).mono ?_;rintro e w1 ⟨hb1,u1,d1,rfl,hu1,hd1'⟩;have hbx2:=hbx1.below hb1 (by omega);have hrs2:=hrs1.below hb1 (by omega);obtain ⟨f0,f1,f2,f3⟩:=hbx2.two;have hln:=jjn (HY.out ▸ hd1') (jbl HU.out);obtain ⟨A1,cap1,rfl⟩:=hu1.form
      go_wp2_with fail
      have s1:=hb1.size
      go_roundw
      case rel=>
        refine ⟨j - 4000,_,_,d1,rfl,jai hbx2,jao hrs2 (by omega) _ _,below2 (hB1.trans (hb1.mono (by omega))) (by omega) _ _,by simp;omega,(jaf hu1 (by omega) _ _).mono (Nat.zero_le _),?_,by omega,by omega⟩;refine hide ?_;rw [←HV.out,hd1'.val,jaz,←HY.out,Int.ediv_ediv_of_nonneg (Int.le_of_lt (jbr _)),←Int.pow_add]
        congr 2
        have:=HC.out
        omega
      case measure=>simp [intOf];omega
    · have hlt':(j:Int)≤4000:=by omega
      have HU:=hide hu.lt
      go_wp2_with fail
      obtain ⟨y,HY⟩:∃y,Hid (z / 2^k=y):=⟨_,hide rfl⟩;refine (jr0 _ m 0 _ d j j y hu (by omega) (by omega) (by omega) rfl (HV.out.trans HY.out)).mono ?_;rintro e w1 ⟨hb1,u1,d1,rfl,hu1,hd1'⟩;have hrs2:=hrs1.below hb1 (by omega);obtain ⟨g0,g1,g2,g3⟩:=hrs2.two;obtain ⟨A1,cap1,rfl⟩:=hu1.form
      go_wp2_with fail
      have s1:=hb1.size;refine bodyPost_ret (jah rfl _ _ _ _ _ _ rfl ((hrs2.set_ 0 _).set_ 1 _)) rfl ⟨below2 (hB1.trans (hb1.mono (by omega))) (by omega) _ _,?_⟩;rw [HZ.out,HY.out];exact ⟨_,d1,rfl,(jaf hu1 (by omega) _ _).mono (by omega),hd1'⟩
end
end
section
section
open Go.RowKit
open L (val dig nth)
def tz (N:Nat):Nat:=if h:N=0 then 0 else if N%2=1 then 0 else tz (N / 2)+1
termination_by N
decreasing_by omega
theorem jmm:tz 0=0:=by unfold tz;simp
theorem jks {N:Nat} (h:N%2=1):tz N=0:=by unfold tz;simp [h]
theorem jr1 {N:Nat} (h0:N≠0) (h:N%2=0):tz N=tz (N / 2)+1:=by rw [tz];simp [h,h0]
theorem jw9 {q:Nat} (hq:q%2=1) (n:Nat):tz (q*2^n)=n:=by
  induction n with
  | zero=>rw [Nat.pow_zero,Nat.mul_one];exact jks hq
  | succ n ih=>
    have e:q*2^(n+1)=2*(q*2^n):=by rw [Nat.pow_succ];simp only [Nat.mul_comm,Nat.mul_left_comm]
    have hp:0<q*2^n:=Nat.mul_pos (by omega) (Nat.two_pow_pos _);rw [e,jr1 (by omega) (by omega),Nat.mul_div_cancel_left _ (by omega),ih]
theorem jr2 {N n:Nat} (hd:N / 2^n*2^n=N) (ho:N / 2^n%2=1):tz N=n:=by
  rw [←hd];exact jw9 ho n
theorem jg9 (N:Nat) (h:N≠0):N / 2^tz N*2^tz N=N∧N / 2^tz N%2=1:=by
  induction N using Nat.strongRecOn with
  | _ N ih=>
    rcases Nat.mod_two_eq_zero_or_one N with h2 | h2
    · have h3:=ih (N / 2) (by omega) (by omega)
      rw [jr1 h h2,Nat.pow_succ,Nat.mul_comm _ 2,←Nat.div_div_eq_div_mul];refine ⟨?_,h3.2⟩;rw [Nat.mul_left_comm,h3.1]
      omega
    · rw [jks h2];simp [h2]
theorem jvb (N k:Nat) (h:N<2^k):tz N≤k:=by
  rcases Nat.eq_zero_or_pos N with h0 | h0
  · rw [h0,jmm];omega
  · obtain ⟨h1,h2⟩:=jg9 N (by omega)
    have h3:=Nat.le_mul_of_pos_left (2^tz N) (Nat.pos_of_ne_zero (n:=N / 2^tz N) (fun h=>by rw [h] at h2;cases h2));rw [h1] at h3;exact Nat.le_of_lt ((Nat.pow_lt_pow_iff_right (by omega)).1 (Nat.lt_of_le_of_lt h3 h))
def pM (z:Int):Int:=z / 2^tz z.natAbs
def pE (z x:Int):Int:=if z=0 then 0 else x+tz z.natAbs
def RetQ (B:Nat) (z x:Int) (e:Ending) (w:World):Prop:=∃u d,e=.returned (.agg #[.bool (decide (z<0)),u,.int .i64 x])∧Nums w B u d∧Canon d z.natAbs
theorem jvc (a r s:Nat) (hs:s<64):(a+W*r) / 2^s%2=a / 2^s%2:=by
  have e:W*r=2^s*(2*(2^(63 - s)*r)):=by
    rw [show W=2^s*(2*2^(63 - s)) from by
      rw [Nat.mul_left_comm,←Nat.pow_add,show s+(63 - s)=63 from by omega];rfl]
    simp only [Nat.mul_assoc]
  rw [e,Nat.add_mul_div_left _ _ (Nat.two_pow_pos _)]
  omega
theorem j12 (d:List Nat) (hd:∀x∈d,x<W) (n:Nat):val W d / 2^n%2=nth d (n / 64) / 2^(n%64)%2:=by
  have e:val W d / 2^n=val W (d.drop (n / 64)) / 2^(n%64):=by
    rw [L.val_drop W ja5 d hd,je4,Nat.div_div_eq_div_mul,←Nat.pow_add,show 64*(n / 64)+n%64=n from by omega]
  rw [e]
  rcases Nat.lt_or_ge (n / 64) d.length with h | h
  · rw [List.drop_eq_getElem_cons h]
    simp only [L.val];rw [jvc _ _ _ (by omega)]
    congr 3
    simp [L.nth,h]
  · rw [List.drop_of_length_le h]
    simp [L.val,L.nth,h]
theorem and1 (m:Nat) (hm:m<18446744073709551616):bits .and .u64 (m:Int) 1=((m%2:Nat):Int):=by
  have h:=bits_and_u64_nat m 1 hm (by omega);have e:m &&& 1=m%2:=Nat.and_two_pow_sub_one_eq_mod m 1;rw [e] at h;exact h
theorem below3 {w W:World} {r:Nat} (h:Below w.heap.size w W) (hr:w.heap.size≤r) (x y u:Value):Below w.heap.size w (((W.setCell ⟨r,0,none⟩ x).setCell ⟨r,1,none⟩ y).setCell ⟨r,2,none⟩ u):=
  ((h.setCell (p:=⟨r,0,none⟩) hr x).setCell (p:=⟨r,1,none⟩) hr y).setCell (p:=⟨r,2,none⟩) hr u
theorem jbw {w:World} {B r:Nat} {v:Value} {l:List Nat} (h:Nums w B v l) (hr:r<B) (x y u:Value):Nums (((w.setCell ⟨r,0,none⟩ x).setCell ⟨r,1,none⟩ y).setCell ⟨r,2,none⟩ u) B v l:=
  ((h.set_low (p:=⟨r,0,none⟩) hr x).set_low (p:=⟨r,1,none⟩) hr y).set_low (p:=⟨r,2,none⟩) hr u
set_option maxRecDepth 100000 in
set_option maxHeartbeats 1000000 in
theorem jdo (w:World) (n:Bool) (B:Nat) (v:Value) (l:List Nat) (x:Int) (h:Nums w B v l) (hl:l.length≤40000) (hx0 : -1000000000≤x) (hx1:x≤1000000000) :
    Calls Tryz.prog 154 #[.agg #[.bool n,v],.int .i64 x] w fun e w'=>Below w.heap.size w w'∧RetQ w.heap.size (pM (ival n (val W l))) (pE (ival n (val W l)) x) e w':=by
  have h0:=h;have hlt0:=h.lt;obtain ⟨A,cap,rfl,-,-,-,hc⟩:=h;obtain ⟨W0,hW,hbx,hrs,hB0,hs⟩:=start2 w 26 52 #[.bool n,.slice A l.length cap] #[.bool false,.slice none 0 0,.int .i64 0];have h1:=h0.up hB0;have hs2:w.heap.size+1<W0.heap.size:=by omega
  clear hs hc;obtain ⟨z,HZ⟩:∃z,Hid (ival n (val W l)=z):=⟨_,hide rfl⟩;have HLN:Hid (z.natAbs<W^l.length):=hide (by rw [←HZ.out];exact jbl hlt0);obtain ⟨c0,c1,c2,c3⟩:=hbx.two
  go_enter Tryz.func154,Tryz.ntmps154
  go_upto_region 1 with (fail)
  rw [←hW];clear hW
  go_wp2_with fail
  refine (jh3 _ n B _ l h1 (by omega)).mono ?_;rw [HZ.out];rintro e w1 ⟨hb1,u1,d,rfl,hu1,hd⟩;have hbx1:=hbx.below hb1 (by omega);have hrs1:=hrs.below hb1 (by omega);obtain ⟨f0,f1,f2,f3⟩:=hbx1.two;obtain ⟨A1,cap1,rfl⟩:=hu1.form
  go_upto_region 2 with (fail)
  have s1:=hb1.size;have hbx2:=jai (x:=.bool (decide (z<0))) (y:=.slice A1 d.length cap1) hbx1;have hrs2:=jao hrs1 (r:=w.heap.size) (by omega) (.bool (decide (z<0))) (.slice A1 d.length cap1);have hB2:=below2 (r:=w.heap.size) (hB0.trans (hb1.mono (by omega))) (by omega) (.bool (decide (z<0))) (.slice A1 d.length cap1);have hu2:=jaf hu1 (r:=w.heap.size) (by omega) (.bool (decide (z<0))) (.slice A1 d.length cap1);have hs3:W0.heap.size≤((w1.setCell ⟨w.heap.size,0,none⟩ (.bool (decide (z<0)))).setCell ⟨w.heap.size,1,none⟩ (.slice A1 d.length cap1)).heap.size:=by simp;omega
  generalize ((w1.setCell ⟨w.heap.size,0,none⟩ (.bool (decide (z<0)))).setCell ⟨w.heap.size,1,none⟩ (.slice A1 d.length cap1))=w2 at *
  obtain ⟨e0,e1,e2,e3⟩:=hbx2.two;obtain ⟨g0,g1,g2,g3,g4,g5⟩:=hrs2.three
  by_cases hz:z=0
  · have hd0:d.length=0:=by
      have:=hd.nil_iff.2 (by rw [hz];rfl);rw [this];rfl
    have hd0':(d.length:Int)=0:=by omega
    rw [hd0'] at *
    go_wp2_with fail
    rw [HZ.out,hz];refine bodyPost_ret (jbk rfl _ _ _ _ _ _ _ rfl (((hrs2.set_ 0 _).set_ 1 _).set_ 2 _)) rfl ⟨below3 hB2 (by omega) _ _ _,?_⟩;exact ⟨_,[],by simp [pM,pE],Nums.nil _ _,by simp [pM,jmm];exact (L.dig_zero W).symm⟩
  · obtain ⟨N,HN⟩:∃N,Hid (z.natAbs=N):=⟨_,hide rfl⟩
    have hdN:Canon d N:=by rw [←HN.out];exact hd
    have hdp:0<d.length:=by
      rcases Nat.eq_zero_or_pos d.length with h | h
      · have:=hd.nil_iff.1 (List.eq_nil_of_length_eq_zero h);omega
      · exact h
    have hdl:d.length≤40000:=Nat.le_trans (hd.len.2 HLN.out) hl;have hN0:N≠0:=by have:=HN.out;omega
    have hdlt:=hu2.lt;have hNlt:N<2^(64*d.length):=by have:=L.val_lt d hdlt;rw [hdN.val,je4] at this;exact this
    have HNlt:=hide hNlt;have HDN:=hide hdN;have HD:=hide hd;clear hNlt hdN hd;have HU2:=hide hu2;obtain ⟨A2,cap2,hAeq,-,-,-,hcell⟩:=hu2;injection hAeq with hAeq hxx hcapeq
    subst hAeq hcapeq;obtain ⟨b1,o1,rfl,-,hb1',hcell1⟩:=hcell hdp;have hdlI:(0:Int)<(d.length:Int):=by omega
    go_wp2_with fail
    go_loop [5] (fun s=>∃k:Nat,s=.int .i64 k∧Hid (N / 2^k*2^k=N)∧k≤64*d.length) (fun s=>64*d.length - (intOf s).toNat)
    case atStart=>exact ⟨0,rfl,hide (by simp),by omega⟩
    case round=>
      obtain ⟨k,rfl,HK,hk⟩:=hrel
      have hklt:k<64*d.length:=by
        have h3:=Nat.le_mul_of_pos_left (2^k) (show 0<N / 2^k by
          rcases Nat.eq_zero_or_pos (N / 2^k) with h | h
          · have:=HK.out;rw [h] at this;omega
          · exact h)
        rw [HK.out] at h3;exact (Nat.pow_lt_pow_iff_right (by omega)).1 (Nat.lt_of_le_of_lt h3 HNlt.out)
      have hi:k / 64<d.length:=by omega
      have hcl:=hcell1 (k / 64) hi;have hi':((k / 64:Nat):Int)<(d.length:Int):=by omega
      have hbt:=j12 d hdlt k;rw [HDN.out.val] at hbt;have HBT:=hide hbt;have hdv:=div64 k;have hnl:=jbo hdlt (k / 64);obtain ⟨y,HY⟩:∃y,Hid (nth d (k / 64)=y):=⟨_,hide rfl⟩;rw [HY.out] at hcl hnl HBT;obtain ⟨i,HI⟩:∃i,Hid (k / 64=i):=⟨_,hide rfl⟩;rw [HI.out] at hcl hi hi' hdv;have ha63:=and63 k (by omega);obtain ⟨s,HS⟩:∃s,Hid (k%64=s):=⟨_,hide rfl⟩;have hs64:s<64:=by have:=HS.out;omega
      rw [HS.out] at ha63 HBT;have hwr:IntKind.u64.wrap (k:Int)=(k:Int):=by rw [IntKind.wrap_u64];omega
      have ha1:=and1 (y / 2^s) (Nat.lt_of_le_of_lt (Nat.div_le_self _ _) hnl);have hdiv:=HK.out
      rcases Nat.mod_two_eq_zero_or_one (y / 2^s) with hb | hb
      · have e:N / 2^k%2=0:=HBT.out.trans hb
        have HE:Hid (N / 2^(k+1)*2^(k+1)=N):=hide (by
          rw [Nat.pow_succ,←Nat.div_div_eq_div_mul,Nat.mul_comm (2^k) 2,←Nat.mul_assoc,Nat.div_mul_cancel (Nat.dvd_of_mod_eq_zero e)];exact hdiv)
        rw [hb,←jc2] at ha1;clear hbt hdlt hcell1 hb1' hb e hdiv hcell
        go_wp2_with fail
        go_round
        case rel=>exact ⟨k+1,by go_num,HE,by omega⟩
        case measure=>simp [intOf];omega
      · have e:N / 2^k%2=1:=HBT.out.trans hb
        have HT:Hid (tz N=k):=hide (jr2 hdiv e);rw [hb,←jc2] at ha1;clear hbt hdlt hcell1 hb1' hb e hdiv hcell
        by_cases hk0:k=0
        · have HK0:=hide hk0
          have hk0':((k:Int) == 0)=true:=by rw [beq_iff_eq];omega
          clear hk0
          go_wp2_with fail
          have HPM:Hid (pM z=z):=hide (by unfold pM;rw [HN.out,HT.out,HK0.out];simp);have HPE:Hid (pE z x=x):=hide (by unfold pE;rw [if_neg hz,HN.out,HT.out,HK0.out];simp);rw [HZ.out,HPM.out,HPE.out];refine bodyPost_ret (jbk rfl _ _ _ _ _ _ _ rfl (((hrs2.set_ 0 _).set_ 1 _).set_ 2 _)) rfl ⟨below3 hB2 (by omega) _ _ _,?_⟩;exact ⟨_,d,rfl,(jbw HU2.out (by omega) _ _ _).mono (by omega),HD.out⟩
        · have hk0':((k:Int) == 0)=false:=by rw [beq_eq_false_iff_ne];omega
          go_wp2_with fail
          refine (jfw _ (decide (z<0)) _ _ d k HU2.out (by omega) (by omega)).mono ?_;obtain ⟨zz,HZZ⟩:∃zz,Hid (pM z=zz):=⟨_,hide rfl⟩
          have hzz:ival (decide (z<0)) (val W d) / 2^k=zz:=by
            rw [HD.out.val,jaz,←HZZ.out,pM,HN.out,HT.out]
          rw [hzz];rintro e w3 ⟨hb3,u3,d3,rfl,hu3,hd3⟩;have hrs3:=hrs2.below hb3 (by omega);obtain ⟨A3,cap3,rfl⟩:=hu3.form;obtain ⟨j0,j1,j2,j3,j4,j5⟩:=hrs3.three;have hwx:IntKind.i64.wrap (x+(k:Int))=x+(k:Int):=IntWalk.i64_in _ (by omega)
          go_wp2_with fail
          have s3:=hb3.size;have HPE:Hid (pE z x=x+k):=hide (by unfold pE;rw [if_neg hz,HN.out,HT.out]);rw [HZ.out,HZZ.out,HPE.out];refine bodyPost_ret (jbk rfl _ _ _ _ _ _ _ rfl (((hrs3.set_ 0 _).set_ 1 _).set_ 2 _)) rfl ⟨below3 (hB2.trans (hb3.mono (by omega))) (by omega) _ _ _,?_⟩;exact ⟨_,d3,rfl,(jbw hu3 (by omega) _ _ _).mono (by omega),hd3⟩
end
end
section
section
open Go.RowKit
open L (val dig nth)
theorem start1 (w:World) (t:TypeId) (a:Array Value):∃W0,W0=w.alloc (.cells a t)∧Blk W0 w.heap.size t a∧Below w.heap.size w W0∧W0.heap.size=w.heap.size+1:=
  ⟨_,rfl,Blk.new w t _,(Below.refl _ _).alloc (Nat.le_refl _) _,by simp⟩
def nM (z x:Int):Int:=pM (cM z x)
def nE (z x:Int):Int:=pE (cM z x) (cE z x)
theorem jcs (w:World) (n:Bool) (B:Nat) (v:Value) (l:List Nat) (x:Int) (h:Nums w B v l) (hl:l.length≤40000) (hx0 : -9223372036854775808≤x) (hx1:x≤9223372036854775807) :
    Calls Tryz.prog 91 #[.agg #[.bool n,v,.int .i64 x]] w fun e w'=>Below w.heap.size w w'∧RetQ w.heap.size (nM (ival n (val W l)) x) (nE (ival n (val W l)) x) e w':=by
  have h0:=h;obtain ⟨A,cap,rfl,-,-,-,hc⟩:=h;obtain ⟨W0,hW,hbx,hrs,hB0,hs⟩:=start2 w 52 52 #[.bool n,.slice A l.length cap,.int .i64 x] #[.bool false,.slice none 0 0,.int .i64 0];have h1:=h0.up hB0;have hs2:w.heap.size+1<W0.heap.size:=by omega
  clear hs hc;obtain ⟨z,HZ⟩:∃z,Hid (ival n (val W l)=z):=⟨_,hide rfl⟩;obtain ⟨c0,c1,c2,-,-,-⟩:=hbx.three
  go_enter Tryz.func91,Tryz.ntmps91
  go_upto_region 1 with (fail)
  rw [←hW];clear hW
  go_wp2_with fail
  refine (ja9 _ n B _ l x h1 (by omega) hx0 hx1).mono ?_;rintro e w1 ⟨hb1,m,u,d,rfl,hu,hdl,hdv⟩;rw [HZ.out] at hdv;obtain ⟨q,HQ⟩:∃q,Hid (cE (ival n (val W l)) x=q):=⟨_,hide rfl⟩;have hq:=jaw (ival n (val W l)) x;rw [HQ.out] at hq ⊢;have HDV:=hide hdv;have hrs1:=hrs.below hb1 (by omega);obtain ⟨A1,cap1,rfl⟩:=hu.form;clear hdv
  go_wp2_with fail
  refine (jdo _ m 0 _ d q hu (by omega) (by omega) (by omega)).mono ?_;rw [HDV.out];obtain ⟨zM,HM⟩:∃zM,Hid (pM (cM z x)=zM):=⟨_,hide rfl⟩;obtain ⟨zE,HE⟩:∃zE,Hid (pE (cM z x) q=zE):=⟨_,hide rfl⟩;rw [HM.out,HE.out];rintro e w2 ⟨hb2,u2,d2,rfl,hu2,hd2⟩;have hrs2:=hrs1.below hb2 (by have:=hb1.size;omega);obtain ⟨A2,cap2,rfl⟩:=hu2.form;obtain ⟨j0,j1,j2,j3,j4,j5⟩:=hrs2.three
  go_wp2_with fail
  have s1:=hb1.size;have s2:=hb2.size;have e1:nM (ival n (val W l)) x=zM:=by unfold nM;rw [HZ.out,HM.out]
  have e2:nE (ival n (val W l)) x=zE:=by unfold nE;rw [HQ.out,HZ.out,HE.out]
  rw [e1,e2];refine bodyPost_ret (jbk rfl _ _ _ _ _ _ _ rfl (((hrs2.set_ 0 _).set_ 1 _).set_ 2 _)) rfl ⟨below3 ((hB0.trans (hb1.mono (by omega))).trans (hb2.mono (by omega))) (by omega) _ _ _,?_⟩;exact ⟨_,d2,rfl,(jbw hu2 (by omega) _ _ _).mono (by omega),hd2⟩
theorem jdp (w:World) (n:Bool) (B:Nat) (v:Value) (l:List Nat) (x:Int) (h:Nums w B v l) (hl:l.length≤40000) (hx0 : -9223372036854775808≤x) (hx1:x≤9223372036854775807) :
    Calls Tryz.prog 44 #[.agg #[.bool n,v],.int .i64 x] w fun e w'=>Below w.heap.size w w'∧RetQ w.heap.size (nM (ival n (val W l)) x) (nE (ival n (val W l)) x) e w':=by
  have h0:=h;obtain ⟨A,cap,rfl,-,-,-,hc⟩:=h;obtain ⟨W0,hW,hbx,hrs,hB0,hs⟩:=start2 w 26 52 #[.bool n,.slice A l.length cap] #[.bool false,.slice none 0 0,.int .i64 0];have h1:=h0.up hB0;have hs2:w.heap.size+1<W0.heap.size:=by omega
  clear hs hc;obtain ⟨c0,c1,-,-⟩:=hbx.two
  go_enter Tryz.func44,Tryz.ntmps44
  go_upto_region 1 with (fail)
  rw [←hW];clear hW
  go_wp2_with fail
  refine (jcs _ n B _ l x h1 (by omega) hx0 hx1).mono ?_;obtain ⟨zM,HM⟩:∃zM,Hid (nM (ival n (val W l)) x=zM):=⟨_,hide rfl⟩;obtain ⟨zE,HE⟩:∃zE,Hid (nE (ival n (val W l)) x=zE):=⟨_,hide rfl⟩;rw [HM.out,HE.out];rintro e w2 ⟨hb2,u2,d2,rfl,hu2,hd2⟩;have hrs2:=hrs.below hb2 (by omega);obtain ⟨A2,cap2,rfl⟩:=hu2.form;obtain ⟨j0,j1,j2,j3,j4,j5⟩:=hrs2.three
  go_wp2_with fail
  have s2:=hb2.size;rw [HM.out,HE.out];refine bodyPost_ret (jbk rfl _ _ _ _ _ _ _ rfl (((hrs2.set_ 0 _).set_ 1 _).set_ 2 _)) rfl ⟨below3 (hB0.trans (hb2.mono (by omega))) (by omega) _ _ _,?_⟩;exact ⟨_,d2,rfl,(jbw hu2 (by omega) _ _ _).mono (by omega),hd2⟩
theorem jha (w:World) (n:Bool) (B:Nat) (v:Value) (l:List Nat) (x:Int) (h:Nums w B v l) (hl:l.length≤40000) (hx0 : -9223372036854775808≤x) (hx1:x≤9223372036854775807) :
    Calls Tryz.prog 104 #[.agg #[.bool n,v,.int .i64 x]] w fun e w'=>Below w.heap.size w w'∧e=.returned (.int .i64 (cM (ival n (val W l)) x).sign):=by
  have h0:=h;obtain ⟨A,cap,rfl,-,-,-,hc⟩:=h;obtain ⟨W0,hW,hbx,hB0,hs⟩:=start1 w 52 #[.bool n,.slice A l.length cap,.int .i64 x];have h1:=h0.up hB0;clear hc;obtain ⟨c0,c1,c2,-,-,-⟩:=hbx.three
  go_enter Tryz.func104,Tryz.ntmps104
  go_upto_region 1 with (fail)
  rw [←hW];clear hW
  go_wp2_with fail
  refine (ja9 _ n B _ l x h1 (by omega) hx0 hx1).mono ?_;rintro e w1 ⟨hb1,m,u,d,rfl,hu,hdl,hdv⟩;have HDV:=hide hdv;obtain ⟨A1,cap1,rfl⟩:=hu.form;obtain ⟨w2,hW2,hbn,hB2,hs2⟩:=start1 w1 26 #[.bool m,.slice A1 d.length cap1];clear hdv
  go_upto_region 2 with (fail)
  rw [←hW2];clear hW2;obtain ⟨e0,e1,-,-⟩:=hbn.two;have hu2:=hu.below hB2
  go_wp2_with fail
  obtain ⟨sg,HS⟩:∃sg,Hid ((cM (ival n (val W l)) x).sign=sg):=⟨_,hide rfl⟩;refine (jfs _ m 0 _ d sg (by rw [HDV.out,HS.out]) hu2 (by omega)).mono ?_;rintro e w3 ⟨hb3,rfl⟩;have s1:=hb1.size
  go_wp2_with fail
  go_ret
  exact ⟨((hB0.trans (hb1.mono (by omega))).trans (hB2.mono (by omega))).trans (hb3.mono (by omega)),jb0 HS.out.symm⟩
def lgN (z x:Int):Int:=if cM z x=0 then 0 else cE z x+nbits (cM z x).natAbs - 1
def lgOk (z x:Int):Bool:=decide (cM z x≠0)
theorem je0 (w:World) (n:Bool) (B:Nat) (v:Value) (l:List Nat) (x:Int) (h:Nums w B v l) (hl:l.length≤40000) (hx0 : -9223372036854775808≤x) (hx1:x≤9223372036854775807) :
    Calls Tryz.prog 109 #[.agg #[.bool n,v,.int .i64 x]] w fun e w'=>Below w.heap.size w w'∧
      e=.returned (.tuple #[.int .i64 (lgN (ival n (val W l)) x),.bool (lgOk (ival n (val W l)) x)]):=by
  have h0:=h;obtain ⟨A,cap,rfl,-,-,-,hc⟩:=h;obtain ⟨W0,hW,hbx,hB0,hs⟩:=start1 w 52 #[.bool n,.slice A l.length cap,.int .i64 x];have h1:=h0.up hB0;clear hc;obtain ⟨c0,c1,c2,-,-,-⟩:=hbx.three
  go_enter Tryz.func109,Tryz.ntmps109
  go_upto_region 1 with (fail)
  rw [←hW];clear hW
  go_wp2_with fail
  refine (ja9 _ n B _ l x h1 (by omega) hx0 hx1).mono ?_;rintro e w1 ⟨hb1,m,u,d,rfl,hu,hdl,hdv⟩;obtain ⟨q,HQ⟩:∃q,Hid (cE (ival n (val W l)) x=q):=⟨_,hide rfl⟩;have hq:=jaw (ival n (val W l)) x;obtain ⟨z,HZ⟩:∃z,Hid (cM (ival n (val W l)) x=z):=⟨_,hide rfl⟩;rw [HQ.out] at hq ⊢;rw [HZ.out] at hdv;have HDV:=hide hdv;obtain ⟨A1,cap1,rfl⟩:=hu.form;obtain ⟨w2,hW2,hbn,hB2,hs2⟩:=start1 w1 26 #[.bool m,.slice A1 d.length cap1];clear hdv
  go_upto_region 2 with (fail)
  rw [←hW2];clear hW2;obtain ⟨e0,e1,-,-⟩:=hbn.two;have hu2:=hu.below hB2
  go_wp2_with fail
  obtain ⟨N,HN⟩:∃N,Hid (val W d=N):=⟨_,hide rfl⟩;have hnz:z.natAbs=N:=by rw [←HDV.out,jbe,HN.out]
  have hnb:nbits N≤64*d.length:=by
    rw [jba,←HN.out,←je4];exact L.val_lt d hu.lt
  refine (jfr _ m 0 _ d hu2 (by omega)).mono ?_;rintro e w3 ⟨hb3,rfl⟩;rw [HN.out];have s1:=hb1.size;have HB:=hide (((hB0.trans (hb1.mono (by omega))).trans (hB2.mono (by omega))).trans (hb3.mono (by omega)))
  by_cases hz:z=0
  · have hN0:N=0:=by rw [←hnz,hz];rfl
    have hb0:nbits N=0:=by rw [hN0];exact jik
    rw [hb0]
    go_wp2_with fail
    go_ret2
    refine ⟨HB.out,?_⟩;rw [show lgN (ival n (val W l)) x=0 from by unfold lgN;rw [HZ.out,if_pos hz],show lgOk (ival n (val W l)) x=false from by unfold lgOk;rw [HZ.out];simp [hz]]
    rfl
  · have hb0:0<nbits N:=jbq (by omega)
    have hb1':((nbits N:Int) == 0)=false:=by rw [beq_eq_false_iff_ne];omega
    have hw1:IntKind.i64.wrap (q+(nbits N:Int))=q+(nbits N:Int):=IntWalk.i64_in _ (by omega);have hw2:IntKind.i64.wrap (q+(nbits N:Int) - 1)=q+(nbits N:Int) - 1:=IntWalk.i64_in _ (by omega)
    go_wp2_with fail
    go_ret2
    refine ⟨HB.out,?_⟩;rw [show lgN (ival n (val W l)) x=q+nbits N - 1 from by unfold lgN;rw [HZ.out,if_neg hz,hnz,HQ.out],show lgOk (ival n (val W l)) x=true from by unfold lgOk;rw [HZ.out];simp [hz]]
    rfl
end
end
end Go.Proofs.YtllgjggkchgpbaaGreat