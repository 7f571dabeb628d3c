/- hairlinelaw09: limbs. hairlinelaw08: cut, small. V: hairlinelaw08: small, at: their answers by names. V: hairlinelaw08.at: its answer by names; what it encloses. -/
import Derived.Test.YtcjklbakhlehhaaGreatRb2
import Derived.Test.YtcjklbakhlehhaaGreatVj
import Derived.Test.YtcjklbakhlehhaaGreatEvs
import Derived.Test.YtcjklbakhlehhaaGreatAo
import Derived.Deep.DeepCutAuto
set_option linter.unusedVariables false
set_option linter.unusedSimpArgs false
namespace Go.Proofs.YtcjklbakhlehhaaGreat
section
section
open Go.RowKit
open L (val dig nth)
theorem jk1 (l:List Nat) (hl:∀x∈l,x<W) (k:Nat):val W (l.take k)=val W l%W^k:=by
  by_cases hk:k≤l.length
  · have e:val W l=val W (l.take k)+W^k*val W (l.drop k):=by
      conv=>lhs;rw [←List.take_append_drop k l]
      rw [L.val_append,List.length_take,Nat.min_eq_left hk]
    have h1:=L.val_lt (l.take k) (fun x hx=>hl x (List.mem_of_mem_take hx));rw [List.length_take,Nat.min_eq_left hk] at h1;rw [e,Nat.add_mul_mod_self_left,Nat.mod_eq_of_lt h1]
  · have h1:=L.val_lt l hl
    rw [List.take_of_length_le (by omega),Nat.mod_eq_of_lt];exact Nat.lt_of_lt_of_le h1 (Nat.pow_le_pow_right ja5 (by omega))
theorem jsb (n:Bool) (a b:Nat):ival n (a%b)=(ival n a).tmod b:=by
  cases n
  · show ((a%b:Nat):Int)=(a:Int).tmod b
    rw [Int.tmod_eq_emod_of_nonneg (Int.natCast_nonneg _)]
    push_cast
    rfl
  · show -((a%b:Nat):Int)=(-(a:Int)).tmod b
    rw [Int.neg_tmod,Int.tmod_eq_emod_of_nonneg (Int.natCast_nonneg _)]
    push_cast
    rfl
namespace V
open Go.Shelf
def hugeK:Nat:=9223372036854775807
end V
end
end
section
section
open Go.RowKit Go.Shelf
open L (val dig nth)
set_option maxHeartbeats 1000000 in
set_option maxRecDepth 100000 in
theorem jmv (w:World) (n:Bool) (A:Option Addr) (len cap:Nat) (x:Int) (k:Nat) (L:List Nat) (h:Nums w 0 (.slice A len cap) L) (hk:k≤1000) :
    Calls Tryz.prog 31 #[.agg #[.bool n,.slice A len cap,.int .i64 x],.int .i64 k] w fun e w'=>Below w.heap.size w w'∧∃A' len' cap',e=.returned (.agg #[.bool n,.slice A' len' cap',.int .i64 x])∧Nums w' w.heap.size (.slice A' len' cap') (L.take k):=by
  have hlen:L.length=len:=by
    obtain ⟨A',cap',h1,-⟩:=h;injection h1 with _ h1 _
    exact h1.symm
  have hcl:len≤cap∧cap≤9223372036854775807:=by
    obtain ⟨A',cap',h1,h2,h3,-⟩:=h;injection h1 with _ e2 e3
    subst e3
    omega
  obtain ⟨W0,hW,hbx,hrs,hB0,hs⟩:=start2 w 26 26 #[.bool n,.slice A len cap,.int .i64 x] #[.bool false,.slice none 0 0,.int .i64 0];have h0:=h.up hB0;obtain ⟨c0,c1,c2,-,-,-⟩:=hbx.three;obtain ⟨d0,d1,d2,d3,d4,d5⟩:=hrs.three;have HS:=hide hs;have hs2:w.heap.size+1<W0.heap.size:=by omega
  clear hs
  go_enter Tryz.func31,Tryz.ntmps31
  go_upto_region 1 with (fail)
  rw [←hW];clear hW
  go_upto_if 12 with (fail)
  go_cut [5] (fun m wx=>W0=wx∧∃A' l' c',m=.slice A' l' c'∧Nums W0 0 (.slice A' l' c') (L.take k))
  case first=>
    by_cases hlt:(k:Int)<(len:Int)
    · have hk0:(0:Int)≤(k:Int):=by omega
      have hkc:(k:Int)≤(cap:Int):=by omega
      have HN:=hide (Nums.first (l:=L) (n:=k) (by rw [hlen];exact h0) (by omega));clear hlen
      go_wp2_with fail
      go_meet
      exact ⟨rfl,_,_,_,rfl,HN.out⟩
    · have HN:=hide (show Nums W0 0 (.slice A len cap) (L.take k) from by rw [List.take_of_length_le (by omega)];exact h0)
      clear hlen
      go_wp2_with fail
      go_meet
      exact ⟨rfl,_,_,_,rfl,HN.out⟩
  case rest=>
    obtain ⟨rfl,A',l',c',rfl,hm⟩:=hcut;have hml:(L.take k).length≤k:=by simp;omega
    obtain ⟨M,HM⟩:∃M,Hid (L.take k=M):=⟨_,hide rfl⟩;rw [HM.out] at hm hml;clear hlen
    go_upto_region 4 with (fail)
    go_region_held3 (fun w'=>w'.cell? ⟨w.heap.size,0,none⟩=some (.bool n)∧w'.cell? ⟨w.heap.size,2,none⟩=some (.int .i64 x)) (go_keep)
      ((refine jk9 _ (by rfl) _ _ (by rfl) W0.heap.size _ [] (by rfl) (OwnU.empty W0.drew (Nat.le_refl _)) 0 _ M (by rfl) ((hm.drew).alloc _) (by have:=hml;simp only [List.length_nil];omega) (by simp) ?_
        intro v' w' hown hgrow;have hB1:Below W0.heap.size W0 w':=Below.grown (B:=W0.heap.size) (((Below.refl _ _).drew).alloc (Nat.le_refl _) _) hgrow (by simp) (by intro j hj;simp only [Value.ownBlock,Option.some.injEq] at hj;exact Nat.le_of_eq hj);obtain ⟨Ao,co,hvo⟩:=hown.form;rw [hvo] at hown ⊢;have hbx1:=hbx.below hB1 (by omega);have hrs1:=hrs.below hB1 (by omega);obtain ⟨i0,i1,i2,-,-,-⟩:=hbx1.three;obtain ⟨j0,j1,j2,j3,j4,j5⟩:=hrs1.three))
    go_wp2_with fail
    refine bodyPost_ret (ja3 rfl _ _ _ _ _ _ _ rfl (((hrs1.set_ 0 _).set_ 1 _).set_ 2 _)) rfl ⟨below3 (hB0.trans (hB1.mono hB0.size)) (by omega) _ _ _,?_⟩;refine ⟨Ao,M.length,co,rfl,?_⟩;rw [HM.out];have hn:=OwnU.nums hown (by rw [List.nil_append];exact hm.lt);exact (jbx hn hs2 _ _ _).mono hB0.size
namespace V
section
variable (h:Nat→List Int→Int)
def rawD:A:=.one (.ag [.z hugeK false (.v 0),.i .i64 (.v 1)])
def cutS (f:FuncId) (m:Nat):Spec:=dsp f [rawD,i64 (.n m)] 2 [] (dA m false (ap2 7 (.v 0) (.n ((W^m:Nat):Int))) (.v 1))
theorem cutOK (m:Nat) (hm:m≤1000):SpecOK Tryz.prog (FD h) (cutS 31 m):=by
  intro ρ β w vs ha _ _;obtain ⟨v,u,rfl,hv,hu⟩:=args2 ha;obtain ⟨n,A,l,c,rfl,hq⟩:=jfa (k:=hugeK) (c:=false) (m:=.v 0) (x:=.v 1) hv;rw [ji6 hu];obtain ⟨d,h1,h2,h3⟩:=hq;refine ⟨trivial,(jmv w n A l c (ρ 1) m d h1 hm).mono fun e w' ⟨k1,A',l',c',k2,k3⟩=>⟨k1,_,k2,?_⟩⟩;refine ⟨[.bool n,.slice A' l' c',.int .i64 (ρ 1)],rfl,_,[.int .i64 (ρ 1)],rfl,⟨n,A',l',c',rfl,⟨d.take m,k3.mono (Nat.zero_le _),by simp;omega,?_⟩,fun hh=>by cases hh⟩,_,[],rfl,rfl,rfl⟩
  show ival n (val W (d.take m))=(ρ 0).tmod ((W^m:Nat):Int)
  rw [jk1 d h1.lt,jsb,h3]
  rfl
end
end V
end
end
section
section
open Go.RowKit Go.Shelf
namespace An
def sm2 (z:Int):Int:=z.tmod ((W^2:Nat):Int)
def smX (z:Int):Int:=3 - (nbits (sm2 z).natAbs:Nat)
def smM (z:Int):Int:=nM (sm2 z) (smX z)
def smE (z:Int):Int:=nE (sm2 z) (smX z)
def shLo (f z x q:Int):Int:=if atK f z x q<0 then atLo f z x q / 2^(-(atK f z x q)).toNat else atLo f z x q*2^(atK f z x q).toNat
def shHi (f z x q:Int):Int:=if atK f z x q<0 then 0 - (0 - atHi f z x q) / 2^(-(atK f z x q)).toNat else atHi f z x q*2^(atK f z x q).toNat
def hS (h:Nat→List Int→Int):Nat→List Int→Int
  | 0,[z]=>smM z
  | 1,[z]=>smE z
  | 2,[f,z,x,q]=>shLo f z x q
  | 3,[f,z,x,q]=>shHi f z x q
  | n,l=>if n<8 then 0 else h (n - 8) l
end An
namespace V
section
variable (h:Nat→List Int→Int)
abbrev FS:Nat→List Int→Int:=FA (An.hS h)
abbrev hB:Nat→List Int→Int:=An.hA (An.hS h)
def z2T:T:=ap2 7 (.v 0) (.n ((W^2:Nat):Int))
def smR (a b:T):A:=dA 200 true a b
noncomputable def sm1:List (Ctr Tryz.prog (FS h)):=Ctr.lem (jae (by kernel_rfl)) (cutOK (hB h) 2 (by decide))::dy1 (hB h)
def smS (f:FuncId):Spec:=dsp f [rawD] 2 [] (smR (ap1 88 (.v 0)) (ap1 89 (.v 0)))
def smF1:List T:=[.le (.n 1) (ap1 6 z2T)]
def smF0:List T:=[.eq (ap1 6 z2T) (.n 0)]
theorem smX1:in12 (inlX (sm1 h) 9 smF1 [] [rawD])=some ([],smR (ap2 56 z2T (.sub (.n 3) (ap1 6 z2T))) (ap2 57 z2T (.sub (.n 3) (ap1 6 z2T)))):=by kernel_rfl
end
end V
end
end
section
section
open Go.RowKit Go.Shelf
namespace An
def valF (c:Int) (z x:Int) (m:Nat):Rat:=if c=0 then En m (xQ z x) else if c=1 then En m (xQ z x*lnn m) else if c=2 then logF (zQ z x) (gE z x) m else if c=3 then log2F (zQ z x) (gE z x) m else if c=4 then Sn m (xQ z x) else Cn m (xQ z x)
structure Base (c z x q:Int):Prop where
  c0:0≤c
  c5:c≤5
  q0:0≤q
  q1:q≤800
  e0 : -1200≤nE z x
  e1:nE z x≤4000
  ex:¬(c=2∨c=3)→Bd 1024 (xQ z x)
  lp:(c=2∨c=3)→0<xV z x
  l0:(c=2∨c=3)→-1100≤gE z x
  l1:(c=2∨c=3)→gE z x≤1100
theorem cut40 (q a:Int):cutL q a=a / 2^40∧cutH q a=0 - (0 - a) / 2^40:=by
  unfold cutL cutH;rw [show (q+40 - q).toNat=40 by omega];exact ⟨rfl,rfl⟩
theorem xQ_y (z x:Int):xQ z x=if decide (xV z x<0) then -(yQ z x) else yQ z x:=by
  unfold yQ
  by_cases c:xV z x<0
  · rw [if_pos c,if_pos (decide_eq_true c)];grind
  · rw [if_neg c,if_neg (by simpa using c)]
theorem tells_at {c z x q:Int} (B:Base c z x q):Tells (valF c z x) (atLo c z x q) (atHi c z x q) (atK c z x q) q:=by
  have q0:=B.q0;have q1:=B.q1;have c0:=B.c0;have c5:=B.c5;have hc:c=0∨c=1∨c=2∨c=3∨c=4∨c=5:=by omega
  unfold atLo atHi atK;rw [(cut40 q _).1,(cut40 q _).2]
  rcases hc with rfl | rfl | rfl | rfl | rfl | rfl
  · have hb:=B.ex (by omega)
    obtain ⟨h1,h2,h3,h4⟩:=xL_ok (z:=z) (x:=x) q0 q1;exact jrf q0 q1 hb h1 h2 (e_red q0 q1 hb) rfl
  · have hb:=B.ex (by omega)
    obtain ⟨h1,h2,-,R⟩:=t_two q0 q1 hb;exact jrj (n:=tK z x) q0 q1 hb h1 h2 R rfl
  · have G:=g_ok q0 q1 B.e0 B.e1 (B.lp (by omega)) (B.l0 (by omega)) (B.l1 (by omega))
    have l0:=B.l0 (by omega);have l1:=B.l1 (by omega);exact jrk q0 q1 (by omega) (by omega) G.ok G.lo G.hi (zQ_ok G.x1) rfl
  · have G:=g_ok q0 q1 B.e0 B.e1 (B.lp (by omega)) (B.l0 (by omega)) (B.l1 (by omega))
    have x2:=G.x2;exact (log2_tells (e:=gE z x) q0 q1 G.ok G.x1 (by grind) G.lo G.hi (zQ_ok G.x1) rfl (sl:=sL z x q) (sh:=sH z x q) rfl rfl).2
  · have hb:=B.ex (by omega)
    have W:=w_ok q0 q1 hb;exact jir 0 (by omega) (decide (xV z x<0)) (xQ_y z x) q0 q1 W.y0 W.y1 W.l0 W.lo W.hi W.le W.l1 (k:=wK z x q) rfl rfl (tl:=wT z x q) (th:=wH z x q - hLoZ (q+40)*wK z x q) rfl rfl (wOdd 0 z x q) (wFl 0 z x q) rfl rfl (lo:=wLo 0 z x q) (hi:=wHi 0 z x q) rfl rfl
  · have hb:=B.ex (by omega)
    have W:=w_ok q0 q1 hb;exact jir 1 (by omega) (decide (xV z x<0)) (xQ_y z x) q0 q1 W.y0 W.y1 W.l0 W.lo W.hi W.le W.l1 (k:=wK z x q) rfl rfl (tl:=wT z x q) (th:=wH z x q - hLoZ (q+40)*wK z x q) rfl rfl (wOdd 1 z x q) (wFl 1 z x q) rfl rfl (lo:=wLo 1 z x q) (hi:=wHi 1 z x q) rfl rfl
theorem Tells.le {F:Nat→Rat} {lo hi k q:Int} (h:Tells F lo hi k q):lo≤hi:=by
  obtain ⟨N,hN⟩:=h 1 (by grind);obtain ⟨v,n,-⟩:=hN N (Nat.le_refl _);exact rat_le (Rat.le_trans n.1 n.2.1)
theorem k_in {c z x q:Int} (B:Base c z x q) : -1600≤atK c z x q∧atK c z x q≤1600∧(2≤c→atK c z x q=0):=by
  have q0:=B.q0;have q1:=B.q1;unfold atK
  by_cases h0:c=0
  · have R:=e_red q0 q1 (B.ex (by omega))
    have:=R.k0;have:=R.k1;rw [if_pos h0]
    omega
  · rw [if_neg h0]
    by_cases h1:c=1
    · obtain ⟨k0,k1,-,-⟩:=tK_ok (B.ex (by omega))
      rw [if_pos h1]
      omega
    · rw [if_neg h1]
      omega
def Encl (F:Nat→Rat) (lo hi q:Int):Prop:=Lim fun m ε=>∃u:Rat,(lo:Rat)≤u*DD q∧u*DD q≤(hi:Rat)∧Bd ε (u - F m)
theorem Encl.le {F:Nat→Rat} {lo hi q:Int} (h:Encl F lo hi q):lo≤hi:=by
  obtain ⟨N,hN⟩:=h 1 (by grind);obtain ⟨v,n1,n2,-⟩:=hN N (Nat.le_refl _);exact rat_le (Rat.le_trans n1 n2)
theorem jsc {a k:Int} (hk:k<0):((a / 2^(-k).toNat:Int):Rat)≤(a:Rat)*two k:=by
  have f:=(fl (n:=a) (d:=2^(-k).toNat) (Int.pow_pos (by omega))).1;have e:(((2:Int)^(-k).toNat:Int):Rat)=two (-k):=(two_DD (by omega)).symm;rw [e] at f;have i:=two_inv' k;have p:=two_pos k;have m:=Rat.mul_le_mul_of_nonneg_right f (Rat.le_of_lt p);have e2:((a / 2^(-k).toNat:Int):Rat)*two (-k)*two k=((a / 2^(-k).toNat:Int):Rat):=by grind
  rw [e2] at m;exact m
theorem Tells.sh {F:Nat→Rat} {lo hi k q:Int} (h:Tells F lo hi k q):Encl F (if k<0 then lo / 2^(-k).toNat else lo*2^k.toNat) (if k<0 then 0 - (0 - hi) / 2^(-k).toNat else hi*2^k.toNat) q:=by
  refine Lim.mono h fun m ε he ⟨v,n,b⟩=>⟨v*two k,?_,?_,b⟩
  · have p:=two_pos k
    have m1:=Rat.mul_le_mul_of_nonneg_right n.1 (Rat.le_of_lt p)
    by_cases c:k<0
    · rw [if_pos c]
      have:=jsc (a:=lo) c
      grind
    · rw [if_neg c,jcm (by omega)]
      grind
  · have p:=two_pos k
    have m1:=Rat.mul_le_mul_of_nonneg_right n.2.1 (Rat.le_of_lt p)
    by_cases c:k<0
    · rw [if_pos c]
      have:=jsc (a:=0 - hi) c;have e:((0 - (0 - hi) / 2^(-k).toNat:Int):Rat) = -(((0 - hi) / 2^(-k).toNat:Int):Rat):=by rw [Rat.intCast_sub];show (0:Rat) - _=_;grind
      have e2:((0 - hi:Int):Rat) = -(hi:Rat):=by rw [Rat.intCast_sub];show (0:Rat) - _=_;grind
      rw [e];rw [e2] at this
      grind
    · rw [if_neg c,jcm (by omega)]
      grind
theorem encl_at {c z x q:Int} (B:Base c z x q):Encl (valF c z x) (shLo c z x q) (shHi c z x q) q:=(tells_at B).sh
theorem Encl.meet {F G:Nat→Rat} {lo hi p lo' hi' q:Int} (h:Encl F lo hi p) (g:Encl G lo' hi' q) (fg:Lim fun m ε=>Bd ε (F m - G m)) (p0:0≤p) (q0:0≤q):lo*2^q.toNat≤hi'*2^p.toNat:=by
  have dp:=DD_pos p;have dq:=DD_pos q;have pq:=Rat.mul_pos dp dq;refine rat_le ?_;rw [Rat.intCast_mul,Rat.intCast_mul]
  show (lo:Rat)*DD q≤(hi':Rat)*DD p
  refine Lim.le (K:=3*(DD p*DD q)) (by grind) ?_;refine ((h.and g).and fg).mono fun m ε he ⟨⟨⟨u,u1,u2,u3⟩,⟨v,v1,v2,v3⟩⟩,f⟩=>?_
  have m1:=Rat.mul_le_mul_of_nonneg_right u1 (Rat.le_of_lt dq);have m2:=Rat.mul_le_mul_of_nonneg_right v2 (Rat.le_of_lt dp);have m3:=Rat.mul_le_mul_of_nonneg_right (show u≤v+3*ε by unfold Bd at *;grind) (Rat.le_of_lt pq)
  grind
end An
namespace V
section
variable (h:Nat→List Int→Int)
noncomputable def atTab:List (Ctr Tryz.prog (FS h)):=
  Ctr.lem (jae (by kernel_rfl)) (at0 (An.hS h))::Ctr.lem (jae (by kernel_rfl)) (at1 (An.hS h))::Ctr.lem (jae (by kernel_rfl)) (at2 (An.hS h))::Ctr.lem (jae (by kernel_rfl)) (at3 (An.hS h))::Ctr.lem (jae (by kernel_rfl)) (at4 (An.hS h))::Ctr.lem (jae (by kernel_rfl)) (at5 (An.hS h))::dy1 (hB h)
def nmL (c:Int):T:=ap4' 80 (.n c) (.v 0) (.v 1) (.v 2)
def nmH (c:Int):T:=ap4' 81 (.n c) (.v 0) (.v 1) (.v 2)
def nmK (c:Int):T:=ap4' 82 (.n c) (.v 0) (.v 1) (.v 2)
def bsF (c:Int):List T:=if c=2 then lgB else if c=3 then lgB else [may9] ++ aF
def shF (c:Int):List T:=[rightL (nmL c) (nmH c),.le (.n (-1600)) (nmK c),.le (nmK c) (.n 1600)] ++ bsF c
def shRP (c:Int):A:=.tup [.ag [.z 1026 true (.mul (nmL c) (ap1 0 (.sub (.n 0) (.sub (.n 0) (nmK c))))),.z 1026 true (.sub (.n 0) (.mul (.sub (.n 0) (nmH c)) (ap1 0 (.sub (.n 0) (.sub (.n 0) (nmK c)))))),.i .i64 (.v 2)],.sc (.b (.eq (.n 0) (.n 0)))]
def shRN (c:Int):A:=.tup [.ag [.z 1000 true (ap2 1 (nmL c) (ap1 0 (.sub (.n 0) (nmK c)))),.z 1000 true (.sub (.n 0) (ap2 1 (.sub (.n 0) (nmH c)) (ap1 0 (.sub (.n 0) (nmK c))))),.i .i64 (.v 2)],.sc (.b (.eq (.n 0) (.n 0)))]
theorem shP (c:Int) (hc:c=0∨c=1∨c=2∨c=3∨c=4∨c=5):in12 (inlX (atTab h) 12 (.le (.n 0) (nmK c)::shF c) [] [i64 (.n c),d0,i64 (.v 2)])=some ([],shRP c):=by
  rcases hc with rfl | rfl | rfl | rfl | rfl | rfl <;> kernel_rfl
theorem shN (c:Int) (hc:c=0∨c=1):in12 (inlX (atTab h) 12 (.lt (nmK c) (.n 0)::shF c) [] [i64 (.n c),d0,i64 (.v 2)])=some ([],shRN c):=by
  rcases hc with rfl | rfl <;> kernel_rfl
theorem jy7 {ρ:Nat→Int} {c:Int} (hc:c=0∨c=1∨c=2∨c=3∨c=4∨c=5) (hf:allT (FS h) ρ (bsF c)):An.Base c (ρ 0) (ρ 1) (ρ 2):=by
  by_cases c2:c=2∨c=3
  · have hf:allT (FS h) ρ lgB:=by
      unfold bsF at hf
      rcases c2 with rfl | rfl
      · exact hf
      · exact hf
    obtain ⟨b1,b2,b3⟩:=jma (An.hS h) hf;obtain ⟨-,q0,q1,e0,e1⟩:=jd0 (An.hS h) (jab hf);exact ⟨by omega,by omega,q0,q1,e0,e1,fun k=>absurd c2 k,fun _=>b1,fun _=>b2,fun _=>b3⟩
  · have hf:allT (FS h) ρ ([may9] ++ aF):=by
      unfold bsF at hf;rw [if_neg (by omega),if_neg (by omega)] at hf;exact hf
    have hb:=jg5 (An.hS h) hf;obtain ⟨-,q0,q1,e0,e1⟩:=jd0 (An.hS h) (jab hf);exact ⟨by omega,by omega,q0,q1,e0,e1,fun _=>hb,fun k=>absurd k c2,fun k=>absurd k c2,fun k=>absurd k c2⟩
def at8N (c:Int):A:=.tup [.ag [.z 1100 true (ap4' 90 (.n c) (.v 0) (.v 1) (.v 2)),.z 1100 true (ap4' 91 (.n c) (.v 0) (.v 1) (.v 2)),.i .i64 (.v 2)],.sc (.b (.n 1))]
def at8S (f:FuncId) (c:Int) (fs:List T):Spec:=dsp f [i64 (.n c),d0,i64 (.v 2)] 3 fs (at8N c)
theorem den80' {ρ:Nat→Int} (c:Int):(nmL c).den (FS h) ρ=An.atLo c (ρ 0) (ρ 1) (ρ 2)∧(nmH c).den (FS h) ρ=An.atHi c (ρ 0) (ρ 1) (ρ 2)∧(nmK c).den (FS h) ρ=An.atK c (ρ 0) (ρ 1) (ρ 2):=⟨den80 (An.hS h) c,den81 (An.hS h) c,den82 (An.hS h) c⟩
theorem jw3 {F:Nat→List Int→Int} {ρ:Nat→Int} {k:Nat} {x y a b:T} {g:T} (hk:k≤1100) (h1:x.den F ρ=a.den F ρ) (h2:y.den F ρ=b.den F ρ) (h3:g.bd F ρ=true) :
    eqA F ρ (.tup [.ag [.z k true x,.z k true y,.i .i64 (.v 2)],.sc (.b g)]) (.tup [.ag [.z 1100 true a,.z 1100 true b,.i .i64 (.v 2)],.sc (.b (.n 1))]):=by
  refine ⟨?_,?_,trivial⟩
  · refine ⟨⟨hk,rfl,h1⟩,⟨hk,rfl,h2⟩,?_⟩
    exact ⟨⟨rfl,rfl⟩,trivial⟩
  · show g.bd F ρ=(T.n 1).bd F ρ
    rw [h3];rfl
theorem at8 (c:Int) (hc:c=0∨c=1∨c=2∨c=3∨c=4∨c=5):SpecOK Tryz.prog (FS h) (at8S 12 c (bsF c)):=by
  intro ρ β w vs ha hb hf;have B:=jy7 h hc hf;have TT:=An.tells_at B;obtain ⟨k0,k1,k2⟩:=An.k_in B;obtain ⟨d1,d2,d3⟩:=den80' h c (ρ:=ρ);have hs:allT (FS h) ρ (shF c):=jaa ⟨jad (by rw [d1,d2];exact TT.le),jaf (by rw [d3];exact k0),jaf (by rw [d3];exact k1),trivial⟩ hf;have he:Enters Tryz.prog 12:=jae (f:=12) (by kernel_rfl);have z00:∀ρ:Nat→Int,(T.eq (.n 0) (.n 0)).bd (FS h) ρ=true:=fun ρ=>rfl
  by_cases hk:An.atK c (ρ 0) (ρ 1) (ρ 2)<0
  · have c1:c=0∨c=1:=by
      rcases hc with h | h | h | h | h | h
      · exact .inl h
      · exact .inr h
      all_goals (have:=k2 (by omega);omega)
    have hr:∀ρ,allT (FS h) ρ (at8S 12 c (.lt (nmK c) (.n 0)::shF c)).fs→eqA (FS h) ρ (shRN c) (at8S 12 c (.lt (nmK c) (.n 0)::shF c)).res:=fun ρ hf=>by
      obtain ⟨d1,d2,d3⟩:=den80' h c (ρ:=ρ);have hk:An.atK c (ρ 0) (ρ 1) (ρ 2)<0:=by rw [←d3];exact jca hf.1
      refine jw3 (by omega) ?_ ?_ (z00 ρ)
      · show (nmL c).den (FS h) ρ / 2^(0 - (nmK c).den (FS h) ρ).toNat=An.shLo c (ρ 0) (ρ 1) (ρ 2)
        rw [d1,d3];unfold An.shLo;rw [if_pos hk,Int.zero_sub]
      · show 0 - (0 - (nmH c).den (FS h) ρ) / 2^(0 - (nmK c).den (FS h) ρ).toNat=An.shHi c (ρ 0) (ρ 1) (ρ 2)
        rw [d2,d3];unfold An.shHi;rw [if_pos hk,Int.zero_sub (An.atK _ _ _ _)]
    exact ja0 (tab:=atTab h) (sp:=at8S 12 c (.lt (nmK c) (.n 0)::shF c)) (res:=shRN c) follows_any he (shN h c c1) rfl hr ha hb ⟨jcg (by rw [d3];exact hk),hs⟩
  · have hr:∀ρ,allT (FS h) ρ (at8S 12 c (.le (.n 0) (nmK c)::shF c)).fs→eqA (FS h) ρ (shRP c) (at8S 12 c (.le (.n 0) (nmK c)::shF c)).res:=fun ρ hf=>by
      obtain ⟨d1,d2,d3⟩:=den80' h c (ρ:=ρ);have hk:0≤An.atK c (ρ 0) (ρ 1) (ρ 2):=by rw [←d3];exact jac hf.1
      refine jw3 (by omega) ?_ ?_ (z00 ρ)
      · show (nmL c).den (FS h) ρ*2^(0 - (0 - (nmK c).den (FS h) ρ)).toNat=An.shLo c (ρ 0) (ρ 1) (ρ 2)
        rw [d1,d3];unfold An.shLo;rw [if_neg (by omega),show 0 - (0 - An.atK c (ρ 0) (ρ 1) (ρ 2))=An.atK c (ρ 0) (ρ 1) (ρ 2) by omega]
      · show 0 - (0 - (nmH c).den (FS h) ρ)*2^(0 - (0 - (nmK c).den (FS h) ρ)).toNat=An.shHi c (ρ 0) (ρ 1) (ρ 2)
        rw [d2,d3];unfold An.shHi;rw [if_neg (by omega),show 0 - (0 - An.atK c (ρ 0) (ρ 1) (ρ 2))=An.atK c (ρ 0) (ρ 1) (ρ 2) by omega,Int.sub_mul,Int.zero_mul]
        omega
    exact ja0 (tab:=atTab h) (sp:=at8S 12 c (.le (.n 0) (nmK c)::shF c)) (res:=shRP c) follows_any he (shP h c hc) rfl hr ha hb ⟨jaf (show (0:Int)≤(nmK c).den (FS h) ρ by rw [d3];omega),hs⟩
end
end V
end
end
end Go.Proofs.YtcjklbakhlehhaaGreat