/- V: the contracts of the constants. zed.Small, of a small one. -/
import Derived.Test.YtllgjggkchgpbaaGreatCn
import Derived.Test.YtllgjggkchgpbaaGreatEvs
set_option linter.unusedVariables false
set_option linter.unusedSimpArgs false
namespace Go.Proofs.YtllgjggkchgpbaaGreat
section
section
open Go.RowKit Go.Shelf
def lnLoZ (q:Int):Int:=atanhLo (1*2^(q+16).toNat / 3) (q+16) ((q+16) / 3+2).toNat*2 / 2^(q+16 - q).toNat
def lnHiZ (q:Int):Int:=0 - (0 - atanhHi (1*2^(q+16).toNat / 3+1) (q+16) ((q+16) / 3+2).toNat*2) / 2^(q+16 - q).toNat
def atLoZ (c q:Int):Int:=atanLo (1*2^(q+16).toNat / c) (q+16) ((q+16) / 9+2).toNat
def atHiZ (c q:Int):Int:=atanHi (1*2^(q+16).toNat / c+1) (q+16) ((q+16) / 9+2).toNat
def piLoZ (q:Int):Int:=(atLoZ 5 q*16+(0 - atHiZ 239 q*4)) / 2^(q+16 - q).toNat
def piHiZ (q:Int):Int:=0 - (0 - (atHiZ 5 q*16+(0 - atLoZ 239 q*4))) / 2^(q+16 - q).toNat
section
variable (q:Nat)
theorem jin (c:Nat):(1:Int)*2^((q:Int)+16).toNat / c=((2^(q+16) / c:Nat):Int):=by
  rw [Int.one_mul,show ((q:Int)+16).toNat=q+16 by omega]
  push_cast
  rfl
theorem jvu:((q:Int)+16)=((q+16:Nat):Int):=by omega
theorem jxw:(((q:Int)+16) / 3+2).toNat=(q+16) / 3+2:=by omega
theorem jxx:(((q:Int)+16) / 9+2).toNat=(q+16) / 9+2:=by omega
theorem s16:(2:Int)^((q:Int)+16 - q).toNat=65536:=by rw [show ((q:Int)+16 - q).toNat=16 by omega];rfl
theorem jxy:atanhLo (1*2^((q:Int)+16).toNat / 3) (q+16) (((q:Int)+16) / 3+2).toNat=(Co.lnLo (q+16):Int):=by
  have e:=jin q 3;rw [show ((3:Nat):Int)=3 from rfl] at e;rw [e,jxw,jvu,Co.atanhLo_nat]
  rfl
theorem jxz:atanhHi (1*2^((q:Int)+16).toNat / 3+1) (q+16) (((q:Int)+16) / 3+2).toNat=(Co.lnHi (q+16):Int):=by
  have e:=jin q 3;rw [show ((3:Nat):Int)=3 from rfl] at e;rw [e,jxw,jvu,show ((2^(q+16) / 3:Nat):Int)+1=((2^(q+16) / 3+1:Nat):Int) by push_cast;rfl,Co.atanhHi_nat]
  rfl
theorem j26 (c:Nat):atLoZ c q=(Co.atLoP (2^(q+16) / c) (q+16) ((q+16) / 9+2):Int) - (Co.atLoN (2^(q+16) / c) (q+16) ((q+16) / 9+2):Int):=by
  unfold atLoZ;rw [jin,jxx,jvu,Co.atanLo_nat]
theorem j27 (c:Nat):atHiZ c q=(Co.atHiP (2^(q+16) / c+1) (q+16) ((q+16) / 9+2):Int) - (Co.atHiN (2^(q+16) / c+1) (q+16) ((q+16) / 9+2):Int):=by
  unfold atHiZ;rw [jin,jxx,jvu,show ((2^(q+16) / c:Nat):Int)+1=((2^(q+16) / c+1:Nat):Int) by push_cast;rfl,Co.atanHi_nat]
theorem j4o (hq:q≤900):atanhLo (1*2^((q:Int)+16).toNat / 3) (q+16) (((q:Int)+16) / 3+2).toNat≤atanhHi (1*2^((q:Int)+16).toNat / 3+1) (q+16) (((q:Int)+16) / 3+2).toNat:=by
  rw [jxy,jxz];exact Int.ofNat_le.2 (Nat.le_of_ble_eq_true (Co.allB_ok Co.ln_all q (by omega)))
theorem j28 {c:Nat} (h:Co.atOK c q=true):atLoZ c q≤atHiZ c q:=by
  rw [j26,j27];have:=Nat.le_of_ble_eq_true (show Nat.ble (Co.atLoP (2^(q+16) / c) (q+16) ((q+16) / 9+2)+Co.atHiN (2^(q+16) / c+1) (q+16) ((q+16) / 9+2)) (Co.atHiP (2^(q+16) / c+1) (q+16) ((q+16) / 9+2)+Co.atLoN (2^(q+16) / c) (q+16) ((q+16) / 9+2))=true from h)
  omega
theorem j29 (hq:q≤900):atLoZ 5 q≤atHiZ 5 q:=j28 q (Co.allB_ok Co.at5_all q (by omega))
theorem jvv (hq:q≤900):atLoZ 239 q≤atHiZ 239 q:=j28 q (Co.allB_ok Co.at239_all q (by omega))
theorem j3a:65536≤2^(q+16):=by
  rw [Nat.pow_add,show 2^16=65536 from rfl];have:=Nat.pow_pos (n:=q) (show 0<2 by omega)
  omega
theorem js2 {c:Nat} (hc:3≤c):((1:Int)*2^((q:Int)+16).toNat / c+1)*2≤1*2^((q:Int)+16).toNat:=by
  rw [jin,show ((q:Int)+16).toNat=q+16 by omega,Int.one_mul];have h1:=j3a q;have h2:2^(q+16) / c≤2^(q+16) / 3:=Nat.div_le_div_left hc (by omega)
  have h3:(2^(q+16) / c+1)*2≤2^(q+16):=by
    generalize 2^(q+16) / c=a at *
    generalize 2^(q+16)=b at *
    omega
  exact_mod_cast h3
theorem js3 (c:Nat):0≤(1:Int)*2^((q:Int)+16).toNat / c:=by rw [jin];exact Int.natCast_nonneg _
end
namespace V
def hC (h:Nat→List Int→Int):Nat→List Int→Int
  | 0,[q]=>lnLoZ q
  | 1,[q]=>lnHiZ q
  | 2,[q]=>piLoZ q
  | 3,[q]=>piHiZ q
  | n,l=>if n<8 then 0 else h (n - 8) l
section
variable {F:Nat→List Int→Int} {ρ:Nat→Int} {g:Nat→List Int→Int}
theorem jae {a b:T} (h:a.den (stdF g) ρ≤b.den (stdF g) ρ):(rightL a b).bd (stdF g) ρ=true:=
  jad (show cmpZ (a.den (stdF g) ρ) (b.den (stdF g) ρ)≤0 from (jce _ _).2 h)
theorem jx0 {t:T} (h0:0≤t.den (stdF g) ρ) (h:t.den (stdF g) ρ*2≤1*2^(ρ 0+16).toNat):allT (stdF g) ρ (mayL t):=
  ⟨jad (show 0≤(t.den (stdF g) ρ).sign from Int.sign_nonneg_iff.2 h0),jad (show cmpZ (t.den (stdF g) ρ*2^(1:Int).toNat) (1*2^(ρ 0+16).toNat)≤0 from (jce _ _).2 h),trivial⟩
end
def q0F:List T:=[.le (.n 0) (.v 0),.le (.v 0) (.n 900)]
theorem jz7 {F:Nat→List Int→Int} {ρ:Nat→Int} (h:allT F ρ q0F):∃q:Nat,ρ 0=q∧q≤900:=by
  have h1:0≤ρ 0:=jaa h.1;have h2:ρ 0≤900:=jaa h.2.1;exact ⟨(ρ 0).toNat,by omega,by omega⟩
theorem js4 {ρ:Nat→Int} {g:Nat→List Int→Int} {q c:Nat} (e:ρ 0=q) (hc:3≤c):allT (stdF g) ρ (mayL (dnT c) ++ mayL (.add (dnT c) (.n 1))):=by
  have d:(dnT c).den (stdF g) ρ=1*2^((q:Int)+16).toNat / c:=by
    show (1:Int)*2^(ρ 0+16).toNat / (c:Int)=_
    rw [e]
  have h1:=js3 q c;have h2:=js2 q hc;refine jac (jx0 ?_ ?_) (jx0 ?_ ?_)
  · rw [d];exact h1
  · rw [d,e];omega
  · rw [jd7,d,jc7];omega
  · rw [jd7,d,jc7,e];exact h2
def lnL2:List T:=lnL ++ [rightL (ap1 48 (.v 0)) (ap1 49 (.v 0))]
def piL2:List T:=piL ++ [rightL (ap1 50 (.v 0)) (ap1 51 (.v 0))]
theorem j3b (h:Nat→List Int→Int) (ρ:Nat→Int) (hp:allT (stdF (gR (hC h))) ρ q0F):allT (stdF (gR (hC h))) ρ lnL2:=by
  obtain ⟨q,e,hq⟩:=jz7 hp
  have hle:lnLoT.den (stdF (gR (hC h))) ρ≤lnHiT.den (stdF (gR (hC h))) ρ:=by
    show atanhLo (1*2^(ρ 0+16).toNat / 3) (ρ 0+16) ((ρ 0+16) / 3+2).toNat≤atanhHi (1*2^(ρ 0+16).toNat / 3+1) (ρ 0+16) ((ρ 0+16) / 3+2).toNat
    rw [e];exact j4o q hq
  refine jac (jac (js4 (c:=3) e (by omega)) ⟨jae hle,jad (show (0:Int)≤(2:Int).sign by decide),jae ?_,trivial⟩) ⟨jae ?_,trivial⟩
  · rw [jc3,jc3,jc7];omega
  · show lnLoZ (ρ 0)≤lnHiZ (ρ 0)
    have hle':atanhLo (1*2^(ρ 0+16).toNat / 3) (ρ 0+16) ((ρ 0+16) / 3+2).toNat≤atanhHi (1*2^(ρ 0+16).toNat / 3+1) (ρ 0+16) ((ρ 0+16) / 3+2).toNat:=hle;unfold lnLoZ lnHiZ;rw [e] at hle' ⊢;rw [s16]
    generalize atanhLo _ _ _=a at *
    generalize atanhHi _ _ _=b at *
    omega
theorem j3c (h:Nat→List Int→Int) (ρ:Nat→Int) (hp:allT (stdF (gR (hC h))) ρ q0F):allT (stdF (gR (hC h))) ρ piL2:=by
  obtain ⟨q,e,hq⟩:=jz7 hp;have d1:(atLo 5).den (stdF (gR (hC h))) ρ=atLoZ 5 q:=by rw [←e];rfl
  have d2:(atHi 5).den (stdF (gR (hC h))) ρ=atHiZ 5 q:=by rw [←e];rfl
  have d3:(atLo 239).den (stdF (gR (hC h))) ρ=atLoZ 239 q:=by rw [←e];rfl
  have d4:(atHi 239).den (stdF (gR (hC h))) ρ=atHiZ 239 q:=by rw [←e];rfl
  have h1:=j29 q hq;have h2:=jvv q hq;refine jac (jac ?_ ⟨jae (by rw [d1,d2];exact h1),jae (by rw [d3,d4];exact h2),jad (show (0:Int)≤(16:Int).sign by decide),jad (show (0:Int)≤(4:Int).sign by decide),jae ?_,jae ?_,jae ?_,trivial⟩) ⟨jae ?_,trivial⟩
  · have a1:=js4 (g:=gR (hC h)) (c:=5) e (by omega)
    have a2:=js4 (g:=gR (hC h)) (c:=239) e (by omega);have a3:=jac a1 a2;rw [List.append_assoc] at a3;rw [List.append_assoc,List.append_assoc];exact a3
  · rw [jc3,jc3,jc7,d1,d2];omega
  · show 0 - (atHi 239).den (stdF (gR (hC h))) ρ*4≤0 - (atLo 239).den (stdF (gR (hC h))) ρ*4
    rw [d3,d4];omega
  · show (atLo 5).den (stdF (gR (hC h))) ρ*16+(0 - (atHi 239).den (stdF (gR (hC h))) ρ*4)≤(atHi 5).den (stdF (gR (hC h))) ρ*16+(0 - (atLo 239).den (stdF (gR (hC h))) ρ*4)
    rw [d1,d2,d3,d4];omega
  · show piLoZ (ρ 0)≤piHiZ (ρ 0)
    unfold piLoZ piHiZ;rw [e,s16]
    omega
def cR:Rs:={ rs:=[⟨[],nf R0 [] (ap2 1 (.mul lnLoT (.n 2)) dq),ap1 48 (.v 0)⟩,⟨[],nf R0 [] (.sub (.n 0) (ap2 1 (.sub (.n 0) (.mul lnHiT (.n 2))) dq)),ap1 49 (.v 0)⟩,⟨[],nf R0 [] (ap2 1 piA dq),ap1 50 (.v 0)⟩,⟨[],nf R0 [] (negT (ap2 1 (negT piB) dq)),ap1 51 (.v 0)⟩],ft:=[⟨q0F,ap1 48 (.v 0),40⟩,⟨q0F,ap1 49 (.v 0),40⟩,⟨q0F,ap1 50 (.v 0),40⟩,⟨q0F,ap1 51 (.v 0),40⟩] }
end V
section
variable (q:Nat)
theorem jx1 {c:Nat} (hq:q≤900) (hc:3≤c):(atLoZ c q).natAbs<W^40∧(atHiZ c q).natAbs<2*W^40:=by
  have h0:=js3 q c;have h1:=js2 q hc;have e:((q:Int)+16).toNat=q+16:=by omega
  have hw:(0:Int)≤(q:Int)+16:=by omega
  have hw2:(q:Int)+16≤1200:=by omega
  have hn:2*(((q:Int)+16) / 9+2).toNat≤802:=by omega
  unfold atLoZ atHiZ atanLo atanHi;refine ⟨(jh1 hw h0 (by omega)).ta (V.t_le hw2 (by omega) (m:=1) (by omega)) _ hn,?_⟩;have hl:=jh1 hw (t:=1*2^((q:Int)+16).toNat / c+1) (by omega) h1;have hx:=V.t_le hw2 (by omega) h1;have a1:=hl.tb hx _ hn;have a2:=hl.lb hx _ hn
  omega
theorem jx2 (hq:q≤900):(lnLoZ q).natAbs<W^40∧(lnHiZ q).natAbs<W^40:=by
  have h0:=js3 q 3;have h1:=js2 q (c:=3) (by omega);rw [show ((3:Nat):Int)=3 from rfl] at h0 h1;have hw:(0:Int)≤(q:Int)+16:=by omega
  have hw2:(q:Int)+16≤1200:=by omega
  have hn:(((q:Int)+16) / 3+2).toNat≤802:=by omega
  have b1:=(jh1 hw h0 (by omega)).sa (V.t_le hw2 (by omega) (m:=1) (by omega)) _ hn;have hl:=jh1 hw (t:=1*2^((q:Int)+16).toNat / 3+1) (by omega) h1;have hx:=V.t_le hw2 (by omega) h1;have a1:=hl.sb hx _ hn;have a2:=hl.lb hx _ hn;have hW:65536≤W^40:=Nat.le_trans (by decide:65536≤W^1) (Nat.pow_le_pow_right ja5 (by omega));unfold lnLoZ lnHiZ atanhLo atanhHi up2;rw [s16,show (2:Int)^(1:Int).toNat=2 from rfl]
  generalize W^40=M at *
  generalize su (oA _) _=a at *
  generalize su (oB _) _=b at *
  generalize oB _ _=d at *
  omega
theorem jx3 (hq:q≤900):(piLoZ q).natAbs<W^40∧(piHiZ q).natAbs<W^40:=by
  obtain ⟨a1,a2⟩:=jx1 q (c:=5) hq (by omega);obtain ⟨a3,a4⟩:=jx1 q (c:=239) hq (by omega);rw [show ((5:Nat):Int)=5 from rfl] at a1 a2;rw [show ((239:Nat):Int)=239 from rfl] at a3 a4;have hW:65536≤W^40:=Nat.le_trans (by decide:65536≤W^1) (Nat.pow_le_pow_right ja5 (by omega));unfold piLoZ piHiZ;rw [s16]
  generalize W^40=M at *
  generalize atLoZ 5 q=a at *
  generalize atHiZ 5 q=b at *
  generalize atLoZ 239 q=c at *
  generalize atHiZ 239 q=d at *
  omega
end
namespace V
theorem j3d (h:Nat→List Int→Int):RsOK (stdF (gR (hC h))) cR:=by
  refine ⟨fun r hr ρ hc=>?_,fun r hr ρ hc=>?_⟩
  · simp only [cR,List.mem_cons,List.not_mem_nil,or_false] at hr
    have k:∀t:T,(nf R0 [] t).den (stdF (gR (hC h))) ρ=t.den (stdF (gR (hC h))) ρ:=fun t=>(jbf (jtx _) (fs:=[]) trivial t).1
    rcases hr with rfl | rfl | rfl | rfl <;> (rw [k];rfl)
  · simp only [cR,List.mem_cons,List.not_mem_nil,or_false] at hr
    rcases hr with rfl | rfl | rfl | rfl <;> obtain ⟨q,e,hq⟩:=jz7 hc
    · show (lnLoZ (ρ 0)).natAbs<_;rw [e];exact (jx2 q hq).1
    · show (lnHiZ (ρ 0)).natAbs<_;rw [e];exact (jx2 q hq).2
    · show (piLoZ (ρ 0)).natAbs<_;rw [e];exact (jx3 q hq).1
    · show (piHiZ (ρ 0)).natAbs<_;rw [e];exact (jx3 q hq).2
def ln2N:Spec:={ f:=93,ps:=[i64 (.v 0)],bx:=[],np:=1,fs:=q0F,res:=.tup [.ag [.z 40 true (ap1 48 (.v 0)),.z 40 true (ap1 49 (.v 0)),.i .i64 (.v 0)],.sc (.i .i64 (.n 0))],post:=[rightL (ap1 48 (.v 0)) (ap1 49 (.v 0))] }
def piN2:Spec:={ f:=288,ps:=[i64 (.v 0)],bx:=[],np:=1,fs:=q0F,res:=.tup [.ag [.z 40 true (ap1 50 (.v 0)),.z 40 true (ap1 51 (.v 0)),.i .i64 (.v 0)],.sc (.i .i64 (.n 0))],post:=[rightL (ap1 50 (.v 0)) (ap1 51 (.v 0))] }
theorem ln2NC (h:Nat→List Int→Int):checkF (P:=Tryz.prog) (cons1 (hC h)) cR [] (drawX (cons1 (hC h))) { ln2N with fs:=lnL2 ++ ln2N.fs }=true:=by kernel_rfl
theorem piNC (h:Nat→List Int→Int):checkF (P:=Tryz.prog) (cons1 (hC h)) cR [] (drawX (cons1 (hC h))) { piN2 with fs:=piL2 ++ piN2.fs }=true:=by kernel_rfl
section
variable (h:Nat→List Int→Int)
noncomputable def cLn2:Ctr Tryz.prog (stdF (gR (hC h))):=Ctr.ofL (j3d h) follows_any lnL2 (j3b h) (ln2NC h)
noncomputable def cPi:Ctr Tryz.prog (stdF (gR (hC h))):=Ctr.ofL (j3d h) follows_any piL2 (j3c h) (piNC h)
noncomputable def cons2:List (Ctr Tryz.prog (stdF (gR (hC h)))):=
  cLn2 h :: -- opt
  cPi h :: -- opt
  cons1 (hC h)
end
end V
end
end
section
section
open Go.RowKit
open L (val dig nth)
set_option maxHeartbeats 2000000 in
set_option maxRecDepth 100000 in
theorem jm1 {w:World} {k:Nat} {n:Bool} {A:Option Addr} {len cap:Nat} {z:Int} (h:Q w k n A len cap z) (hk:k≤29000) (hz:z.natAbs≤4611686018427387904) :
    Calls Tryz.prog 222 #[.agg #[.bool n,.slice A len cap]] w fun e w'=>Below w.heap.size w w'∧e=.returned (.tuple #[.int .i64 z,.bool true]):=by
  obtain ⟨d,h1,h2,h3⟩:=h;obtain ⟨W0,hW,hbx,hB0,hs⟩:=start1 w 26 #[.bool n,.slice A len cap];have h4:=h1.up hB0;have hs2:w.heap.size<W0.heap.size:=by omega
  clear hs;obtain ⟨c0,c1,-⟩:=hbx.two;have hab:z.natAbs=val W d:=by rw [←h3,jbe]
  have HAB:=hide hab;have HZ:=hide hz;have H3:=hide h3;clear hab hz h3
  go_enter Tryz.func222,Tryz.ntmps222
  go_upto_region 1 with (fail)
  rw [←hW];clear hW
  go_wp2_with fail
  refine (jc6 _ 0 _ d h4 (by omega)).mono ?_;rintro e w1 ⟨hb1,u,d',rfl,hu,hd⟩;have hbx1:=hbx.below hb1 hs2;obtain ⟨e0,e1,-⟩:=hbx1.two;have HB:=hide (hB0.trans (hb1.mono (by omega)))
  rcases Nat.eq_zero_or_pos z.natAbs with h0 | h0
  · have hd0:d'=[]:=by rw [hd.nil_iff,←HAB.out];exact h0
    subst hd0;obtain ⟨A1,cap1,rfl⟩:=hu.form;have hz0:z=0:=by omega
    have HZ0:=hide hz0;clear h0 hz0
    go_wp2
    go_ret2
    refine ⟨HB.out,?_⟩;rw [HZ0.out]
    rfl
  · obtain ⟨N,HN⟩:∃N,Hid (z.natAbs=N):=⟨_,hide rfl⟩
    have hNp:N≠0:=by have:=HN.out;omega
    have hN2:N≤4611686018427387904:=by have:=HN.out;have:=HZ.out;omega
    have hd1:=jld (d:=d') (N:=N) (by rw [←HN.out,HAB.out];exact hd) hNp (by unfold W;omega);subst hd1;obtain ⟨A1,cap1,rfl,-,-,-,hcell⟩:=hu;obtain ⟨b1,o1,rfl,-,-,hcell1⟩:=hcell (by simp);have hcl:=hcell1 0 (by simp);simp only [Nat.add_zero] at hcl;have hcl':w1.cell? ⟨b1,o1,none⟩=some (.int .u64 (N:Int)):=by rw [hcl];simp [L.nth]
    clear hcell1 hcell hcl
    have hz1:n=decide (z<0):=by
      have h5:=H3.out;have h6:=HAB.out;have h7:=HN.out;rw [h6] at h7;unfold ival at h5;rw [h7] at h5
      cases n <;> simp at h5 ⊢ <;> omega
    have hw1:IntKind.i64.wrap ((N:Nat):Int)=((N:Nat):Int):=IntWalk.i64_in _ (by omega);have hw2:IntKind.i64.wrap (-((N:Nat):Int)) = -((N:Nat):Int):=IntWalk.i64_in _ (by omega)
    cases n with
    | true=>
      have HZ1:Hid (z = -((N:Nat):Int)):=hide (by have h8:=HN.out;have h9:z<0:=(by simpa using hz1.symm);omega);have hlt:decide (0<N)=true:=decide_eq_true (by omega);clear hz1 h0 hd
      go_wp2
      go_ret2
      refine ⟨HB.out,?_⟩;rw [HZ1.out]
      rfl
    | false=>
      have HZ1:Hid (z=((N:Nat):Int)):=hide (by have h8:=HN.out;have h9:¬ z<0:=(by simpa using hz1.symm);omega);have hlt:decide (((N:Nat):Int)<0)=false:=decide_eq_false (by omega);clear hz1 h0 hd
      go_wp2
      go_ret2
      refine ⟨HB.out,?_⟩;rw [HZ1.out]
      rfl
end
end
end Go.Proofs.YtllgjggkchgpbaaGreat