/- V: the contracts of the constants. -/
import Derived.Test.YtcjklbakhlehhaaGreatVr
import Derived.Test.YtcjklbakhlehhaaGreatCo
set_option linter.unusedVariables false
set_option linter.unusedSimpArgs false
namespace Go.Proofs.YtcjklbakhlehhaaGreat
open Go.RowKit Go.Shelf
def lnLoZ (q:Int):Int:=atanhLo (1*2^(q+16).toNat / 3) (q+16) ((q+16) / 3+2).toNat*2 / 2^(q+16 - q).toNat
def lnHiZ (q:Int):Int:=0 - (0 - atanhHi (1*2^(q+16).toNat / 3+1) (q+16) ((q+16) / 3+2).toNat*2) / 2^(q+16 - q).toNat
def atLoZ (c q:Int):Int:=atanLo (1*2^(q+16).toNat / c) (q+16) ((q+16) / 9+2).toNat
def atHiZ (c q:Int):Int:=atanHi (1*2^(q+16).toNat / c+1) (q+16) ((q+16) / 9+2).toNat
def piLoZ (q:Int):Int:=(atLoZ 5 q*16+(0 - atHiZ 239 q*4)) / 2^(q+16 - q).toNat
def piHiZ (q:Int):Int:=0 - (0 - (atHiZ 5 q*16+(0 - atLoZ 239 q*4))) / 2^(q+16 - q).toNat
section
variable (q:Nat)
theorem ji7 (c:Nat):(1:Int)*2^((q:Int)+16).toNat / c=((2^(q+16) / c:Nat):Int):=by
  rw [Int.one_mul,show ((q:Int)+16).toNat=q+16 by omega]
  push_cast
  rfl
theorem jv7:((q:Int)+16)=((q+16:Nat):Int):=by omega
theorem jxr:(((q:Int)+16) / 3+2).toNat=(q+16) / 3+2:=by omega
theorem jxs:(((q:Int)+16) / 9+2).toNat=(q+16) / 9+2:=by omega
theorem s16:(2:Int)^((q:Int)+16 - q).toNat=65536:=by rw [show ((q:Int)+16 - q).toNat=16 by omega];rfl
theorem jxt:atanhLo (1*2^((q:Int)+16).toNat / 3) (q+16) (((q:Int)+16) / 3+2).toNat=(Co.lnLo (q+16):Int):=by
  have e:=ji7 q 3;rw [show ((3:Nat):Int)=3 from rfl] at e;rw [e,jxr,jv7,Co.atanhLo_nat]
  rfl
theorem jxu:atanhHi (1*2^((q:Int)+16).toNat / 3+1) (q+16) (((q:Int)+16) / 3+2).toNat=(Co.lnHi (q+16):Int):=by
  have e:=ji7 q 3;rw [show ((3:Nat):Int)=3 from rfl] at e;rw [e,jxr,jv7,show ((2^(q+16) / 3:Nat):Int)+1=((2^(q+16) / 3+1:Nat):Int) by push_cast;rfl,Co.atanhHi_nat]
  rfl
theorem j28 (c:Nat):atLoZ c q=(Co.atLoP (2^(q+16) / c) (q+16) ((q+16) / 9+2):Int) - (Co.atLoN (2^(q+16) / c) (q+16) ((q+16) / 9+2):Int):=by
  unfold atLoZ;rw [ji7,jxs,jv7,Co.atanLo_nat]
theorem j29 (c:Nat):atHiZ c q=(Co.atHiP (2^(q+16) / c+1) (q+16) ((q+16) / 9+2):Int) - (Co.atHiN (2^(q+16) / c+1) (q+16) ((q+16) / 9+2):Int):=by
  unfold atHiZ;rw [ji7,jxs,jv7,show ((2^(q+16) / c:Nat):Int)+1=((2^(q+16) / c+1:Nat):Int) by push_cast;rfl,Co.atanHi_nat]
theorem j4f (hq:q≤900):atanhLo (1*2^((q:Int)+16).toNat / 3) (q+16) (((q:Int)+16) / 3+2).toNat≤atanhHi (1*2^((q:Int)+16).toNat / 3+1) (q+16) (((q:Int)+16) / 3+2).toNat:=by
  rw [jxt,jxu];exact Int.ofNat_le.2 (Nat.le_of_ble_eq_true (Co.allB_ok Co.ln_all q (by omega)))
theorem j3a {c:Nat} (h:Co.atOK c q=true):atLoZ c q≤atHiZ c q:=by
  rw [j28,j29];have:=Nat.le_of_ble_eq_true (show Nat.ble (Co.atLoP (2^(q+16) / c) (q+16) ((q+16) / 9+2)+Co.atHiN (2^(q+16) / c+1) (q+16) ((q+16) / 9+2)) (Co.atHiP (2^(q+16) / c+1) (q+16) ((q+16) / 9+2)+Co.atLoN (2^(q+16) / c) (q+16) ((q+16) / 9+2))=true from h)
  omega
theorem j3b (hq:q≤900):atLoZ 5 q≤atHiZ 5 q:=j3a q (Co.allB_ok Co.at5_all q (by omega))
theorem jv8 (hq:q≤900):atLoZ 239 q≤atHiZ 239 q:=j3a q (Co.allB_ok Co.at239_all q (by omega))
theorem j3c:65536≤2^(q+16):=by
  rw [Nat.pow_add,show 2^16=65536 from rfl];have:=Nat.pow_pos (n:=q) (show 0<2 by omega)
  omega
theorem jtv {c:Nat} (hc:3≤c):((1:Int)*2^((q:Int)+16).toNat / c+1)*2≤1*2^((q:Int)+16).toNat:=by
  rw [ji7,show ((q:Int)+16).toNat=q+16 by omega,Int.one_mul];have h1:=j3c q;have h2:2^(q+16) / c≤2^(q+16) / 3:=Nat.div_le_div_left hc (by omega)
  have h3:(2^(q+16) / c+1)*2≤2^(q+16):=by
    generalize 2^(q+16) / c=a at *
    generalize 2^(q+16)=b at *
    omega
  exact_mod_cast h3
theorem jtw (c:Nat):0≤(1:Int)*2^((q:Int)+16).toNat / c:=by rw [ji7];exact Int.natCast_nonneg _
end
namespace V
def hC (h:Nat→List Int→Int):Nat→List Int→Int
  | 0,[q]=>lnLoZ q
  | 1,[q]=>lnHiZ q
  | 2,[q]=>piLoZ q
  | 3,[q]=>piHiZ q
  | n,l=>if n<8 then 0 else h (n - 8) l
section
variable {F:Nat→List Int→Int} {ρ:Nat→Int} {g:Nat→List Int→Int}
theorem jad {a b:T} (h:a.den (stdF g) ρ≤b.den (stdF g) ρ):(rightL a b).bd (stdF g) ρ=true:=
  jaf (show cmpZ (a.den (stdF g) ρ) (b.den (stdF g) ρ)≤0 from (jcd _ _).2 h)
theorem jxv {t:T} (h0:0≤t.den (stdF g) ρ) (h:t.den (stdF g) ρ*2≤1*2^(ρ 0+16).toNat):allT (stdF g) ρ (mayL t):=
  ⟨jaf (show 0≤(t.den (stdF g) ρ).sign from Int.sign_nonneg_iff.2 h0),jaf (show cmpZ (t.den (stdF g) ρ*2^(1:Int).toNat) (1*2^(ρ 0+16).toNat)≤0 from (jcd _ _).2 h),trivial⟩
end
def q0F:List T:=[.le (.n 0) (.v 0),.le (.v 0) (.n 900)]
theorem j0f {F:Nat→List Int→Int} {ρ:Nat→Int} (h:allT F ρ q0F):∃q:Nat,ρ 0=q∧q≤900:=by
  have h1:0≤ρ 0:=jac h.1;have h2:ρ 0≤900:=jac h.2.1;exact ⟨(ρ 0).toNat,by omega,by omega⟩
theorem jtx {ρ:Nat→Int} {g:Nat→List Int→Int} {q c:Nat} (e:ρ 0=q) (hc:3≤c):allT (stdF g) ρ (mayL (dnT c) ++ mayL (.add (dnT c) (.n 1))):=by
  have d:(dnT c).den (stdF g) ρ=1*2^((q:Int)+16).toNat / c:=by
    show (1:Int)*2^(ρ 0+16).toNat / (c:Int)=_
    rw [e]
  have h1:=jtw q c;have h2:=jtv q hc;refine jaa (jxv ?_ ?_) (jxv ?_ ?_)
  · rw [d];exact h1
  · rw [d,e];omega
  · rw [jea,d,jc8];omega
  · rw [jea,d,jc8,e];exact h2
def lnL2:List T:=lnL ++ [rightL (ap1 48 (.v 0)) (ap1 49 (.v 0))]
def piL2:List T:=piL ++ [rightL (ap1 50 (.v 0)) (ap1 51 (.v 0))]
theorem j3d (h:Nat→List Int→Int) (ρ:Nat→Int) (hp:allT (stdF (gR (hC h))) ρ q0F):allT (stdF (gR (hC h))) ρ lnL2:=by
  obtain ⟨q,e,hq⟩:=j0f hp
  have hle:lnLoT.den (stdF (gR (hC h))) ρ≤lnHiT.den (stdF (gR (hC h))) ρ:=by
    show atanhLo (1*2^(ρ 0+16).toNat / 3) (ρ 0+16) ((ρ 0+16) / 3+2).toNat≤atanhHi (1*2^(ρ 0+16).toNat / 3+1) (ρ 0+16) ((ρ 0+16) / 3+2).toNat
    rw [e];exact j4f q hq
  refine jaa (jaa (jtx (c:=3) e (by omega)) ⟨jad hle,jaf (show (0:Int)≤(2:Int).sign by decide),jad ?_,trivial⟩) ⟨jad ?_,trivial⟩
  · rw [jc2,jc2,jc8];omega
  · show lnLoZ (ρ 0)≤lnHiZ (ρ 0)
    have hle':atanhLo (1*2^(ρ 0+16).toNat / 3) (ρ 0+16) ((ρ 0+16) / 3+2).toNat≤atanhHi (1*2^(ρ 0+16).toNat / 3+1) (ρ 0+16) ((ρ 0+16) / 3+2).toNat:=hle;unfold lnLoZ lnHiZ;rw [e] at hle' ⊢;rw [s16]
    generalize atanhLo _ _ _=a at *
    generalize atanhHi _ _ _=b at *
    omega
theorem j3e (h:Nat→List Int→Int) (ρ:Nat→Int) (hp:allT (stdF (gR (hC h))) ρ q0F):allT (stdF (gR (hC h))) ρ piL2:=by
  obtain ⟨q,e,hq⟩:=j0f hp;have d1:(atLo 5).den (stdF (gR (hC h))) ρ=atLoZ 5 q:=by rw [←e];rfl
  have d2:(atHi 5).den (stdF (gR (hC h))) ρ=atHiZ 5 q:=by rw [←e];rfl
  have d3:(atLo 239).den (stdF (gR (hC h))) ρ=atLoZ 239 q:=by rw [←e];rfl
  have d4:(atHi 239).den (stdF (gR (hC h))) ρ=atHiZ 239 q:=by rw [←e];rfl
  have h1:=j3b q hq;have h2:=jv8 q hq;refine jaa (jaa ?_ ⟨jad (by rw [d1,d2];exact h1),jad (by rw [d3,d4];exact h2),jaf (show (0:Int)≤(16:Int).sign by decide),jaf (show (0:Int)≤(4:Int).sign by decide),jad ?_,jad ?_,jad ?_,trivial⟩) ⟨jad ?_,trivial⟩
  · have a1:=jtx (g:=gR (hC h)) (c:=5) e (by omega)
    have a2:=jtx (g:=gR (hC h)) (c:=239) e (by omega);have a3:=jaa a1 a2;rw [List.append_assoc] at a3;rw [List.append_assoc,List.append_assoc];exact a3
  · rw [jc2,jc2,jc8,d1,d2];omega
  · show 0 - (atHi 239).den (stdF (gR (hC h))) ρ*4≤0 - (atLo 239).den (stdF (gR (hC h))) ρ*4
    rw [d3,d4];omega
  · show (atLo 5).den (stdF (gR (hC h))) ρ*16+(0 - (atHi 239).den (stdF (gR (hC h))) ρ*4)≤(atHi 5).den (stdF (gR (hC h))) ρ*16+(0 - (atLo 239).den (stdF (gR (hC h))) ρ*4)
    rw [d1,d2,d3,d4];omega
  · show piLoZ (ρ 0)≤piHiZ (ρ 0)
    unfold piLoZ piHiZ;rw [e,s16]
    omega
def cR:Rs:={ rs:=[⟨[],nf R0 [] (ap2 1 (.mul lnLoT (.n 2)) dq),ap1 48 (.v 0)⟩,⟨[],nf R0 [] (.sub (.n 0) (ap2 1 (.sub (.n 0) (.mul lnHiT (.n 2))) dq)),ap1 49 (.v 0)⟩,⟨[],nf R0 [] (ap2 1 piA dq),ap1 50 (.v 0)⟩,⟨[],nf R0 [] (negT (ap2 1 (negT piB) dq)),ap1 51 (.v 0)⟩],ft:=[⟨q0F,ap1 48 (.v 0),40⟩,⟨q0F,ap1 49 (.v 0),40⟩,⟨q0F,ap1 50 (.v 0),40⟩,⟨q0F,ap1 51 (.v 0),40⟩] }
end V
section
variable (q:Nat)
theorem jxw {c:Nat} (hq:q≤900) (hc:3≤c):(atLoZ c q).natAbs<W^40∧(atHiZ c q).natAbs<2*W^40:=by
  have h0:=jtw q c;have h1:=jtv q hc;have e:((q:Int)+16).toNat=q+16:=by omega
  have hw:(0:Int)≤(q:Int)+16:=by omega
  have hw2:(q:Int)+16≤1200:=by omega
  have hn:2*(((q:Int)+16) / 9+2).toNat≤802:=by omega
  unfold atLoZ atHiZ atanLo atanHi;refine ⟨(jia hw h0 (by omega)).ta (V.t_le hw2 (by omega) (m:=1) (by omega)) _ hn,?_⟩;have hl:=jia hw (t:=1*2^((q:Int)+16).toNat / c+1) (by omega) h1;have hx:=V.t_le hw2 (by omega) h1;have a1:=hl.tb hx _ hn;have a2:=hl.lb hx _ hn
  omega
theorem jxx (hq:q≤900):(lnLoZ q).natAbs<W^40∧(lnHiZ q).natAbs<W^40:=by
  have h0:=jtw q 3;have h1:=jtv q (c:=3) (by omega);rw [show ((3:Nat):Int)=3 from rfl] at h0 h1;have hw:(0:Int)≤(q:Int)+16:=by omega
  have hw2:(q:Int)+16≤1200:=by omega
  have hn:(((q:Int)+16) / 3+2).toNat≤802:=by omega
  have b1:=(jia hw h0 (by omega)).sa (V.t_le hw2 (by omega) (m:=1) (by omega)) _ hn;have hl:=jia hw (t:=1*2^((q:Int)+16).toNat / 3+1) (by omega) h1;have hx:=V.t_le hw2 (by omega) h1;have a1:=hl.sb hx _ hn;have a2:=hl.lb hx _ hn;have hW:65536≤W^40:=Nat.le_trans (by decide:65536≤W^1) (Nat.pow_le_pow_right ja5 (by omega));unfold lnLoZ lnHiZ atanhLo atanhHi up2;rw [s16,show (2:Int)^(1:Int).toNat=2 from rfl]
  generalize W^40=M at *
  generalize su (oA _) _=a at *
  generalize su (oB _) _=b at *
  generalize oB _ _=d at *
  omega
theorem jxy (hq:q≤900):(piLoZ q).natAbs<W^40∧(piHiZ q).natAbs<W^40:=by
  obtain ⟨a1,a2⟩:=jxw q (c:=5) hq (by omega);obtain ⟨a3,a4⟩:=jxw q (c:=239) hq (by omega);rw [show ((5:Nat):Int)=5 from rfl] at a1 a2;rw [show ((239:Nat):Int)=239 from rfl] at a3 a4;have hW:65536≤W^40:=Nat.le_trans (by decide:65536≤W^1) (Nat.pow_le_pow_right ja5 (by omega));unfold piLoZ piHiZ;rw [s16]
  generalize W^40=M at *
  generalize atLoZ 5 q=a at *
  generalize atHiZ 5 q=b at *
  generalize atLoZ 239 q=c at *
  generalize atHiZ 239 q=d at *
  omega
end
namespace V
theorem j3f (h:Nat→List Int→Int):RsOK (stdF (gR (hC h))) cR:=by
  refine ⟨fun r hr ρ hc=>?_,fun r hr ρ hc=>?_⟩
  · simp only [cR,List.mem_cons,List.not_mem_nil,or_false] at hr
    have k:∀t:T,(nf R0 [] t).den (stdF (gR (hC h))) ρ=t.den (stdF (gR (hC h))) ρ:=fun t=>(jbi (jvy _) (fs:=[]) trivial t).1
    rcases hr with rfl | rfl | rfl | rfl <;> (rw [k];rfl)
  · simp only [cR,List.mem_cons,List.not_mem_nil,or_false] at hr
    rcases hr with rfl | rfl | rfl | rfl <;> obtain ⟨q,e,hq⟩:=j0f hc
    · show (lnLoZ (ρ 0)).natAbs<_;rw [e];exact (jxx q hq).1
    · show (lnHiZ (ρ 0)).natAbs<_;rw [e];exact (jxx q hq).2
    · show (piLoZ (ρ 0)).natAbs<_;rw [e];exact (jxy q hq).1
    · show (piHiZ (ρ 0)).natAbs<_;rw [e];exact (jxy q hq).2
def ln2N:Spec:={ f:=55,ps:=[i64 (.v 0)],bx:=[],np:=1,fs:=q0F,res:=.tup [.ag [.z 40 true (ap1 48 (.v 0)),.z 40 true (ap1 49 (.v 0)),.i .i64 (.v 0)],.sc (.i .i64 (.n 0))],post:=[rightL (ap1 48 (.v 0)) (ap1 49 (.v 0))] }
def piN2:Spec:={ f:=144,ps:=[i64 (.v 0)],bx:=[],np:=1,fs:=q0F,res:=.tup [.ag [.z 40 true (ap1 50 (.v 0)),.z 40 true (ap1 51 (.v 0)),.i .i64 (.v 0)],.sc (.i .i64 (.n 0))],post:=[rightL (ap1 50 (.v 0)) (ap1 51 (.v 0))] }
theorem ln2NC (h:Nat→List Int→Int):checkF (P:=Tryz.prog) (cons1 (hC h)) cR [] (drawX (cons1 (hC h))) { ln2N with fs:=lnL2 ++ ln2N.fs }=true:=by kernel_rfl
theorem piNC (h:Nat→List Int→Int):checkF (P:=Tryz.prog) (cons1 (hC h)) cR [] (drawX (cons1 (hC h))) { piN2 with fs:=piL2 ++ piN2.fs }=true:=by kernel_rfl
section
variable (h:Nat→List Int→Int)
noncomputable def cLn2:Ctr Tryz.prog (stdF (gR (hC h))):=Ctr.ofL (j3f h) follows_any lnL2 (j3d h) (ln2NC h)
noncomputable def cPi:Ctr Tryz.prog (stdF (gR (hC h))):=Ctr.ofL (j3f h) follows_any piL2 (j3e h) (piNC h)
noncomputable def cons2:List (Ctr Tryz.prog (stdF (gR (hC h)))):=
  cLn2 h :: -- opt
  cPi h :: -- opt
  cons1 (hC h)
end
end V
end Go.Proofs.YtcjklbakhlehhaaGreat
