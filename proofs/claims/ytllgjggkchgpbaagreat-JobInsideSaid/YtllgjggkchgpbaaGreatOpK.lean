/- V: hairlinelaw18.JobInside answers true. A job that came in: all its numbers are numbers of their kinds. -/
import Derived.Test.YtllgjggkchgpbaaGreatLasts
import Derived.Test.YtllgjggkchgpbaaGreatCons
import Derived.ProofKit
import Derived.OpenShut
import Derived.Lib.SmallJoins
set_option linter.unusedVariables false
set_option linter.unusedSimpArgs false
namespace Go.Proofs.YtllgjggkchgpbaaGreat
section
section
open Go.RowKit Go.Shelf L
namespace V
def remI (_:List T) (op:BinOp) (k:IntKind) (a b:T):Option (List T×X×List T):=match op with
  | .rem=>some ([.le (.n 0) a,.le (.n 1) b],.i k (ap2 2 a b),[.le (.n 0) (ap2 2 a b),.lt (ap2 2 a b) b])
  | _=>none
theorem jz2 {g:Nat→List Int→Int} {ρ:Nat→Int} {β:Nat→Nat} {P:Program} {w:World} {op:BinOp} {k:IntKind} {fs:List T} {a b:T} {pre:List T} {x:X} {post:List T} (hf:allT (stdF g) ρ fs) (h:remI fs op k a b=some (pre,x,post)) (hp:allT (stdF g) ρ pre) :
    allT (stdF g) ρ post∧∀(t:TypeId) (o1 o2:Operand),∃v,((do eqGuard op t o1 o2 (.int k (a.den (stdF g) ρ)) (.int k (b.den (stdF g) ρ));binOp op t (.int k (a.den (stdF g) ρ)) (.int k (b.den (stdF g) ρ))):Sem Value).run P w=.ok v w∧x.has (stdF g) ρ β w [v]:=by
  unfold remI at h
  split at h
  · cases h
    have h0:0≤a.den (stdF g) ρ:=jaa hp.1;have hc:1≤b.den (stdF g) ρ:=jaa hp.2.1;have e1:=Int.emod_nonneg (a.den (stdF g) ρ) (show b.den (stdF g) ρ≠0 by omega);have e2:=Int.emod_lt_of_pos (a.den (stdF g) ρ) (show 0<b.den (stdF g) ρ by omega);refine ⟨⟨jad e1,jbj e2,trivial⟩,fun t o1 o2=>⟨_,jne t o1 o2 k _ (b.den (stdF g) ρ) (by omega),?_⟩⟩
    show [Value.int k ((a.den (stdF g) ρ).tmod (b.den (stdF g) ρ))]=[Value.int k (a.den (stdF g) ρ%b.den (stdF g) ρ)]
    rw [Int.tmod_eq_emod_of_nonneg h0]
  · cases h
def withRem {P:Program} {g:Nat→List Int→Int} (c:Ctr P (stdF g)):Ctr P (stdF g):={ c with
  opI:=remI
  opOk:=fun hf h hp=>jz2 hf h hp }
section
variable (h:Nat→List Int→Int)
def jiJ:A:=.one (.ag [.i .i64 (.v 0),.i .i64 (.v 1),.i .u64 (.v 2),.i .u64 (.v 3),.i .i64 (.v 4)])
def jiI:List T:=[.le (.n (-9223372036854775808)) (.v 0),.le (.v 0) (.n 9223372036854775807),.le (.n (-9223372036854775808)) (.v 1),.le (.v 1) (.n 9223372036854775807),.le (.n 0) (.v 2),.le (.v 2) (.n 18446744073709551615),.le (.n 0) (.v 3),.le (.v 3) (.n 18446744073709551615),.le (.n (-9223372036854775808)) (.v 4),.le (.v 4) (.n 9223372036854775807),.le (.n 0) (.v 5),.le (.v 5) (.n 18446744073709551615)]
def jiP:List A:=[jiJ,.one (.sc (.i .u64 (.v 5)))]
noncomputable def jiT:List (Ctr Tryz.prog (FL h)):=inl (dy1 (hV h)) 19 (by kernel_rfl)::inl (dy1 (hV h)) 65 (by kernel_rfl)::inl (dy1 (hV h)) 47 (by kernel_rfl)::withRem (Ctr.lem (jan (by kernel_rfl)) (lookG h))::dy1 (hV h)
noncomputable def jiU:List (Ctr Tryz.prog (FL h)):=inl (jiT h) 66 (by kernel_rfl)::inl (jiT h) 20 (by kernel_rfl)::jiT h
noncomputable def jiV:List (Ctr Tryz.prog (FL h)):=c18 (hV h)::inl (jiU h) 18 (by kernel_rfl)::jiU h
def jiB (i:T):T:=.add (.mul (.add (.v 1) (.n 1023)) (.n 4503599627370496)) i
def jiDom:List T:=[.le (.n 0) (.v 0),.le (.v 0) (.n 5),.le (.n (-64)) (.v 1),.le (.v 1) (.n 9),.lt (.v 2) (.v 3),.le (.sub (.v 3) (.v 2)) (.n 2048),.le (.v 3) (.n 4503599627370496),.le (.n 1) (.v 4),.le (.v 4) (.n 128)]
def jiBad (k:Nat):List T:=match k with
  | 0=>[.lt (.v 0) (.n 0)]
  | 1=>[.le (.n 0) (.v 0),.lt (.n 5) (.v 0)]
  | 2=>jiDom.take 2 ++ [.lt (.v 1) (.n (-64))]
  | 3=>jiDom.take 3 ++ [.lt (.n 9) (.v 1)]
  | 4=>jiDom.take 4 ++ [.le (.v 3) (.v 2)]
  | 5=>jiDom.take 5 ++ [.lt (.n 2048) (.sub (.v 3) (.v 2))]
  | 6=>jiDom.take 6 ++ [.lt (.n 4503599627370496) (.v 3)]
  | 7=>jiDom.take 7 ++ [.lt (.v 4) (.n 1)]
  | _=>jiDom.take 8 ++ [.lt (.n 128) (.v 4)]
def jiFl (b:T):T:=ap2 2 (ap2 1 b (.n 4503599627370496)) (.n 2048)
def jiE (b:T):T:=ap4' 89 (.v 0) (ap1 69 b) (ap1 70 b) (.v 4)
def jiM (b:T):List T:=[.eq (ap4' 96 (.v 0) (ap1 69 b) (ap1 70 b) (.n 300)) (.n 1),.le (.n 1) (jiFl b),.le (jiFl b) (.n 2046),.le (.n (-2200)) (jiE b),.le (jiE b) (.n 2200),.le (.n 0) b,.le b (.n 18446744073709551615)]
def jiRm:T:=ap2 2 (.v 5) (.sub (.v 3) (.v 2))
def ji1:T:=jiB (.v 2)
def ji2:T:=jiB (.sub (.v 3) (.n 1))
def ji3:T:=jiB (.add (.v 2) jiRm)
def jiW (b:T):List T:=[.le (.n (-1022)) (jiE b),.le (jiE b) (.n 1022)]
def jiAll:List T:=jiDom ++ (jiM ji1 ++ (jiM ji2 ++ (jiM ji3 ++ jiI)))
def jiR3:List T:=[.le (.n 1) (.sub (.v 3) (.v 2)),.le (.n 0) jiRm,.lt jiRm (.sub (.v 3) (.v 2))]
def jiG:List T:=[.le (.n (-1023)) (jiE ji3),.le (jiE ji3) (.n 1023),.eq (.sub (jiFl ji3) (.n 1023)) (.v 1)]
def jiGood:List T:=jiW ji1 ++ (jiW ji2 ++ (jiG ++ (jiR3 ++ jiAll)))
def jiOne:A:=.one (.sc (.b (.n 1)))
theorem jb_0:in12 (inlX (jiV h) 5 (jiBad 0 ++ jiI) [] jiP)=some ([],jiOne):=by kernel_rfl
theorem jb_1:in12 (inlX (jiV h) 5 (jiBad 1 ++ jiI) [] jiP)=some ([],jiOne):=by kernel_rfl
theorem jb_2:in12 (inlX (jiV h) 5 (jiBad 2 ++ jiI) [] jiP)=some ([],jiOne):=by kernel_rfl
theorem jb_3:in12 (inlX (jiV h) 5 (jiBad 3 ++ jiI) [] jiP)=some ([],jiOne):=by kernel_rfl
theorem jb_4:in12 (inlX (jiV h) 5 (jiBad 4 ++ jiI) [] jiP)=some ([],jiOne):=by kernel_rfl
theorem jb_5:in12 (inlX (jiV h) 5 (jiBad 5 ++ jiI) [] jiP)=some ([],jiOne):=by kernel_rfl
theorem jb_6:in12 (inlX (jiV h) 5 (jiBad 6 ++ jiI) [] jiP)=some ([],jiOne):=by kernel_rfl
theorem jb_7:in12 (inlX (jiV h) 5 (jiBad 7 ++ jiI) [] jiP)=some ([],jiOne):=by kernel_rfl
theorem jb_8:in12 (inlX (jiV h) 5 (jiBad 8 ++ jiI) [] jiP)=some ([],jiOne):=by kernel_rfl
theorem jg:in12 (inlX (jiV h) 5 jiGood [] jiP)=some ([],.one (.sc (.b (.le (jiE ji3) (.n 1023))))):=by kernel_rfl
theorem jw1:in12 (inlX (jiV h) 5 (.lt (jiE ji1) (.n (-1022))::jiAll) [] jiP)=some ([],jiOne):=by kernel_rfl
theorem jw2:in12 (inlX (jiV h) 5 (.le (.n (-1022)) (jiE ji1)::.lt (.n 1022) (jiE ji1)::jiAll) [] jiP)=some ([],jiOne):=by kernel_rfl
theorem jw3:in12 (inlX (jiV h) 5 (jiW ji1 ++ (.lt (jiE ji2) (.n (-1022))::jiAll)) [] jiP)=some ([],jiOne):=by kernel_rfl
theorem jw4:in12 (inlX (jiV h) 5 (jiW ji1 ++ (.le (.n (-1022)) (jiE ji2)::.lt (.n 1022) (jiE ji2)::jiAll)) [] jiP)=some ([],jiOne):=by kernel_rfl
def jiS (f:FuncId) (fs:List T):Spec:=dsp f jiP 6 fs jiOne
theorem jxu {ρ:Nat→Int} {i:T} {k:Int} (hi:i.den (FL h) ρ=k) (h0 : -64≤ρ 1) (h1:ρ 1≤9) (k0:0≤k) (k1:k<4503599627370496):((jiB i).den (FL h) ρ).toNat=An.jp (ρ 1) k.toNat∧0≤(jiB i).den (FL h) ρ∧(jiB i).den (FL h) ρ≤18446744073709551615∧(jiFl (jiB i)).den (FL h) ρ=ρ 1+1023:=by
  have e:(jiB i).den (FL h) ρ=(ρ 1+1023)*4503599627370496+k:=by rw [←hi];rfl
  have f:(jiFl (jiB i)).den (FL h) ρ=(jiB i).den (FL h) ρ / 4503599627370496%2048:=rfl;rw [f,e];unfold An.jp;refine ⟨by omega,by omega,by omega,by omega⟩
theorem ji_m {ρ:Nat→Int} {i:T} {k:Int} (hi:i.den (FL h) ρ=k) (c0:0≤ρ 0) (c5:ρ 0≤5) (h0 : -64≤ρ 1) (h1:ρ 1≤9) (k0:0≤k) (k1:k<4503599627370496) (m0:1≤ρ 4) (m1:ρ 4≤128) :
    allT (FL h) ρ (jiM (jiB i))∧(jiE (jiB i)).den (FL h) ρ=An.lkE (ρ 0) (vM (An.jp (ρ 1) k.toNat)) (vE (An.jp (ρ 1) k.toNat)) (ρ 4):=by
  obtain ⟨d,b0,b1,f⟩:=jxu h hi h0 h1 k0 k1;have M:=An.jp_may (c:=ρ 0) c0 c5 h0 h1 (i:=k.toNat) (by omega);have e:(jiE (jiB i)).den (FL h) ρ=An.lkE (ρ 0) (vM (An.jp (ρ 1) k.toNat)) (vE (An.jp (ρ 1) k.toNat)) (ρ 4):=by rw [←d];rfl
  have g:(ap4' 96 (.v 0) (ap1 69 (jiB i)) (ap1 70 (jiB i)) (.n 300)).den (FL h) ρ=An.mayI (ρ 0) (vM (An.jp (ρ 1) k.toNat)) (vE (An.jp (ρ 1) k.toNat)) 300:=by rw [←d];rfl
  have l:=An.lkE_in M.B m0 m1;refine ⟨⟨bd_eq' (by rw [g];exact An.may_one.2 M),jad (by rw [f];show (1:Int)≤_;omega),jad (by rw [f];show _≤(2046:Int);omega),jad (by rw [e];exact l.1),jad (by rw [e];exact l.2),jad b0,jad b1,trivial⟩,e⟩
theorem insideOK:SpecOK Tryz.prog (FL h) (jiS 5 jiI):=by
  intro ρ β w vs ha hb hf;have he:Enters Tryz.prog 5:=jan (f:=5) (by kernel_rfl);have r0:∀ρ:Nat→Int,eqA (FL h) ρ jiOne jiOne:=fun ρ=>eq_one' rfl
  obtain ⟨-,-,-,-,f0,f1,t0,t1,-,-,i0,i1,-⟩:=id hf;have f0:0≤ρ 2:=jaa f0;have t0:0≤ρ 3:=jaa t0;have i0:0≤ρ 5:=jaa i0
  by_cases a0:ρ 0<0
  · exact jaq (tab:=jiV h) (sp:=jiS 5 (jiBad 0 ++ jiI)) follows_any he (jb_0 h) rfl (fun ρ _=>r0 ρ) ha hb ⟨jbj a0,hf⟩
  have a0':(T.le (.n 0) (.v 0)).bd (FL h) ρ=true:=jad (show 0≤ρ 0 by omega)
  by_cases a1:5<ρ 0
  · exact jaq (tab:=jiV h) (sp:=jiS 5 (jiBad 1 ++ jiI)) follows_any he (jb_1 h) rfl (fun ρ _=>r0 ρ) ha hb ⟨a0',jbj a1,hf⟩
  have a1':(T.le (.v 0) (.n 5)).bd (FL h) ρ=true:=jad (show ρ 0≤5 by omega)
  by_cases a2:ρ 1 < -64
  · exact jaq (tab:=jiV h) (sp:=jiS 5 (jiBad 2 ++ jiI)) follows_any he (jb_2 h) rfl (fun ρ _=>r0 ρ) ha hb ⟨a0',a1',jbj a2,hf⟩
  have a2':(T.le (.n (-64)) (.v 1)).bd (FL h) ρ=true:=jad (show -64≤ρ 1 by omega)
  by_cases a3:9<ρ 1
  · exact jaq (tab:=jiV h) (sp:=jiS 5 (jiBad 3 ++ jiI)) follows_any he (jb_3 h) rfl (fun ρ _=>r0 ρ) ha hb ⟨a0',a1',a2',jbj a3,hf⟩
  have a3':(T.le (.v 1) (.n 9)).bd (FL h) ρ=true:=jad (show ρ 1≤9 by omega)
  by_cases a4:ρ 3≤ρ 2
  · exact jaq (tab:=jiV h) (sp:=jiS 5 (jiBad 4 ++ jiI)) follows_any he (jb_4 h) rfl (fun ρ _=>r0 ρ) ha hb ⟨a0',a1',a2',a3',jad a4,hf⟩
  have a4':(T.lt (.v 2) (.v 3)).bd (FL h) ρ=true:=jbj (show ρ 2<ρ 3 by omega)
  by_cases a5:2048<ρ 3 - ρ 2
  · exact jaq (tab:=jiV h) (sp:=jiS 5 (jiBad 5 ++ jiI)) follows_any he (jb_5 h) rfl (fun ρ _=>r0 ρ) ha hb ⟨a0',a1',a2',a3',a4',jbj a5,hf⟩
  have a5':(T.le (.sub (.v 3) (.v 2)) (.n 2048)).bd (FL h) ρ=true:=jad (show ρ 3 - ρ 2≤2048 by omega)
  by_cases a6:4503599627370496<ρ 3
  · exact jaq (tab:=jiV h) (sp:=jiS 5 (jiBad 6 ++ jiI)) follows_any he (jb_6 h) rfl (fun ρ _=>r0 ρ) ha hb ⟨a0',a1',a2',a3',a4',a5',jbj a6,hf⟩
  have a6':(T.le (.v 3) (.n 4503599627370496)).bd (FL h) ρ=true:=jad (show ρ 3≤4503599627370496 by omega)
  by_cases a7:ρ 4<1
  · exact jaq (tab:=jiV h) (sp:=jiS 5 (jiBad 7 ++ jiI)) follows_any he (jb_7 h) rfl (fun ρ _=>r0 ρ) ha hb ⟨a0',a1',a2',a3',a4',a5',a6',jbj a7,hf⟩
  have a7':(T.le (.n 1) (.v 4)).bd (FL h) ρ=true:=jad (show 1≤ρ 4 by omega)
  by_cases a8:128<ρ 4
  · exact jaq (tab:=jiV h) (sp:=jiS 5 (jiBad 8 ++ jiI)) follows_any he (jb_8 h) rfl (fun ρ _=>r0 ρ) ha hb ⟨a0',a1',a2',a3',a4',a5',a6',a7',jbj a8,hf⟩
  have a8':(T.le (.v 4) (.n 128)).bd (FL h) ρ=true:=jad (show ρ 4≤128 by omega);have q0:=Int.emod_nonneg (ρ 5) (show ρ 3 - ρ 2≠0 by omega);have q1:=Int.emod_lt_of_pos (ρ 5) (show 0<ρ 3 - ρ 2 by omega);obtain ⟨m1,e1⟩:=ji_m h (ρ:=ρ) (i:=.v 2) (k:=ρ 2) rfl (by omega) (by omega) (by omega) (by omega) (by omega) (by omega) (by omega) (by omega);obtain ⟨m2,e2⟩:=ji_m h (ρ:=ρ) (i:=.sub (.v 3) (.n 1)) (k:=ρ 3 - 1) rfl (by omega) (by omega) (by omega) (by omega) (by omega) (by omega) (by omega) (by omega);obtain ⟨m3,e3⟩:=ji_m h (ρ:=ρ) (i:=.add (.v 2) jiRm) (k:=ρ 2+ρ 5%(ρ 3 - ρ 2)) rfl (by omega) (by omega) (by omega) (by omega) (by omega) (by omega) (by omega) (by omega);obtain ⟨-,-,-,g3⟩:=jxu h (ρ:=ρ) (i:=.add (.v 2) jiRm) (k:=ρ 2+ρ 5%(ρ 3 - ρ 2)) rfl (by omega) (by omega) (by omega) (by omega);have all:allT (FL h) ρ jiAll:=jac ⟨a0',a1',a2',a3',a4',a5',a6',a7',a8',trivial⟩ (jac m1 (jac m2 (jac m3 hf)))
  by_cases w1:(jiE ji1).den (FL h) ρ < -1022
  · exact jaq (tab:=jiV h) (sp:=jiS 5 (.lt (jiE ji1) (.n (-1022))::jiAll)) follows_any he (jw1 h) rfl (fun ρ _=>r0 ρ) ha hb ⟨jbj w1,all⟩
  have w1':(T.le (.n (-1022)) (jiE ji1)).bd (FL h) ρ=true:=jad (show -1022≤(jiE ji1).den (FL h) ρ by omega)
  by_cases w2:1022<(jiE ji1).den (FL h) ρ
  · exact jaq (tab:=jiV h) (sp:=jiS 5 (.le (.n (-1022)) (jiE ji1)::.lt (.n 1022) (jiE ji1)::jiAll)) follows_any he (jw2 h) rfl (fun ρ _=>r0 ρ) ha hb ⟨w1',jbj w2,all⟩
  have w2':(T.le (jiE ji1) (.n 1022)).bd (FL h) ρ=true:=jad (show (jiE ji1).den (FL h) ρ≤1022 by omega)
  by_cases w3:(jiE ji2).den (FL h) ρ < -1022
  · exact jaq (tab:=jiV h) (sp:=jiS 5 (jiW ji1 ++ (.lt (jiE ji2) (.n (-1022))::jiAll))) follows_any he (jw3 h) rfl (fun ρ _=>r0 ρ) ha hb ⟨w1',w2',jbj w3,all⟩
  have w3':(T.le (.n (-1022)) (jiE ji2)).bd (FL h) ρ=true:=jad (show -1022≤(jiE ji2).den (FL h) ρ by omega)
  by_cases w4:1022<(jiE ji2).den (FL h) ρ
  · exact jaq (tab:=jiV h) (sp:=jiS 5 (jiW ji1 ++ (.le (.n (-1022)) (jiE ji2)::.lt (.n 1022) (jiE ji2)::jiAll))) follows_any he (jw4 h) rfl (fun ρ _=>r0 ρ) ha hb ⟨w1',w2',w3',jbj w4,all⟩
  have w4':(T.le (jiE ji2) (.n 1022)).bd (FL h) ρ=true:=jad (show (jiE ji2).den (FL h) ρ≤1022 by omega);have e2':(jiE ji2).den (FL h) ρ=An.lkE (ρ 0) (vM (An.jp (ρ 1) (ρ 3 - 1).toNat)) (vE (An.jp (ρ 1) (ρ 3 - 1).toNat)) (ρ 4):=e2;have e3':(jiE ji3).den (FL h) ρ=An.lkE (ρ 0) (vM (An.jp (ρ 1) (ρ 2+ρ 5%(ρ 3 - ρ 2)).toNat)) (vE (An.jp (ρ 1) (ρ 2+ρ 5%(ρ 3 - ρ 2)).toNat)) (ρ 4):=e3;have I:=An.jp_inside (c:=ρ 0) (E:=ρ 1) (m:=ρ 4) (i:=(ρ 2+ρ 5%(ρ 3 - ρ 2)).toNat) (k:=(ρ 3 - 1).toNat) (by omega) (by omega) (by omega) (by omega) (by omega) (by omega) (by omega) (by omega) (by rw [←e2'];omega);rw [←e3'] at I;have rs:∀ρ,allT (FL h) ρ (jiS 5 jiGood).fs→eqA (FL h) ρ (.one (.sc (.b (.le (jiE ji3) (.n 1023))))) (jiS 5 jiGood).res:=fun ρ hf=>eq_one' (jbn (jab (jab hf))).2.1
  exact jaq (tab:=jiV h) (sp:=jiS 5 jiGood) follows_any he (jg h) rfl rs ha hb ⟨w1',w2',w3',w4',jad I.1,jad I.2,bd_eq' (show (jiFl ji3).den (FL h) ρ - 1023=ρ 1 by have:(jiFl ji3).den (FL h) ρ=ρ 1+1023:=g3;omega),jad (show 1≤ρ 3 - ρ 2 by omega),jad q0,jbj q1,all⟩
end
def ρ6 (a b c d e f:Int):Nat→Int
  | 0=>a
  | 1=>b
  | 2=>c
  | 3=>d
  | 4=>e
  | _=>f
theorem inside_v {w:World} {f x a b m i:Int} (hf : -9223372036854775808≤f∧f≤9223372036854775807) (hx : -9223372036854775808≤x∧x≤9223372036854775807) (ha:0≤a∧a≤18446744073709551615) (hb:0≤b∧b≤18446744073709551615) (hm : -9223372036854775808≤m∧m≤9223372036854775807) (hi:0≤i∧i≤18446744073709551615) :
    Calls Tryz.prog 5 #[.agg #[.int .i64 f,.int .i64 x,.int .u64 a,.int .u64 b,.int .i64 m],.int .u64 i] w fun e w'=>e=.returned (.bool true)∧Below w.heap.size w w':=by
  have hA:hasA (FL zzP) (ρ6 f x a b m i) id w (jiS 5 jiI).ps [.agg #[.int .i64 f,.int .i64 x,.int .u64 a,.int .u64 b,.int .i64 m],.int .u64 i]:=
    ⟨_,_,rfl,⟨_,rfl,_,_,rfl,rfl,_,_,rfl,rfl,_,_,rfl,rfl,_,_,rfl,rfl,_,_,rfl,rfl,rfl⟩,_,_,rfl,rfl,rfl⟩
  have hfs:allT (FL zzP) (ρ6 f x a b m i) jiI:=⟨jad hf.1,jad hf.2,jad hx.1,jad hx.2,jad ha.1,jad ha.2,jad hb.1,jad hb.2,jad hm.1,jad hm.2,jad hi.1,jad hi.2,trivial⟩;obtain ⟨-,g⟩:=insideOK zzP hA jgr hfs;refine g.mono fun e w' ⟨h1,u,h2,h3⟩=>⟨?_,h1⟩
  have h4:[u]=[Value.bool true]:=h3;rw [h2,List.head_eq_of_cons_eq h4]
end V
end
end
section
section
open Go.RowKit Go.ChangeShapes Go.WideShapes
section
variable {H:Type} {enc:TypeId×Value→H} {w:World} {base:Nat} {spare:Nat→Bool} {held:Bool}
set_option maxRecDepth 100000 in
theorem jsx {r:Reach} {b0:Nat} {v:Value} {d:DataW H} {p:List MemPlace} (hv:Value.okWide Tryz.prog w r b0 38 v) (h:DataW.Trod enc Tryz.prog w base spare held 38 v d p) :
    ∃f x a b m,v=.agg #[.int .i64 f,.int .i64 x,.int .u64 a,.int .u64 b,.int .i64 m]∧(Lit.int .i64 f).wf=true∧(Lit.int .i64 x).wf=true∧(Lit.int .u64 a).wf=true∧(Lit.int .u64 b).wf=true∧(Lit.int .i64 m).wf=true:=by
  obtain ⟨cs,rfl,hsz⟩:=okWide_struct Tryz.underlying38 hv;obtain ⟨l⟩:=cs;have hl5:l.length=5:=hsz
  obtain ⟨c0,c1,c2,c3,c4,rfl⟩:∃a b c d e,l=[a,b,c,d,e]:=by
    match l,hl5 with
    | [a,b,c,d,e],_=>exact ⟨a,b,c,d,e,rfl⟩
  obtain ⟨fuel,hf⟩:=h;obtain ⟨xs,n,-,-,-,hlen,hg⟩:=DataW.trod_struct Tryz.underlying38 hf;have g0:=hg 0 _ rfl;have g1:=hg 1 _ rfl;have g2:=hg 2 _ rfl;have g3:=hg 3 _ rfl;have g4:=hg 4 _ rfl;clear hg;have hl2:xs.length=5:=hlen
  obtain ⟨y0,y1,y2,y3,y4,rfl⟩:∃a b c d e,xs=[a,b,c,d,e]:=by
    match xs,hl2 with
    | [a,b,c,d,e],_=>exact ⟨a,b,c,d,e,rfl⟩
  have g0':DataW.trod enc Tryz.prog w base spare held n 3 [c0]=some y0:=g0;have g1':DataW.trod enc Tryz.prog w base spare held n 3 [c1]=some y1:=g1;have g2':DataW.trod enc Tryz.prog w base spare held n 22 [c2]=some y2:=g2;have g3':DataW.trod enc Tryz.prog w base spare held n 22 [c3]=some y3:=g3;have g4':DataW.trod enc Tryz.prog w base spare held n 3 [c4]=some y4:=g4;clear g0 g1 g2 g3 g4;obtain ⟨x0,e0,-,w0⟩:=DataW.trod_int Tryz.underlying3 g0';obtain ⟨x1,e1,-,w1⟩:=DataW.trod_int Tryz.underlying3 g1';obtain ⟨x2,e2,-,w2⟩:=DataW.trod_int Tryz.underlying22 g2';obtain ⟨x3,e3,-,w3⟩:=DataW.trod_int Tryz.underlying22 g3';obtain ⟨x4,e4,-,w4⟩:=DataW.trod_int Tryz.underlying3 g4';simp at e0 e1 e2 e3 e4;subst e0 e1 e2 e3 e4;exact ⟨x0,x1,x2,x3,x4,rfl,w0,w1,w2,w3,w4⟩
end
end
end
end Go.Proofs.YtllgjggkchgpbaaGreat