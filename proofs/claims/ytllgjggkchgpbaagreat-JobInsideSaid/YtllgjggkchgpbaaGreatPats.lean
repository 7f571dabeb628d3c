/- zed.Text of a number of one digit: nat.DivMod where nothing is to be divided, slices.Reverse of one or two bytes. bits: Parts, Normal, Binade, First. bits: Value. bits: Of. -/
import Derived.Test.YtllgjggkchgpbaaGreatDyadB
import Derived.StillTailTactics
import Derived.RegionTactic
import Derived.BigRegion
import Derived.Laws.BytesString
import Derived.Laws.Cells
set_option linter.unusedVariables false
namespace Go.Proofs.YtllgjggkchgpbaaGreat
section
section
open Go.RowKit
open L (val dig nth)
theorem jlc (w:World) (B C:Nat) (va vb:Value) (la lb:List Nat) (ha:Nums w B va la) (hb:Nums w C vb lb) (hlt:val W la<val W lb) (hla:la.length≤50000) :
    Calls Tryz.prog 141 #[va,vb] w fun e w'=>Below w.heap.size w w'∧∃u d,e=.returned (.tuple #[.slice none 0 0,u,.bool true])∧Nums w' w.heap.size u d∧Canon d (val W la):=by
  have hl0:=ha.lt;have hcmp:=jhl hlt;have HCMP:=hide hcmp;have HLT:=hide hlt;clear hcmp
  go_enter Tryz.func141,Tryz.ntmps141
  go_wp2_with fail
  refine (jaj _ B _ la ha).mono ?_;rintro e w1 ⟨rfl,u1,da,rfl,hu1,hda⟩;obtain ⟨A1,cap1,rfl⟩:=hu1.form
  go_wp2_with fail
  refine (jaj _ C _ lb hb).mono ?_;rintro e w1 ⟨rfl,u2,db,rfl,hu2,hdb⟩;obtain ⟨A2,cap2,rfl⟩:=hu2.form
  have hdbl:((db.length:Int) == 0)=false:=by
    rw [beq_eq_false_iff_ne];intro h;have:=hdb.nil_iff.1 (List.eq_nil_of_length_eq_zero (by omega))
    omega
  clear hlt
  go_wp2_with fail
  refine (jct _ B C _ _ da db hu1 hu2).mono ?_;rintro e w1 ⟨hdr,rfl⟩;rw [hda.val,hdb.val,HCMP.out];have hB1:=hdr.below w.heap.size;have s1:=hB1.size;have hu3:=hu1.below hB1;have hdal:da.length≤60000:=Nat.le_trans (jbb hda hl0) (by omega)
  go_wp2_with fail
  refine (je5 _ B _ da hu3 hdal).mono ?_;rintro e w2 ⟨hb2,u,rfl,hu⟩;obtain ⟨A3,cap3,rfl⟩:=hu.form;have hu4:=(hu.nums hu1.lt).mono s1
  go_wp2_with fail
  go_ret3
  exact ⟨hB1.trans (hb2.mono s1),_,da,rfl,hu4,hda⟩
def toB (x:Nat):Value:=.int .u8 (x:Int)
def OwnB (w:World) (base:Nat) (v:Value) (l:List Nat):Prop:=w.ownsRow base 5 1 v l.length (l.map toB)
theorem OwnB.form {w:World} {base:Nat} {v:Value} {l:List Nat} (h:OwnB w base v l) (hl:0<l.length):∃g cap,v=.slice (some ⟨g,0,none⟩) l.length cap∧base≤g∧g<w.heap.size∧
    (∀i,i<l.length→w.cell? ⟨g,i,none⟩=some (toB (nth l i)))∧(∀i,w.frozen? ⟨g,i,none⟩=false):=by
  have h':=h
  rcases h.2 with ⟨rfl,h0⟩ | ⟨g,cap,cur,rfl,r⟩
  · omega
  · have hg:=World.ownsRow.lt h' g rfl
    refine ⟨g,cap,rfl,hg.1,hg.2,fun i hi=>?_,fun i=>World.ownsRow.frozenAt h' i⟩;rw [World.ownsRow.cellAt h' i (by omega),List.getElem?_map,List.getElem?_eq_getElem hi,L.nth_def,List.getD_eq_getElem?_getD,List.getElem?_eq_getElem hi];rfl
theorem OwnB.nil (w:World) (base:Nat):OwnB w base (.slice none 0 0) []:=World.ownsRow_nil w base _ 1
theorem OwnB.alloc {w:World} {base:Nat} {v:Value} {l:List Nat} (h:OwnB w base v l) (o:Obj):OwnB (w.alloc o) base v l:=World.ownsRow.alloc h o
theorem jld {d:List Nat} {N:Nat} (h:Canon d N) (h0:N≠0) (hN:N<W):d=[N]:=by
  have e:val W [N]=N:=by simp [L.val]
  have h1:d=dig W (val W [N]):=by rw [e];exact h
  rw [h1];refine L.dig_val W_gt [N] (by simpa using hN) ?_;intro x hx hx0;simp at hx
  omega
end
end
section
section
open Go.RowKit
open L (val dig nth)
def pNeg (b:Nat):Bool:=decide (9223372036854775808≤b)
def pFld (b:Nat):Nat:=b / 4503599627370496%2048
def pFrc (b:Nat):Nat:=b%4503599627370496
theorem and52 (m:Nat) (hm:m<18446744073709551616):bits .and .u64 (m:Int) 4503599627370495=((m%4503599627370496:Nat):Int):=by
  have h:=bits_and_u64_nat m 4503599627370495 hm (by omega);have e:m &&& 4503599627370495=m%4503599627370496:=Nat.and_two_pow_sub_one_eq_mod m 52;rw [e] at h;exact h
theorem and11 (m:Nat) (hm:m<65536):bits .and .u16 (m:Int) 2047=((m%2048:Nat):Int):=by
  have e:m &&& 2047=m%2048:=Nat.and_two_pow_sub_one_eq_mod m 11
  have h1:(BitVec.ofInt 16 (m:Int)).toNat=m:=by
    rw [BitVec.ofInt_natCast,BitVec.toNat_ofNat];exact Nat.mod_eq_of_lt (by omega)
  have h2:(BitVec.ofInt 16 (2047:Int)).toNat=2047:=by decide
  show IntKind.u16.wrap ((BitVec.ofInt 16 (m:Int) &&& BitVec.ofInt 16 (2047:Int)).toNat:Int)=_
  rw [BitVec.toNat_and,h1,h2,e];rw [IntKind.wrap_u16]
  omega
theorem jmz (w:World) (b:Nat) (hb:b<W) :
    Calls Tryz.prog 67 #[.int .u64 b] w fun e w'=>w=w'∧e=.returned (.tuple #[.bool (pNeg b),.int .i64 (pFld b:Nat),.int .u64 (pFrc b:Nat)]):=by
  unfold W at hb;have h52:=and52 b hb
  have h11:bits .and .u16 ((b:Int) / 4503599627370496) 2047=(pFld b:Nat):=by
    have:=and11 (b / 4503599627370496) (by omega);exact this
  have hw:IntKind.i64.wrap (pFld b:Nat)=(pFld b:Nat):=IntWalk.i64_in _ (by unfold pFld;omega)
  go_enter Tryz.func67,Tryz.ntmps67
  go_wp2_with fail
  go_ret3
  refine ⟨rfl,?_⟩
  have e1:((b:Int) / 9223372036854775808 != 0)=pNeg b:=by
    unfold pNeg
    by_cases h:9223372036854775808≤b
    · rw [decide_eq_true h,bne_iff_ne];omega
    · rw [decide_eq_false h,bne_eq_false_iff_eq];omega
  have e2:(b:Int)%4503599627370496=(pFrc b:Nat):=by unfold pFrc;omega
  simp [e1,e2]
theorem jjy (b:Nat):pFld b<2048:=Nat.mod_lt _ (by omega)
def pNorm (b:Nat):Bool:=decide (pFld b≠0∧pFld b≠2047)
def bnE (b:Nat):Int:=if pNorm b then (pFld b:Int) - 1023 else 0
end
end
section
section
open Go.RowKit
open L (val dig nth)
def RetQX (B:Nat) (z x er:Int) (e:Ending) (w:World):Prop:=∃u d,e=.returned (.tuple #[.agg #[.bool (decide (z<0)),u,.int .i64 x],.int .i64 er])∧Nums w B u d∧Canon d z.natAbs
def rM (b:Nat):Int:=ival (pNeg b) (if pFld b=0 then pFrc b else pFrc b+4503599627370496)
def rE (b:Nat):Int:=if pFld b=0 then -1074 else (pFld b:Int) - 1075
def vM (b:Nat):Int:=if pFld b=2047 then 0 else nM (rM b) (rE b)
def vE (b:Nat):Int:=if pFld b=2047 then 0 else nE (rM b) (rE b)
def vX (b:Nat):Int:=if pFld b=2047 then 1 else 0
theorem or52 (a:Nat) (ha:a<4503599627370496):bits .or .u64 (a:Int) 4503599627370496=((a+4503599627370496:Nat):Int):=by
  have h:=bits_or_u64_nat a 4503599627370496 (by omega) (by omega);have e:=jn6 a 1 52 (by omega);rw [Nat.one_mul] at e;rw [show (2^52:Nat)=4503599627370496 from rfl] at e;rw [e] at h;exact h
set_option maxRecDepth 100000 in
theorem jm0 (w:World) (b:Nat) (hb:b<W) :
    Calls Tryz.prog 28 #[.int .u64 b] w fun e w'=>Below w.heap.size w w'∧RetQX w.heap.size (vM b) (vE b) (vX b) e w':=by
  obtain ⟨W0,hW,hrs,hB0,hs⟩:=start1 w 52 #[.bool false,.slice none 0 0,.int .i64 0];have HS:=hide hs;have hs2:w.heap.size<W0.heap.size:=by omega
  clear hs;obtain ⟨c0,c1,c2,c3,c4,c5⟩:=hrs.three
  go_enter Tryz.func28,Tryz.ntmps28
  go_upto_region 1 with (fail)
  rw [←hW];clear hW
  go_wp2_with fail
  refine (jmz _ b hb).mono ?_;rintro e w1 ⟨rfl,rfl⟩;have hf:=jjy b;have hw1:IntKind.i64.wrap ((pFld b:Nat) - 1023:Int)=(pFld b:Nat) - 1023:=IntWalk.i64_in _ (by omega);have hw2:IntKind.i64.wrap ((pFld b:Nat) - 1023 - 52:Int)=(pFld b:Nat) - 1075:=by rw [IntWalk.i64_in _ (by omega)];omega
  by_cases h7:pFld b=2047
  · have h7':(((pFld b:Nat):Int) == 2047)=true:=by rw [beq_iff_eq];omega
    have E1:Hid (vM b=0):=hide (by unfold vM;rw [if_pos h7]);have E2:Hid (vE b=0):=hide (by unfold vE;rw [if_pos h7]);have E3:Hid (vX b=1):=hide (by unfold vX;rw [if_pos h7]);clear h7
    go_wp2_with fail
    rw [E1.out,E2.out,E3.out];refine bodyPost_ret (jcj rfl _ _ _ _ _ _ _ rfl (((hrs.set_ 0 _).set_ 1 _).set_ 2 _)) rfl ⟨below3 hB0 (by omega) _ _ _,?_⟩;exact ⟨_,[],rfl,Nums.nil _ _,(L.dig_zero W).symm⟩
  · have h7':(((pFld b:Nat):Int) == 2047)=false:=by rw [beq_eq_false_iff_ne];omega
    have E1:Hid (vM b=nM (rM b) (rE b)):=hide (by unfold vM;rw [if_neg h7]);have E2:Hid (vE b=nE (rM b) (rE b)):=hide (by unfold vE;rw [if_neg h7]);have E3:Hid (vX b=0):=hide (by unfold vX;rw [if_neg h7]);have hfr:pFrc b<4503599627370496:=Nat.mod_lt _ (by omega);have hor:=or52 (pFrc b) hfr;clear h7
    by_cases h0:pFld b=0
    · have h0':(((pFld b:Nat):Int) == 0)=true:=by rw [beq_iff_eq];omega
      have E4:Hid (rM b=ival (pNeg b) (pFrc b)):=hide (by unfold rM;rw [if_pos h0]);have E5:Hid (rE b = -1074):=hide (by unfold rE;rw [if_pos h0]);clear h0
      go_wp2_with fail
      have hone:=Nums.one W0 (pFrc b:Nat) (pFrc b) rfl (by unfold W;omega);have HP:=jdp _ (pNeg b) 0 _ [pFrc b] (-1074) hone (by simp) (by omega) (by omega);rw [show val W [pFrc b]=pFrc b from by simp [L.val],←E4.out] at HP;obtain ⟨zM,HM⟩:∃zM,Hid (nM (rM b) (-1074)=zM):=⟨_,hide rfl⟩;obtain ⟨zE,HE⟩:∃zE,Hid (nE (rM b) (-1074)=zE):=⟨_,hide rfl⟩;rw [HM.out,HE.out] at HP;refine HP.mono ?_;clear hone;rintro e w2 ⟨hb2,u2,d2,rfl,hu2,hd2⟩;have hrs2:=(hrs.alloc (.cells #[.int .u64 (pFrc b:Nat)] 22)).below hb2 (by simp;omega);obtain ⟨A2,cap2,rfl⟩:=hu2.form;obtain ⟨j0,j1,j2,j3,j4,j5⟩:=hrs2.three;clear HP
      go_wp2_with fail
      have s2:=hb2.size;simp at s2;rw [E1.out,E2.out,E3.out,E5.out,HM.out,HE.out];refine bodyPost_ret (jcj rfl _ _ _ _ _ _ _ rfl (((hrs2.set_ 0 _).set_ 1 _).set_ 2 _)) rfl ⟨below3 ((hB0.alloc (by omega) (.cells #[.int .u64 (pFrc b:Nat)] 22)).trans (hb2.mono (by simp;omega))) (by omega) _ _ _,?_⟩;exact ⟨_,d2,rfl,(jbw hu2 (by simp;omega) _ _ _).mono (by simp;omega),hd2⟩
    · have h0':(((pFld b:Nat):Int) == 0)=false:=by rw [beq_eq_false_iff_ne];omega
      have E4:Hid (rM b=ival (pNeg b) (pFrc b+4503599627370496)):=hide (by unfold rM;rw [if_neg h0]);have E5:Hid (rE b=(pFld b:Int) - 1075):=hide (by unfold rE;rw [if_neg h0]);clear h0
      go_wp2_with fail
      have hone:=Nums.one W0 ((pFrc b+4503599627370496:Nat):Int) (pFrc b+4503599627370496) rfl (by unfold W;omega);have HP:=jdp _ (pNeg b) 0 _ [pFrc b+4503599627370496] ((pFld b:Int) - 1075) hone (by simp) (by omega) (by omega);rw [show val W [pFrc b+4503599627370496]=pFrc b+4503599627370496 from by simp [L.val],←E4.out] at HP;obtain ⟨zM,HM⟩:∃zM,Hid (nM (rM b) ((pFld b:Int) - 1075)=zM):=⟨_,hide rfl⟩;obtain ⟨zE,HE⟩:∃zE,Hid (nE (rM b) ((pFld b:Int) - 1075)=zE):=⟨_,hide rfl⟩;rw [HM.out,HE.out] at HP;refine HP.mono ?_;clear hone;rintro e w2 ⟨hb2,u2,d2,rfl,hu2,hd2⟩;have hrs2:=(hrs.alloc (.cells #[.int .u64 ((pFrc b+4503599627370496:Nat):Int)] 22)).below hb2 (by simp;omega);obtain ⟨A2,cap2,rfl⟩:=hu2.form;obtain ⟨j0,j1,j2,j3,j4,j5⟩:=hrs2.three;clear HP
      go_wp2_with fail
      have s2:=hb2.size;simp at s2;rw [E1.out,E2.out,E3.out,E5.out,HM.out,HE.out];refine bodyPost_ret (jcj rfl _ _ _ _ _ _ _ rfl (((hrs2.set_ 0 _).set_ 1 _).set_ 2 _)) rfl ⟨below3 ((hB0.alloc (by omega) (.cells #[.int .u64 ((pFrc b+4503599627370496:Nat):Int)] 22)).trans (hb2.mono (by simp;omega))) (by omega) _ _ _,?_⟩;exact ⟨_,d2,rfl,(jbw hu2 (by simp;omega) _ _ _).mono (by simp;omega),hd2⟩
end
end
section
section
open Go.RowKit
open L (val dig nth)
def ofLow (m:Int):Int:=max (m - 52) (-1074)
def ofBad (z x m:Int):Prop:=1023<m∨x<ofLow m∨1<(dig W z.natAbs).length
instance (z x m:Int):Decidable (ofBad z x m):=by unfold ofBad;infer_instance
def T63:Nat:=9223372036854775808
theorem jxv:T63=9223372036854775808:=rfl
def ofPat (z x m:Int):Nat:=z.natAbs*2^(x - ofLow m).toNat+(if -1022≤m then (m+1022).toNat*4503599627370496 else 0)+(if z<0 then T63 else 0)
def oB1 (z x:Int):Nat:=if lgOk z x=false then 0 else if ofBad z x (lgN z x) then 0 else ofPat z x (lgN z x)
def oX1 (z x:Int):Int:=if lgOk z x=false then 0 else if ofBad z x (lgN z x) then 1 else 0
theorem or63 (a:Nat) (ha:a<9223372036854775808):bits .or .u64 (a:Int) 9223372036854775808=((a+T63:Nat):Int):=by
  rw [jxv];have h:=bits_or_u64_nat a 9223372036854775808 (by omega) (by omega);have e:=jn6 a 1 63 (by omega);rw [Nat.one_mul] at e;rw [show (2^63:Nat)=9223372036854775808 from rfl] at e;rw [e] at h;exact h
theorem jgj {a b:Int} {v:Value} (h:a=b):Ending.returned (.tuple #[.int .u64 a,v])=.returned (.tuple #[.int .u64 b,v]):=by rw [h]
theorem set3 {w:World} {r:Nat} {t:TypeId} {a b c:Value} (h:Blk w r t #[a,b,c]) (x y u:Value):∃W2,W2=((w.setCell ⟨r,0,none⟩ x).setCell ⟨r,1,none⟩ y).setCell ⟨r,2,none⟩ u∧Blk W2 r t #[x,y,u]∧
    Below r w W2∧(∀B v l,r<B→Nums w B v l→Nums W2 B v l)∧W2.heap.size=w.heap.size:=by
  refine ⟨_,rfl,?_,(((Below.refl _ _).setCell (p:=⟨r,0,none⟩) (Nat.le_refl _) x).setCell (p:=⟨r,1,none⟩) (Nat.le_refl _) y).setCell (p:=⟨r,2,none⟩) (Nat.le_refl _) u,fun B v l hr hn=>jbw hn hr _ _ _,by simp⟩;have:=((h.set_ 0 x).set_ 1 y).set_ 2 u
  simpa using this
theorem jsy {z x:Int} {k:Nat} (hz:z.natAbs<W^k) (hx : -10000≤x∧x≤10000) : -10000≤pE z x∧pE z x≤10000+64*k:=by
  unfold pE;rw [je4] at hz;have:=jvb _ _ hz
  split <;> omega
theorem jsz {z x:Int} {k:Nat} (hz:z.natAbs<W^k) : -10000≤nE z x∧nE z x≤10000+64*k:=by
  have h:=jaw z x;exact jsy (Nat.lt_of_le_of_lt (jjo z x) hz) (by omega)
theorem jvs {z:Int} {k:Nat} (hz:z.natAbs<W^k):(pM z).natAbs<W^k:=Nat.lt_of_le_of_lt (Int.natAbs_ediv_le_natAbs _ _) hz
theorem jvt {z x:Int} {k:Nat} (hz:z.natAbs<W^k):(nM z x).natAbs<W^k:=jvs (Nat.lt_of_le_of_lt (jjo z x) hz)
set_option maxRecDepth 100000 in
theorem jle (w:World) (n:Bool) (B:Nat) (v:Value) (l:List Nat) (x:Int) (h:Nums w B v l) (hl:l.length≤30000) (hx0 : -9223372036854775808≤x) (hx1:x≤9223372036854775807) :
    Calls Tryz.prog 45 #[.agg #[.bool n,v,.int .i64 x]] w fun e w'=>Below w.heap.size w w'∧
      e=.returned (.tuple #[.int .u64 (oB1 (nM (ival n (val W l)) x) (nE (ival n (val W l)) x):Nat),.int .i64 (oX1 (nM (ival n (val W l)) x) (nE (ival n (val W l)) x))]):=by
  have h0:=h;have HLT:=hide h.lt;obtain ⟨A,cap,rfl,-,-,-,hc⟩:=h;obtain ⟨W0,hW,hbx,hB0,hs⟩:=start1 w 52 #[.bool n,.slice A l.length cap,.int .i64 x];have h1:=h0.up hB0;have hs2:w.heap.size<W0.heap.size:=by omega
  clear hs hc;obtain ⟨z0,HZ0⟩:∃z,Hid (ival n (val W l)=z):=⟨_,hide rfl⟩;obtain ⟨c0,c1,c2,c3,c4,c5⟩:=hbx.three
  go_enter Tryz.func45,Tryz.ntmps45
  go_upto_region 1 with (fail)
  rw [←hW];clear hW;have HP:=jcs W0 n B _ l x h1 (by omega) hx0 hx1;obtain ⟨z,HZ⟩:∃z,Hid (nM z0 x=z):=⟨_,hide rfl⟩;obtain ⟨y,HY⟩:∃y,Hid (nE z0 x=y):=⟨_,hide rfl⟩;rw [HZ0.out,HZ.out,HY.out] at HP
  go_wp2_with fail
  refine HP.mono ?_;rintro e w1 ⟨hb1,u,d,rfl,hu,hd⟩;obtain ⟨A1,cap1,rfl⟩:=hu.form;have hbx1:=hbx.below hb1 hs2;obtain ⟨e0,e1,e2,e3,e4,e5⟩:=hbx1.three;clear HP;have hzl:z0.natAbs<W^l.length:=by rw [←HZ0.out];exact jbl HLT.out
  have hyb:=jsz (x:=x) hzl;rw [HY.out] at hyb
  have hdl:d.length≤l.length:=by
    rw [hd.len,←HZ.out];exact jvt hzl
  have hv:Hid (ival (decide (z<0)) (val W d)=z):=hide (by rw [hd.val,jaz]);have HDC:=hide hd;obtain ⟨w2,hW2,hbx2,hB2,hkeep,hs3⟩:=set3 hbx1 (.bool (decide (z<0))) (.slice A1 d.length cap1) (.int .i64 y);have s1:=hb1.size;have hu2:=hkeep _ _ _ hs2 hu;clear hzl hd hkeep
  go_upto_region 2 with (fail)
  rw [←hW2];clear hW2;have HS3:=hide hs3;have hs4:W0.heap.size≤w2.heap.size:=by omega
  have HB2:=hide ((hB0.trans (hb1.mono (by omega))).trans hB2);clear hs3;obtain ⟨f0,f1,f2,-,-,-⟩:=hbx2.three;have HP:=je0 w2 (decide (z<0)) _ _ d y hu2 (by omega) (by omega) (by omega);obtain ⟨m,HM⟩:∃m,Hid (lgN z y=m):=⟨_,hide rfl⟩;obtain ⟨ok,HO⟩:∃ok,Hid (lgOk z y=ok):=⟨_,hide rfl⟩;rw [hv.out,HM.out,HO.out] at HP
  go_wp2_with fail
  refine HP.mono ?_;rintro e w3 ⟨hb3,rfl⟩;clear HP
  cases ok with
  | false=>
    have E1:Hid (oB1 z y=0):=hide (by unfold oB1;rw [if_pos HO.out]);have E2:Hid (oX1 z y=0):=hide (by unfold oX1;rw [if_pos HO.out])
    go_wp2_with fail
    go_ret2
    refine ⟨HB2.out.trans (hb3.mono (by omega)),?_⟩;rw [HZ0.out,HZ.out,HY.out,E1.out,E2.out]
    rfl
  | true=>
    have hbx3:=hbx2.below hb3 (by omega);have hu3:=hu2.below hb3;obtain ⟨g0,g1,g2,-,-,-⟩:=hbx3.three;have hz0:cM z y≠0:=by have:=HO.out;unfold lgOk at this;simpa using this
    have hcm:¬ (y < -4000∨4000<y∨z=0):=by
      intro h;apply hz0;unfold cM;rw [if_pos h]
    have hm:m=y+nbits z.natAbs - 1:=by
      rw [←HM.out];unfold lgN;rw [if_neg hz0];unfold cM cE;rw [if_neg hcm,if_neg hcm]
    have hy1 : -4000≤y:=by omega
    have hy2:y≤4000:=by omega
    have hzn:z≠0:=by omega
    obtain ⟨N,HN⟩:∃N,Hid (z.natAbs=N):=⟨_,hide rfl⟩;rw [HN.out] at hm;have hNp:N≠0:=by have:=HN.out;omega
    have hnb:=jbq hNp
    have hnb2:nbits N≤64*d.length:=by
      rw [jba,←HN.out,←HDC.out.val,←je4];exact L.val_lt d hu.lt
    have hmb1 : -4000≤m:=by omega
    have hmb2:m≤4000+64*30000:=by omega
    have HMN:=hide hm;have HNB2:=hide hnb2;have HDL:Hid ((dig W z.natAbs).length=d.length):=hide (by rw [show d=dig W z.natAbs from HDC.out]);clear hm hnb2 hcm hz0 hyb;have hwm:IntKind.i64.wrap (m - 52)=m - 52:=IntWalk.i64_in _ (by omega);obtain ⟨low,HL⟩:∃low,Hid (max (m - 52) (-1074)=low):=⟨_,hide rfl⟩;have HLO:Hid (ofLow m=low):=hide HL.out;have hlb1 : -1074≤low:=by have:=HL.out;omega
    have hlb2:low≤4000+64*30000:=by have:=HL.out;omega
    go_upto_region 6 with (fail)
    rw [HL.out];have HBB:=hide (HB2.out.trans (hb3.mono (by omega)))
    by_cases hbad:ofBad z y m
    · have E1:Hid (oB1 z y=0):=hide (by unfold oB1;rw [if_neg (by rw [HO.out];simp),HM.out,if_pos hbad])
      have E2:Hid (oX1 z y=1):=hide (by unfold oX1;rw [if_neg (by rw [HO.out];simp),HM.out,if_pos hbad])
      have hb':1023<m∨y<low∨(1:Int)<(d.length:Int):=by
        unfold ofBad at hbad;rw [HLO.out,HDL.out] at hbad
        omega
      clear hbad;have hall:Hid (Below w.heap.size w w3):=HBB
      by_cases h1:1023<m
      · go_wp2_with fail
        go_ret2
        refine ⟨HBB.out,?_⟩;rw [HZ0.out,HZ.out,HY.out,E1.out,E2.out]
        rfl
      · by_cases h2:y<low
        · go_wp2_with fail
          go_ret2
          refine ⟨HBB.out,?_⟩;rw [HZ0.out,HZ.out,HY.out,E1.out,E2.out]
          rfl
        · have h3:(1:Int)<(d.length:Int):=by omega
          clear hb'
          go_wp2_with fail
          go_ret2
          refine ⟨HBB.out,?_⟩;rw [HZ0.out,HZ.out,HY.out,E1.out,E2.out]
          rfl
    · have hg:m≤1023∧low≤y∧d.length≤1:=by
        unfold ofBad at hbad;rw [HLO.out,HDL.out] at hbad
        omega
      have E1:Hid (oB1 z y=ofPat z y m):=hide (by unfold oB1;rw [if_neg (by rw [HO.out];simp),HM.out,if_neg hbad]);have E2:Hid (oX1 z y=0):=hide (by unfold oX1;rw [if_neg (by rw [HO.out];simp),HM.out,if_neg hbad]);clear hbad;obtain ⟨hm1,hly,hdl1⟩:=hg
      have hNW:N<W:=by
        have:=HDC.out;have h1:z.natAbs<W^1:=Nat.lt_of_lt_of_le (by rw [←this.val];exact L.val_lt d hu.lt) (Nat.pow_le_pow_right ja5 hdl1);rw [Nat.pow_one,HN.out] at h1;exact h1
      have hd1:=jld (d:=d) (N:=N) (by rw [←HN.out];exact HDC.out) hNp hNW;subst hd1;obtain ⟨s,hs⟩:∃s:Nat,y - low=s:=⟨(y - low).toNat,by omega⟩;have HS:=hide hs
      have hs63:s≤63:=by
        have:=HMN.out;have:=HL.out
        omega
      have hws:IntKind.i64.wrap (y - low)=(s:Int):=by rw [IntWalk.i64_in _ (by omega)];exact hs
      have hws2:IntKind.u64.wrap (s:Int)=(s:Int):=by rw [IntKind.wrap_u64];omega
      have hlt53:N*2^s<9007199254740992:=by
        have h1:N<2^nbits N:=(jba N (nbits N)).1 (Nat.le_refl _);have h2:N*2^s<2^nbits N*2^s:=Nat.mul_lt_mul_of_pos_right h1 (Nat.two_pow_pos _);rw [←Nat.pow_add] at h2
        have h3:2^(nbits N+s)≤2^53:=Nat.pow_le_pow_right (by omega) (by
          have:=HMN.out;have:=HL.out
          omega)
        rw [show (2:Nat)^53=9007199254740992 from rfl] at h3
        omega
      have hshl:=jfg N s;rw [Nat.mod_eq_of_lt (show N*2^s<W from by unfold W;omega)] at hshl;obtain ⟨A9,cap9,hAeq,-,-,-,hcell⟩:=hu3;injection hAeq with hAeq hxx hcapeq
      subst hAeq hcapeq;obtain ⟨b1,o1,rfl,-,-,hcell1⟩:=hcell (by simp);have hcl:=hcell1 0 (by simp);simp only [Nat.add_zero] at hcl;have hcl':w3.cell? ⟨b1,o1,none⟩=some (.int .u64 (N:Int)):=by rw [hcl];simp [L.nth]
      clear hcell1 hcell hcl hs
      go_upto_region 8 with (fail)
      go_quiet (fail)
      go_upto_region 9 with (fail)
      obtain ⟨p,HPp⟩:∃p:Nat,Hid (N*2^s=p):=⟨_,hide rfl⟩;have hp:(N:Int)*2^s=(p:Nat):=by rw [natpow,←Int.natCast_mul,HPp.out]
      rw [HPp.out] at hlt53;rw [hp];have hcn:∀nq,(w3.drewN nq).cell? ⟨w.heap.size,0,none⟩=some (.bool (decide (z<0))):=fun nq=>g0
      have HPAT:Hid (ofPat z y m=p+(if -1022≤m then (m+1022).toNat*4503599627370496 else 0)+(if z<0 then T63 else 0)):=hide (by
        unfold ofPat;rw [HN.out,HLO.out,HS.out,Int.toNat_natCast,HPp.out])
      clear hp hshl hcl' hws hws2
      by_cases hge : -1022≤m
      · obtain ⟨k,hk⟩:∃k:Nat,m+1022=k:=⟨(m+1022).toNat,by omega⟩
        have hk2:k≤2045:=by omega
        have hor0:=or63 (p+k*4503599627370496) (by omega);rw [show ((p+k*4503599627370496:Nat):Int)=(p:Int)+(m+1022)*4503599627370496 from by omega] at hor0;obtain ⟨q,HQ⟩:∃q:Int,Hid (((p+k*4503599627370496+T63:Nat):Int)=q):=⟨_,hide rfl⟩;have hor:bits .or .u64 ((p:Int)+(m+1022)*4503599627370496) 9223372036854775808=q:=hor0.trans HQ.out;clear hor0;have HKm:Hid (m+1022=(k:Int)):=hide hk;have HK:Hid ((m+1022).toNat=k):=hide (by omega);clear hk
        by_cases hneg:z<0
        · have hdz:decide (z<0)=true:=decide_eq_true hneg
          rw [hdz] at hcn;have HF:Hid (oB1 z y=p+k*4503599627370496+T63):=hide (by rw [E1.out,HPAT.out,if_pos hge,if_pos hneg,HK.out])
          go_wp2_with fail
          go_ret2
          refine ⟨bdrewN HBB.out _,?_⟩;rw [HZ0.out,HZ.out,HY.out,HF.out,E2.out];exact jgj HQ.out.symm
        · have hdz:decide (z<0)=false:=decide_eq_false hneg
          rw [hdz] at hcn;have HF:Hid (oB1 z y=p+k*4503599627370496):=hide (by rw [E1.out,HPAT.out,if_pos hge,if_neg hneg,HK.out,Nat.add_zero]);clear hor
          go_wp2_with fail
          go_ret2
          refine ⟨bdrewN HBB.out _,?_⟩;rw [HZ0.out,HZ.out,HY.out,HF.out,E2.out];have:=HKm.out;exact jgj (by first | (simp;omega) | simp | omega)
      · have hor0:=or63 p (by omega)
        obtain ⟨q,HQ⟩:∃q:Int,Hid (((p+T63:Nat):Int)=q):=⟨_,hide rfl⟩;have hor:bits .or .u64 (p:Int) 9223372036854775808=q:=hor0.trans HQ.out;clear hor0
        by_cases hneg:z<0
        · have hdz:decide (z<0)=true:=decide_eq_true hneg
          rw [hdz] at hcn;have HF:Hid (oB1 z y=p+T63):=hide (by rw [E1.out,HPAT.out,if_neg hge,if_pos hneg,Nat.add_zero])
          go_wp2_with fail
          go_ret2
          refine ⟨bdrewN HBB.out _,?_⟩;rw [HZ0.out,HZ.out,HY.out,HF.out,E2.out];exact jgj HQ.out.symm
        · have hdz:decide (z<0)=false:=decide_eq_false hneg
          rw [hdz] at hcn;have HF:Hid (oB1 z y=p):=hide (by rw [E1.out,HPAT.out,if_neg hge,if_neg hneg];rfl);clear hor
          go_wp2_with fail
          go_ret2
          refine ⟨bdrewN HBB.out _,?_⟩;rw [HZ0.out,HZ.out,HY.out,HF.out,E2.out];exact jgj (by first | (simp;omega) | simp | omega)
end
end
end Go.Proofs.YtllgjggkchgpbaaGreat