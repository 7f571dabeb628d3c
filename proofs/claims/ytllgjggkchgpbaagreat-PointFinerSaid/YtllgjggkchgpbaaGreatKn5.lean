/- nat.long: Knuth's long division. nat.DivMod. -/
import Derived.Test.YtllgjggkchgpbaaGreatKn4
import Derived.Test.YtllgjggkchgpbaaGreatKnuthL
import Derived.Laws.CopyOwn
import Derived.Test.YtllgjggkchgpbaaGreatPats
set_option linter.unusedVariables false
set_option linter.unusedSimpArgs false
namespace Go.Proofs.YtllgjggkchgpbaaGreat
section
section
open Go.RowKit
open L (val dig nth seg Seg)
theorem j2h:W%2=0:=rfl
theorem jvm {q d:List Nat} {m s:Nat} (hq:∀x∈q,x<W) (hm:q.length=m+2) (ht:nth q (m+1)≠0) (hs:64 - nbits (nth q (m+1))=s) (hd:Canon d (val W q*2^s)) :
    d.length=m+2∧W≤2*nth d (m+1)∧val W d=val W q*2^s∧val W d<W^(m+2):=by
  have h0:nth q (m+1)<W:=L.lt_of_getD ja5 q hq _;have hn:nbits (nth q (m+1))≤64:=(jba _ 64).2 h0;have hp:0<nbits (nth q (m+1)):=jbq ht;have e1:=jky q (m+1) hm hq ht
  have hne:val W q≠0:=by
    have:=L.val_last W q (m+1) hm;have h2:0<W^(m+1)*nth q (m+1):=Nat.mul_pos (Nat.pow_pos ja5) (by omega)
    omega
  have h1:=jds (val W q);have h2:=jdr hne;have h3:2^nbits (val W q)*2^s=W^(m+2):=by rw [e1,←Nat.pow_add,je4];congr 1;omega
  have h4:2^(nbits (val W q) - 1)*2=2^nbits (val W q):=by rw [←Nat.pow_succ];congr 1;omega
  have h5:val W q*2^s<W^(m+2):=by rw [←h3];exact Nat.mul_lt_mul_of_pos_right h1 (Nat.two_pow_pos s)
  have h6:W^(m+2)≤2*(val W q*2^s):=by
    rw [←h3,←h4];have:=Nat.mul_le_mul_right (2^s) (Nat.mul_le_mul_right 2 h2);rw [Nat.mul_comm (val W q) 2,Nat.mul_assoc 2] at this;exact this
  have hl1:d.length≤m+2:=hd.len.2 h5
  have hl2:¬ d.length≤m+1:=fun h=>by
    have h7:=hd.len.1 h;have h8:W^(m+2)=W^(m+1)*W:=Nat.pow_succ _ _;have h9:W^(m+1)*2≤W^(m+1)*W:=Nat.mul_le_mul_left _ (by unfold W;omega)
    omega
  have hv:=hd.val;obtain ⟨vl,g1,g2⟩:=L.tops ja5 d (by rw [show d=dig W _ from hd];exact L.dig_lt W_gt _) (m+1);rw [L.drop_top W d (m+1) (by omega)] at g1;refine ⟨by omega,L.top_half j2h g1 g2 (by rw [hv];exact h6),hv,by rw [hv];exact h5⟩
theorem jk0 (d:List Nat) (n:Nat) (h:d.length≤n):splice ((List.replicate n 0).map toU) 0 (d.map toU)=(d ++ List.replicate (n - d.length) 0).map toU:=by
  simp [splice,List.map_append,List.drop_replicate]
theorem jzq (d:List Nat) (k:Nat):val W (d ++ List.replicate k 0)=val W d:=by rw [L.val_append,L.val_replicate,Nat.mul_zero,Nat.add_zero]
set_option maxHeartbeats 4000000 in
set_option maxRecDepth 100000 in
theorem jp9 (w:World) (B C:Nat) (va vb:Value) (p q:List Nat) (m:Nat) (hp:Nums w B va p) (hq:Nums w C vb q) (hp6:p.length≤30000) (hm:q.length=m+2) (hqp:q.length≤p.length) (ht:nth q (m+1)≠0) :
    Calls Tryz.prog 197 #[va,vb] w fun e w'=>Below w.heap.size w w'∧RetQR w.heap.size (val W p / val W q) (val W p%val W q) e w':=by
  have hp0:=hp.lt;have hq0:=hq.lt;have hp':=hp;have hq':=hq;obtain ⟨A1,c1,rfl,-,-,-,hcp⟩:=hp;obtain ⟨A2,c2,rfl,-,-,-,hcq⟩:=hq;obtain ⟨b2,o2,rfl,-,hb2,hcell2⟩:=hcq (by omega);have hc:=hcell2 (m+1) (by omega);obtain ⟨nq,HNQ⟩:∃n,Hid (q.length=n):=⟨_,hide rfl⟩;have hqx:=jbo hq0 (m+1);obtain ⟨tq,HTQ⟩:∃n,Hid (nth q (m+1)=n):=⟨_,hide rfl⟩;have HLZ:=hide (jil (nth q (m+1)) hqx w);obtain ⟨s,HS⟩:∃s,Hid (64 - nbits (nth q (m+1))=s):=⟨_,hide rfl⟩;rw [HS.out,HTQ.out] at HLZ;rw [HTQ.out] at hc;have hs:s≤64:=by have:=HS.out;omega
  have hcl:clampN (s:Int)=s:=by unfold clampN;omega
  have hi:IntKind.i64.wrap ((nq:Int) - 1)=((m+1:Nat):Int):=by have:=HNQ.out;rw [IntWalk.i64_in _ (by omega)];omega
  have HT:=hide ht;clear hcell2 hcq hqx ht;have hnq:(((m+1:Nat)):Int)<(nq:Int):=by have:=HNQ.out;omega
  have hnq':(m:Int)+1<(nq:Int):=by omega
  rw [HNQ.out] at hq' ⊢
  go_enter Tryz.func197,Tryz.ntmps197
  go_wp2_with fail
  refine (HLZ.out).mono ?_;rintro e w1 ⟨rfl,rfl⟩;have HSH:=jd6 w C _ q s hq' (by have:=HNQ.out;omega) (by omega) (by omega);rw [hcl] at HSH;have HSHH:=hide HSH;clear HSH
  go_wp2_with fail
  refine HSHH.out.mono ?_;rintro e w1 ⟨hb1,uv,dv,rfl,hv,hdv⟩;obtain ⟨l1,l2,l3,l4⟩:=jvm hq0 hm HT.out HS.out hdv;have HDV:=hide hdv;obtain ⟨Av,cv,rfl⟩:=hv.form
  obtain ⟨gv,ov,rfl,hgv1,hgv2⟩:∃gv ov,Av=some ⟨gv,ov,none⟩∧w.heap.size≤gv∧gv<w1.heap.size:=by
    obtain ⟨A',c',e1,-,-,-,h5⟩:=hv;injection e1 with e1 _ _
    subst e1;obtain ⟨b,off,a1,a2,a3,-⟩:=h5 (by omega);exact ⟨b,off,a1,a2,a3⟩
  obtain ⟨N,HN⟩:∃n,Hid (p.length+1=n):=⟨_,hide rfl⟩;have hmk:=je3 ((p.length:Int)+1) N (by have:=HN.out;omega) (by have:=HN.out;omega);have hO2:Out (w1.alloc (.cells (zer N) 22)) w1.heap.size (List.replicate N 0):=Out.made w1 N;have hbA:Below w1.heap.size w1 (w1.alloc (.cells (zer N) 22)):=(Below.refl _ _).alloc (Nat.le_refl _) _;have HSH:=jd6 (w1.alloc (.cells (zer N) 22)) B _ p s ((hp'.below hb1).below hbA) (by omega) (by omega) (by omega);rw [hcl] at HSH;have HSHH:=hide HSH;clear HSH;have HL2:=hide l2;have HL3:=hide l3;have HL4:=hide l4;have HL1:=hide l1;obtain ⟨nv,HNV⟩:∃n,Hid (dv.length=n):=⟨_,hide rfl⟩;have HNM:Hid (nv=m+2):=hide (by rw [←HNV.out];exact l1);clear l1 l2 l3 l4 hdv;rw [HNV.out] at hv ⊢
  go_wp2_with fail
  refine HSHH.out.mono ?_;rintro e w3 ⟨hb3,us,ds,rfl,hus,hds⟩;have hgl:w1.heap.size<(w1.alloc (.cells (zer N) 22)).heap.size:=hO2.lt;have hO3:=hO2.below hb3 hgl;have hv3:=(hv.below hbA).below hb3;have hb13:Below w.heap.size w w3:=hb1.trans ((hbA.mono hb1.size).trans (hb3.mono (by have:=hb1.size;omega)))
  have hdsl:ds.length≤N:=by
    rw [hds.len,←HN.out,Nat.pow_succ];have h1:=L.val_lt p hp0;have h2:2^s≤W:=by rw [show W=2^64 from rfl];exact Nat.pow_le_pow_right (by omega) hs
    exact Nat.lt_of_lt_of_le (Nat.mul_lt_mul_of_pos_right h1 (Nat.two_pow_pos s)) (Nat.mul_le_mul_left _ h2)
  have HDS:=hide hds;have hds0:=hus.lt;obtain ⟨As,cs,rfl⟩:=hus.form
  have hus5:0<ds.length→∃ad,As=some ad∧∀j v,(ds.map toU)[j]? = some v→w3.cell? (ad.add j)=some v:=by
    intro h0;obtain ⟨A',c',e1,-,-,-,h5⟩:=hus;injection e1 with e1 _ _
    subst e1;obtain ⟨b,off,a1,a2,a3,a4⟩:=h5 h0;refine ⟨_,a1,fun j v hj=>?_⟩
    have hjl:j<ds.length:=by
      rcases Nat.lt_or_ge j ds.length with h | h
      · exact h
      · rw [List.getElem?_eq_none (by simpa using h)] at hj;cases hj
    rw [List.getElem?_map,List.getElem?_eq_getElem hjl] at hj;have hadd:(⟨b,off,none⟩:Addr).add j=⟨b,off+j,none⟩:=by unfold Addr.add;split <;> simp_all
    rw [hadd,a4 j hjl,←hj,L.nth_def,List.getD_eq_getElem?_getD,List.getElem?_eq_getElem hjl];rfl
  have HU5:=hide hus5;obtain ⟨cl,HCL⟩:∃c,Hid (ds.map toU=c):=⟨_,hide rfl⟩;have hcll:cl.length=ds.length:=by rw [←HCL.out];simp
  have hone:∀v∈cl,v.oneCell'=true:=by
    rw [←HCL.out];intro u hu;obtain ⟨x,_,rfl⟩:=List.mem_map.1 hu
    rfl
  have HONE:=hide hone;rw [HCL.out] at HU5;have HCLL:=hide hcll;clear hus hus5 hds hone hcll
  go_upto_region 5 with (refine wpList_copy_splice rfl (.tmp 27) (.tmp 30) _ _ rfl 22 Tryz.underlying24 (by kernel_rfl) _ _ _ _ _ _ (by rfl) (by rfl) w1.heap.size 0 ((List.replicate N 0).map toU) 22 hO3 cl (by rw [HCLL.out];exact (Nat.min_eq_left hdsl).symm) (fun h0=>⟨rfl,HU5.out (by rw [←HCLL.out];exact h0)⟩) (by rw [HCLL.out];simpa using hdsl) HONE.out w1.heap.size w3 (Below.refl _ _) (Nat.le_refl _) ?_;intro w4 HG4 hB4)
  obtain ⟨P0,HP0⟩:∃P,Hid (ds ++ List.replicate (N - ds.length) 0=P):=⟨_,hide rfl⟩
  have hO4:Out w4 w1.heap.size P0:=by
    have h1:=HG4.out;rw [←HCL.out,jk0 ds N hdsl,HP0.out] at h1;exact h1
  have hP0l:P0.length=N:=by rw [←HP0.out];simp;omega
  have hP0W:∀x∈P0,x<W:=by
    rw [←HP0.out];intro x hx
    rcases List.mem_append.1 hx with h | h
    · exact hds0 x h
    · rw [(List.mem_replicate.1 h).2];exact ja5
  have HPV:Hid (val W P0=val W p*2^s):=hide (by rw [←HP0.out,jzq,HDS.out.val])
  have hv4:Nums w4 w.heap.size (.slice (some ⟨gv,ov,none⟩) nv cv) dv:=by
    have h1:=hv3;obtain ⟨A,c,h1,h2,h3,h4,h5⟩:=h1;injection h1 with e1 e2 e3
    subst e1;refine ⟨_,c,by rw [e2,e3],⟨h2.1,fun hB a ha i hi=>?_⟩,h3,h4,fun hp=>?_⟩
    · cases ha
      obtain ⟨b,off,a1,a2,a3,a4⟩:=h5 (by omega)
      cases a1
      exact (jcg (hB4.block _ hgv2) _).trans (h2.2 hB _ rfl i hi)
    · obtain ⟨b,off,a1,a2,a3,a4⟩:=h5 hp
      cases a1
      exact ⟨_,_,rfl,a2,by have:=hB4.size;omega,fun i hi=>(World.cell?_of_block (hB4.block _ hgv2)).trans (a4 i hi)⟩
  have HB4:Hid (Below w.heap.size w w4):=hide (hb13.trans (hB4.mono hb1.size));have hg4:w.heap.size≤w1.heap.size:=hb1.size;have hgl4:=hO4.lt;have hPp:p.length+1=N:=HN.out;have hnm:nv≤N:=by have:=HNQ.out;have:=HNM.out;omega
  have hqp2:(nv:Int)≤(N:Int):=by omega
  obtain ⟨mm,HMM⟩:∃n,Hid (N - nv=n):=⟨_,hide rfl⟩;have hmm:mm+nv=N:=by have:=HMM.out;omega
  have hmk:=je3 ((N:Int) - (nv:Int)) mm (by omega) (by omega);clear HG4 hB4 hb13 hO3 hv3 HU5 HONE HCLL HCL hds0 hdsl hcp hp' hq' hc hi;obtain ⟨V,HV⟩:∃V,Hid (val W dv=V):=⟨_,hide rfl⟩;have HL4':=HL4.out;have HL3':=HL3.out;rw [HV.out] at HL4' HL3';have HVn:=hide HL4';have HVe:=hide HL3';have HMM2:=hide hmm;have HNP:=hide hPp;have hN6:N≤30001:=by omega
  have hmm6:mm≤30001:=by omega
  clear HL4' HL3' hmm hPp
  have HTOPS:Hid (val W (P0.drop mm)<V):=hide (by
    have hql:0<val W q:=by
      refine Nat.pos_of_ne_zero fun h0=>?_
      have h1:=L.val_last W q (m+1) hm;have h2:0<W^(m+1)*nth q (m+1):=Nat.mul_pos (Nat.pow_pos ja5) (Nat.pos_of_ne_zero HT.out)
      omega
    have hq1:W^(m+1)≤val W q:=by
      have h1:=L.val_last W q (m+1) hm;have h2:W^(m+1)*1≤W^(m+1)*nth q (m+1):=Nat.mul_le_mul_left _ (Nat.pos_of_ne_zero HT.out)
      omega
    rw [L.val_drop W ja5 P0 hP0W,HPV.out,HVe.out,Nat.div_lt_iff_lt_mul (Nat.pow_pos ja5)];have h1:=L.val_lt p hp0;have h3:p.length=m+1+mm:=by have:=HMM2.out;have:=HNM.out;have:=HNP.out;omega
    have h4:W^p.length=W^(m+1)*W^mm:=by rw [h3,Nat.pow_add]
    have h5:val W p*2^s<W^p.length*2^s:=Nat.mul_lt_mul_of_pos_right h1 (Nat.two_pow_pos s)
    have h6:W^p.length*2^s≤val W q*2^s*W^mm:=by
      rw [h4,Nat.mul_right_comm];exact Nat.mul_le_mul_right _ (Nat.mul_le_mul_right _ hq1)
    omega)
  go_wp2_with fail
  clear hmk
  go_loopw [12] (fun i wr=>∃(k:Nat) (P' o:List Nat),k≤mm∧i=.int .i64 ((k:Int) - 1)∧Out wr w1.heap.size P'∧Out wr w4.heap.size o∧Hid (P'.length=N)∧Hid (o.length=mm)∧Hid (∀x∈P',x<W)∧Hid (∀x∈o,x<W)∧
      Hid (val W P0=val W P'+V*(W^k*val W (o.drop k)))∧Hid (val W (P'.drop k)<V)∧Hid (Below w.heap.size w wr)∧Nums wr w.heap.size (.slice (some ⟨gv,ov,none⟩) nv cv) dv) (fun i _=>(intOf i+1).toNat)
  case atStart=>
    exact ⟨mm,P0,_,Nat.le_refl _,rfl,hO4.alloc _,Out.made w4 mm,hide hP0l,hide (by simp),hide hP0W,hide (fun x hx=>by rw [(List.mem_replicate.1 hx).2];exact ja5),hide (by rw [List.drop_eq_nil_of_le (by simp)];simp [L.val]),HTOPS,hide (HB4.out.alloc (by omega) _),hv4.alloc _⟩
  case round=>
    obtain ⟨k,P',o,hk,rfl,hOu,hOq,HPl,HOl,HPW,HOW,HI,HTP,HB,hv5⟩:=hrel
    cases k with
    | zero=>
      have hge:¬ ((0:Int)≤((0:Nat):Int) - 1):=by omega
      have h1:=HI.out;have h2:=HTP.out;rw [List.drop_zero,Nat.pow_zero,Nat.one_mul,HPV.out,HVe.out] at h1;rw [List.drop_zero,HVe.out] at h2
      have hq1:0<val W q:=by
        refine Nat.pos_of_ne_zero fun h0=>?_
        rw [h0,Nat.zero_mul] at h2
        omega
      obtain ⟨E1,E2⟩:=L.long_end (N:=0) hq1 h1 h2;have HE1:=hide E1;have HE2:=hide E2;have hN1:=hOq.nums (B:=w.heap.size) (by omega) (by have:=HOl.out;omega) HOW.out;rw [HOl.out] at hN1;have hN2:=hOu.nums (B:=w.heap.size) (by omega) (by have:=HPl.out;omega) HPW.out;have HSR:=jlb wr w.heap.size _ P' s hN2 (by rw [HPl.out];omega) (by omega) (by omega);rw [hcl,HPl.out] at HSR;have HSRR:=hide HSR;have HN1:=hide hN1;clear HSR hN1 hN2 E1 E2 h1 h2
      go_wp2_with fail
      refine (jaj _ _ _ _ HN1.out).mono ?_;rintro e w6 ⟨rfl,u6,d6,rfl,hu6,hd6⟩
      go_wp2_with fail
      refine HSRR.out.mono ?_;rintro e w7 ⟨hb7,u7,d7,rfl,hu7,hd7⟩;have hu67:=hu6.below hb7
      go_wp2_with fail
      go_ret3
      refine ⟨HB.out.trans (hb7.mono HB.out.size),u6,d6,u7,d7,rfl,hu67,?_,hu7.mono HB.out.size,?_⟩
      · rw [←HE1.out];exact hd6
      · rw [←HE2.out];exact hd7
    | succ k=>
      have hge:(0:Int)≤((k+1:Nat):Int) - 1:=by omega
      have hk1:((k+1:Nat):Int) - 1=(k:Int):=by omega
      have hj1:k+m+3≤P'.length:=by have:=HPl.out;have:=HMM2.out;have:=HNM.out;omega
      have hj2:(k:Int)+(nv:Int)+1≤(N:Int):=by have:=HMM2.out;omega
      have hlt:=L.long_lt ja5 P' HPW.out k (m+2) V (by have:=HVn.out;omega) HTP.out (by omega);have hgne:gv≠w1.heap.size:=by omega
      have HD:=jmw wr w1.heap.size k cv gv ov m P' dv hOu HPW.out HL1.out hj1 (by rw [HPl.out];omega) (by rw [HNV.out];exact hv5.mono (Nat.zero_le _)) hgne HL2.out (by rw [HV.out];exact hlt);have hl:nv+1=k+nv+1 - k:=by omega
      rw [HNV.out,HV.out,hl] at HD;clear hl;obtain ⟨D,HDV2⟩:∃D,Hid (seg W P' k (m+3) / V=D):=⟨_,hide rfl⟩;rw [HDV2.out] at HD;have hDlt:D<W:=by rw [←HDV2.out,Nat.div_lt_iff_lt_mul (by have:=HTP.out;omega)];exact hlt
      have HDL:=hide hDlt;have HDD:=hide HD;clear HD hDlt;rw [hk1];clear hk1;have hol:k<o.length:=by have:=HOl.out;omega
      go_wp2_with fail
      refine HDD.out.mono ?_;rintro e w5 ⟨ho5,P2,hO5,hS5,hP5,rfl,hseg⟩;have hqne:w4.heap.size≠w1.heap.size:=by omega
      have hOq5:Out w5 w4.heap.size o:=(ho5.2 _ hqne hOq.lt).trans hOq;have HST:=hide (L.long_step ja5 P' P2 o HPW.out (val W P0) k (m+2) V (by have:=HVn.out;omega) HTP.out (by omega) HI.out hol hS5 hseg);rw [show m+2+1=m+3 from rfl,HDV2.out] at HST;have HP2l:Hid (P2.length=N):=hide (hS5.1.trans HPl.out);have HP5:=hide hP5;have HB5:Hid (Below w.heap.size w w5):=hide (HB.out.trans (ho5.1.mono hg4));have hv6:=hv5.only ho5 hgne;have h3:=hOq5.cell hol;have h4:=hOq5.frozen k;clear hS5 hseg hP5 HDD
      go_wp2_with fail
      go_roundw
      case rel=>
        refine ⟨k,P2,_,by omega,by go_num,hO5.far (by simp only;omega) _,hOq5.set k D,HP2l,hide (by simpa using HOl.out),HP5,hide (L.mem_set_lt o HOW.out k D HDL.out),hide HST.out.1,hide HST.out.2,hide (HB5.out.setCell (p:=⟨w4.heap.size,k,none⟩) (by simp only;omega) _),?_⟩;exact hv6.only ((Only.refl w4.heap.size w5).set_ k _) (by omega)
      case measure=>simp [intOf]
end
end
section
section
open Go.RowKit
open L (val dig nth)
set_option maxRecDepth 100000 in
theorem jk1 (w:World) (B C:Nat) (va vb:Value) (la lb:List Nat) (ha:Nums w B va la) (hb:Nums w C vb lb) (h0:val W lb≠0) (hla:la.length≤30000) :
    Calls Tryz.prog 141 #[va,vb] w fun e w'=>Below w.heap.size w w'∧RetQR w.heap.size (val W la / val W lb) (val W la%val W lb) e w':=by
  by_cases hlt:val W la<val W lb
  · refine (jlc w B C va vb la lb ha hb hlt (by omega)).mono ?_
    rintro e w' ⟨hb',u,d,rfl,hu,hd⟩;refine ⟨hb',_,[],u,d,rfl,Nums.nil _ _,?_,hu,?_⟩
    · rw [Nat.div_eq_of_lt hlt];exact (L.dig_zero W).symm
    · rw [Nat.mod_eq_of_lt hlt];exact hd
  · have hl0:=ha.lt
    have hcmp:¬ (cmpN (val W la) (val W lb)<0):=by unfold cmpN;split <;> (try split) <;> omega
    obtain ⟨c,HC⟩:∃c,Hid (cmpN (val W la) (val W lb)=c):=⟨_,hide rfl⟩;rw [HC.out] at hcmp;have HLT:=hide hlt;have H0:=hide h0
    go_enter Tryz.func141,Tryz.ntmps141
    go_wp2_with fail
    refine (jaj _ B _ la ha).mono ?_;rintro e w1 ⟨rfl,u1,da,rfl,hu1,hda⟩;obtain ⟨A1,cap1,rfl⟩:=hu1.form
    go_wp2_with fail
    refine (jaj _ C _ lb hb).mono ?_;rintro e w1 ⟨rfl,u2,db,rfl,hu2,hdb⟩;obtain ⟨A2,cap2,rfl⟩:=hu2.form
    have hdbl:((db.length:Int) == 0)=false:=by
      rw [beq_eq_false_iff_ne];intro h;exact h0 (hdb.nil_iff.1 (List.eq_nil_of_length_eq_zero (by omega)))
    have hpos:0<db.length:=by
      rcases Nat.eq_zero_or_pos db.length with h | h
      · rw [h] at hdbl;exact absurd hdbl (by decide)
      · exact h
    have HDA:=hide hda;have HDB:=hide hdb;have hdal:da.length≤30000:=Nat.le_trans (jbb hda hl0) hla;clear hlt h0 hda hdb
    go_wp2_with fail
    refine (jct _ B C _ _ da db hu1 hu2).mono ?_;rintro e w1 ⟨hdr,rfl⟩;rw [HDA.out.val,HDB.out.val,HC.out];have hB1:=hdr.below w.heap.size;have s1:=hB1.size;have hu3:=hu1.below hB1;have hu4:=hu2.below hB1;have htop:=HDB.out.last hpos
    by_cases h1:db.length=1
    · obtain ⟨y,rfl⟩:∃y,db=[y]:=List.length_eq_one_iff.1 h1
      have hy:=hu4.lt y (by simp);have hvy:val W lb=y:=by rw [←HDB.out.val];simp [L.val]
      have hy0:0<y:=by
        have:=H0.out
        omega
      obtain ⟨b2,off2,rfl,-,-,hc2,-,-⟩:∃b off,A2=some ⟨b,off,none⟩∧True∧True∧w1.cell? ⟨b,off+0,none⟩=some (.int .u64 (y:Nat))∧True∧True:=by
        obtain ⟨A,c',e1,-,-,-,h5⟩:=hu4;injection e1 with e1 _ _
        subst e1;obtain ⟨b,off,a1,-,-,a4⟩:=h5 (by simp);exact ⟨b,off,a1,trivial,trivial,a4 0 (by simp),trivial,trivial⟩
      have hc3:w1.cell? ⟨b2,off2,none⟩=some (.int .u64 (y:Nat)):=hc2;have HV:=hide hvy;clear hvy hc2 htop h1
      go_wp2_with fail
      refine (jmv w1 B _ da y hu3 (by omega) hy0 hy).mono ?_;rintro e w2 ⟨hb2,u,d,u',d',rfl,hu,hd,hu',hd'⟩;rw [HDA.out.val,←HV.out] at hd hd'
      go_wp2_with fail
      go_ret3
      exact ⟨hB1.trans (hb2.mono s1),u,d,u',d',rfl,hu.mono s1,hd,hu'.mono s1,hd'⟩
    · have h1':((db.length:Int) == 1)=false:=by rw [beq_eq_false_iff_ne];omega
      obtain ⟨m,hm⟩:∃m,db.length=m+2:=⟨db.length - 2,by omega⟩
      have hle:db.length≤da.length:=by
        rw [HDB.out.len];have h2:=HLT.out;have h3:val W la<W^da.length:=HDA.out.len.1 (Nat.le_refl _)
        omega
      have HL:=hide (jp9 w1 B C _ _ da db m hu3 hu4 hdal hm hle (by rw [show m+1=db.length - 1 from by omega];exact htop));rw [HDA.out.val,HDB.out.val] at HL;clear htop hm hle h1
      go_wp2_with fail
      refine HL.out.mono ?_;rintro e w2 ⟨hb2,u,d,u',d',rfl,hu,hd,hu',hd'⟩
      go_wp2_with fail
      go_ret3
      exact ⟨hB1.trans (hb2.mono s1),u,d,u',d',rfl,hu.mono s1,hd,hu'.mono s1,hd'⟩
end
end
end Go.Proofs.YtllgjggkchgpbaaGreat