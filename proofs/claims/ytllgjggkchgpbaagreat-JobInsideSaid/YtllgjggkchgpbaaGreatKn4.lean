/- nat.digit: one limb of a quotient, Knuth's way. -/
import Derived.Test.YtllgjggkchgpbaaGreatKn2
set_option linter.unusedVariables false
set_option linter.unusedSimpArgs false
namespace Go.Proofs.YtllgjggkchgpbaaGreat
open Go.RowKit
open L (val dig nth seg Seg)
theorem Dr.cell {w w':World} (h:Dr w w') (a:Addr):w'.cell? a=w.cell? a:=by
  obtain ⟨k,rfl⟩:=h
  rfl
theorem Dr.only {w w':World} (h:Dr w w') (g:Nat):Only g w w':=by
  obtain ⟨k,rfl⟩:=h;exact ⟨(Dr.refl _).next k |>.below _,fun _ _ _=>rfl⟩
theorem Only.drewN {g:Nat} {w w':World} (h:Only g w w') (n:Nat):Only g w (w'.drewN n):=⟨h.1.trans ((Dr.refl _).next n |>.below _),h.2⟩
theorem Nums.only {g gv ov len cap B:Nat} {w w':World} {l:List Nat} (h:Nums w B (.slice (some ⟨gv,ov,none⟩) len cap) l) (hb:Only g w w') (hg:gv≠g):Nums w' B (.slice (some ⟨gv,ov,none⟩) len cap) l:=by
  obtain ⟨A,c,h1,h2,h3,h4,h5⟩:=h;injection h1 with e1 e2 e3
  subst e1;refine ⟨_,c,by rw [e2,e3],⟨h2.1,fun hB a ha i hi=>?_⟩,h3,h4,fun hp=>?_⟩
  · cases ha
    obtain ⟨b,off,a1,a2,a3,a4⟩:=h5 (by omega)
    cases a1
    have:=h2.2 hB _ rfl i hi;exact (jcg (hb.2 _ hg a3) _).trans this
  · obtain ⟨b,off,a1,a2,a3,a4⟩:=h5 hp
    cases a1
    exact ⟨_,_,rfl,a2,by have:=hb.1.size;omega,fun i hi=>(World.cell?_of_block (hb.2 _ hg a3)).trans (a4 i hi)⟩
theorem jp8 (P q:List Nat) (j m:Nat) (hP:∀x∈P,x<W) (hq:∀x∈q,x<W) (hm:q.length=m+2) (hj:j+m+3≤P.length):∃ul vl ul' vl',
    seg W P j (m+3)=((nth P (j+m+2)*W+nth P (j+m+1))*W+nth P (j+m))*W^m+ul∧ul<W^m∧val W q=(nth q (m+1)*W+nth q m)*W^m+vl∧vl<W^m∧
    seg W P j (m+3)=(nth P (j+m+2)*W+nth P (j+m+1))*W^(m+1)+ul'∧ul'<W^(m+1)∧val W q=nth q (m+1)*W^(m+1)+vl'∧vl'<W^(m+1):=by
  have hs:∀x∈(P.drop j).take (m+3),x<W:=fun x hx=>hP x (List.mem_of_mem_drop (List.mem_of_mem_take hx))
  have hsl:((P.drop j).take (m+3)).length=m+3:=by simp;omega
  have hn:∀i,i<m+3→nth ((P.drop j).take (m+3)) i=nth P (j+i):=fun i hi=>by
    rw [←L.nth_drop,L.nth_def,L.nth_def,List.getD_eq_getElem?_getD,List.getD_eq_getElem?_getD,List.getElem?_take_of_lt hi]
  obtain ⟨ul,h1,h2⟩:=L.tops ja5 _ hs m;obtain ⟨vl,h3,h4⟩:=L.tops ja5 _ hq m;obtain ⟨ul',h5,h6⟩:=L.tops ja5 _ hs (m+1);obtain ⟨vl',h7,h8⟩:=L.tops ja5 _ hq (m+1);rw [L.drop_top3 W _ m hsl,hn _ (by omega),hn _ (by omega),hn _ (by omega)] at h1;rw [L.drop_top2 W _ m hm] at h3;rw [L.drop_top2 W _ (m+1) hsl,hn _ (by omega),hn _ (by omega)] at h5;rw [L.drop_top W _ (m+1) hm] at h7;exact ⟨ul,vl,ul',vl',h1,h2,h3,h4,h5,h6,h7,h8⟩
set_option maxHeartbeats 4000000 in
set_option maxRecDepth 100000 in
theorem jmw (w:World) (g j cv gv ov m:Nat) (P q:List Nat) (hO:Out w g P) (hP:∀x∈P,x<W) (hm:q.length=m+2) (hj:j+m+3≤P.length) (hP6:P.length≤100000)
    (hq:Nums w 0 (.slice (some ⟨gv,ov,none⟩) q.length cv) q) (hgv:gv≠g) (htop:W≤2*nth q (m+1)) (hlt:seg W P j (m+3)<W*val W q) :
    Calls Tryz.prog 219 #[.slice (some ⟨g,j,none⟩) (q.length+1) (q.length+1),.slice (some ⟨gv,ov,none⟩) q.length cv] w fun e w'=>
      Only g w w'∧∃P',Out w' g P'∧Seg P P' j (m+3)∧(∀x∈P',x<W)∧e=.returned (.int .u64 (seg W P j (m+3) / val W q:Nat))∧
        seg W P' j (m+3)=seg W P j (m+3)%val W q:=by
  have hq0:=hq.lt;have hqV:=L.val_lt q hq0;obtain ⟨ul,vl,ul',vl',t1,t2,t3,t4,t5,t6,t7,t8⟩:=jp8 P q j m hP hq0 hm hj;obtain ⟨hgl,hcell⟩:=hq.at_ (by omega);obtain ⟨U,HU⟩:∃U,Hid (seg W P j (m+3)=U):=⟨_,hide rfl⟩;obtain ⟨V,HV⟩:∃V,Hid (val W q=V):=⟨_,hide rfl⟩;rw [HU.out] at t1 t5 hlt ⊢;rw [HV.out] at t3 t7 hlt hqV ⊢;rw [hm] at hqV;have cu2:w.cell? ⟨g,j+(m+2),none⟩=some (.int .u64 (nth P (j+m+2):Nat)):=hO.cell (i:=j+(m+2)) (by omega);have cu1:w.cell? ⟨g,j+(m+1),none⟩=some (.int .u64 (nth P (j+m+1):Nat)):=hO.cell (i:=j+(m+1)) (by omega);have cu0:w.cell? ⟨g,j+m,none⟩=some (.int .u64 (nth P (j+m):Nat)):=hO.cell (i:=j+m) (by omega);have cv1:=hcell (m+1) (by omega);have cv0:=hcell m (by omega);have bu2:=jbo hP (j+m+2);have bu1:=jbo hP (j+m+1);have bu0:=jbo hP (j+m);have bv1:=jbo hq0 (m+1);have bv0:=jbo hq0 m
  generalize nth P (j+m+2)=u2 at *
  generalize nth P (j+m+1)=u1 at *
  generalize nth P (j+m)=u0 at *
  generalize nth q (m+1)=v1 at *
  generalize nth q m=v0 at *
  have T1:=hide t1;have T3:=hide t3;have T5:=hide t5;have T7:=hide t7;have HLT:=hide hlt;have HQV:=hide hqV;have HTOP:=hide htop;clear t1 t3 t5 t7 hlt hqV htop hcell;obtain ⟨N,HN⟩:∃n,Hid (q.length=n):=⟨_,hide rfl⟩;have HU':Hid (seg W P j (q.length+1)=U):=hide (by rw [hm];exact HU.out);rw [HN.out] at HU';obtain ⟨N1,HN1⟩:∃n,Hid (m+1=n):=⟨_,hide rfl⟩;have hNm:N=m+2:=by rw [←HN.out,hm]
  have HNm:=hide hNm;rw [←hNm] at cu2;rw [HN1.out] at cu1 cv1;have hn1:IntKind.i64.wrap ((N:Int) - 1)=(N1:Int):=by rw [←HN1.out,IntWalk.i64_in _ (by omega)];omega
  have hn2:IntKind.i64.wrap ((N:Int) - 2)=(m:Int):=by rw [IntWalk.i64_in _ (by omega)];omega
  have i1:(N1:Int)<(N:Int):=by have:=HN1.out;omega
  have i2:(m:Int)<(N:Int):=by omega
  have i3:(N1:Int)<((N+1:Nat):Int):=by have:=HN1.out;omega
  have i4:(m:Int)<((N+1:Nat):Int):=by omega
  have i5:(N:Int)<((N+1:Nat):Int):=by omega
  have i6:(N1:Int)<(N:Int)+1:=by omega
  have i7:(m:Int)<(N:Int)+1:=by omega
  have i8:(N:Int)<(N:Int)+1:=by omega
  rw [HN.out] at hq ⊢;clear hNm hm
  go_enter Tryz.func219,Tryz.ntmps219
  go_upto_region 3 with (fail)
  go_region
  go_upto_if 23 with (fail)
  go_cut [6] (fun s wx=>Hid (Dr w wx)∧∃G:Nat,s=.int .u64 G∧Hid (U<(G+1)*V)∧Hid (G*V≤U+2*V)∧G<18446744073709551616)
  case first=>
    by_cases hlt:u2<v1
    · have hlt':(u2:Int)<(v1:Int):=by omega
      have HD:=jhj u2 u1 v1 hlt bu1 bv1;have HG:=hide (L.guess_ge (by omega) T7.out T5.out t6);have HE:=hide (Nat.div_add_mod (u2*W+u1) v1);have hr:=Nat.mod_lt (u2*W+u1) (show 0<v1 by omega)
      have hql:(u2*W+u1) / v1<W:=by
        rw [Nat.div_lt_iff_lt_mul (by omega)];have:(u2+1)*W≤v1*W:=Nat.mul_le_mul_right _ hlt;rw [Nat.add_mul] at this;have:u1<W:=bu1;rw [Nat.mul_comm W]
        omega
      rw [show u2*18446744073709551616=u2*W from rfl] at HD;obtain ⟨t,HT⟩:∃t,Hid (u2*W+u1=t):=⟨_,hide rfl⟩;rw [HT.out] at HD HG HE hr hql T1 T5;obtain ⟨Q,HQ⟩:∃Q,Hid (t / v1=Q):=⟨_,hide rfl⟩;obtain ⟨R,HR⟩:∃Q,Hid (t%v1=Q):=⟨_,hide rfl⟩;rw [HQ.out] at HD HG HE hql;rw [HR.out] at HD HE hr;have HDD:=hide HD;clear HD
      go_upto_region 4 with (fail)
      go_region_held3 (fun w'=>w'.cell? ⟨g,j+N,none⟩=some (.int .u64 u2)∧w'.cell? ⟨g,j+N1,none⟩=some (.int .u64 u1)∧w'.cell? ⟨gv,ov+N1,none⟩=some (.int .u64 v1)) (go_keep)
        ((go_at_call 217;(with_reducible refine (HDD.out _).mono ?_);rintro e w1 ⟨hd,rfl⟩
          have ku2:w1.cell? ⟨g,j+N,none⟩=some (.int .u64 u2):=(hd.cell _).trans cu2;have ku1:w1.cell? ⟨g,j+N1,none⟩=some (.int .u64 u1):=(hd.cell _).trans cu1;have ku0:w1.cell? ⟨g,j+m,none⟩=some (.int .u64 u0):=(hd.cell _).trans cu0;have kv1:w1.cell? ⟨gv,ov+N1,none⟩=some (.int .u64 v1):=(hd.cell _).trans cv1;have kv0:w1.cell? ⟨gv,ov+m,none⟩=some (.int .u64 v0):=(hd.cell _).trans cv0;have HW:Hid (Dr w w1):=hide (((Dr.refl w).drew.drew).trans hd)))
      clear HDD;have HN2:=hide (L.qhat_near (q:=0) T7.out t8 T5.out (by omega) (by omega));have hv1W:Hid (W≤2*v1):=HTOP
      go_wp2_with fail
      go_loop [7,8] (fun qs rs=>∃Q R:Nat,qs=.int .u64 Q∧rs=.int .u64 R∧Hid (Q*v1+R=t)∧Hid (U<(Q+1)*V)∧R<18446744073709551616∧Q<18446744073709551616) (fun qs _=>(intOf qs).toNat)
      case atStart=>exact ⟨Q,R,rfl,rfl,hide (by rw [Nat.mul_comm];exact HE.out),HG,by omega,hql⟩
      case round=>
        clear HG HE hr hql;obtain ⟨Q,R,rfl,rfl,HE,HG,hR,hQ⟩:=hrel;have HNEAR:∀q,q*v1≤t→q<18446744073709551616→q*V≤U+2*V:=fun q h1 h2=>L.qhat_near T7.out t8 T5.out h1 (by have:=HTOP.out;unfold W at this;omega)
        have HNN:=hide HNEAR;have hst:=fun h=>L.guess_step (V:=V) (U:=U) HE.out h
        have hmul:=jhh Q v0 0 0 0 hQ bv0 ja5 (by omega) ja5;obtain ⟨h,l,-,-,-,-,e1,e2,-⟩:=hmul
        have hhl:h<18446744073709551616:=by
          have h1:Q*v0≤18446744073709551615*18446744073709551615:=Nat.mul_le_mul (by omega) (by omega)
          omega
        have E1:=hide e1;clear e1 HNEAR
        have hgo:¬ (Q*v0≤R*W+u0)→U<Q*V:=fun hno=>by
          refine Nat.lt_of_not_le fun hle=>?_
          have h1:=L.qhat_top T3.out T1.out t2 hle;have h2:=L.guess_fits (b:=W) (q:=Q) (v1:=v1) (v0:=v0) (r:=R) (t:=t) (u0:=u0) rfl rfl HE.out;have h3:Q*(v1*W+v0)=Q*v1*W+Q*v0:=by rw [Nat.mul_add,Nat.mul_assoc]
          have h4:t*W=Q*v1*W+R*W:=by rw [←HE.out,Nat.add_mul]
          rw [h3,h4] at h1
          omega
        by_cases hfit:Q*v0≤R*W+u0
        · have HEND:Hid (Q*V≤U+2*V):=hide (HNN.out Q (by have:=HE.out;omega) hQ)
          have hc:h<R∨h=R∧l≤u0:=by
            have:=E1.out;unfold W at hfit
            omega
          clear hst hgo hfit
          rcases hc with hc | ⟨hc1,hc2⟩
          · have hc':(h:Int)<(R:Int):=by omega
            go_wp2_with fail
            refine (mul64_calls' Q v0 h l hQ bv0 E1.out e2 _).mono ?_;rintro e w2 ⟨rfl,rfl⟩
            go_wp2_with fail
            go_meet
            exact ⟨HW,Q,rfl,HG,HEND,hQ⟩
          · have hc':¬ (h:Int)<(R:Int):=by omega
            have hc3:((h:Int) == (R:Int))=true:=by rw [beq_iff_eq];omega
            have hc4:(l:Int)≤(u0:Int):=by omega
            clear hc1 hc2
            go_wp2_with fail
            refine (mul64_calls' Q v0 h l hQ bv0 E1.out e2 _).mono ?_;rintro e w2 ⟨rfl,rfl⟩
            go_wp2_with fail
            go_meet
            exact ⟨HW,Q,rfl,HG,HEND,hQ⟩
        · have hlt2:=hgo hfit
          have HST:=hide (hst hlt2)
          have hc:¬ h<R∧(h≠R∨u0<l):=by
            have:=E1.out;unfold W at hfit
            omega
          have hc':¬ (h:Int)<(R:Int):=by omega
          have d4:IntKind.u64.wrap ((Q:Int) - 1)=((Q - 1:Nat):Int):=by
            have:=HST.out.1;rw [IntKind.wrap_u64];omega
          have HNX:Hid ((Q - 1)*V≤U+2*V):=hide (HNN.out (Q - 1) (by have:=HST.out.2.1;omega) (by omega));obtain ⟨Q1,HQ1⟩:∃S,Hid (Q - 1=S):=⟨_,hide rfl⟩;have hQ1:Q1<18446744073709551616:=by have:=HQ1.out;omega
          rw [HQ1.out] at d4 HNX HST;obtain ⟨S,HS⟩:∃S,Hid (R+v1=S):=⟨_,hide rfl⟩;rw [HS.out] at HST;have hQlt:Q1<Q:=by have:=HQ1.out;have:=HST.out.1;omega
          clear hst hgo hfit hlt2;have HRR:=hide hR;have hsW:S<36893488147419103232:=by have:=HS.out;omega
          have HSW:=hide hsW;clear hsW
          by_cases hov:18446744073709551616≤S
          · obtain ⟨R2,HR2⟩:∃S',Hid (S - 18446744073709551616=S'):=⟨_,hide rfl⟩
            have d5:IntKind.u64.wrap ((R:Int)+(v1:Int))=(R2:Int):=by have:=HSW.out;have:=HR2.out;have:=HS.out;rw [IntKind.wrap_u64];omega
            have hr2:(R2:Int)<(R:Int):=by have:=HR2.out;have:=HS.out;omega
            clear hov HR2 HSW HRR
            rcases hc.2 with hc2 | hc2
            · have k1:((h:Int) == (R:Int))=false:=by rw [beq_eq_false_iff_ne];omega
              clear hc hc2
              go_wp2_with fail
              refine (mul64_calls' Q v0 h l hQ bv0 E1.out e2 _).mono ?_;rintro e w2 ⟨rfl,rfl⟩
              go_wp2_with fail
              go_meet
              exact ⟨HW,Q1,rfl,hide HST.out.2.2,HNX,hQ1⟩
            · by_cases hc3:h=R
              · have k1:((h:Int) == (R:Int))=true:=by rw [beq_iff_eq];omega
                have k2:¬ (l:Int)≤(u0:Int):=by omega
                clear hc hc2 hc3
                go_wp2_with fail
                refine (mul64_calls' Q v0 h l hQ bv0 E1.out e2 _).mono ?_;rintro e w2 ⟨rfl,rfl⟩
                go_wp2_with fail
                go_meet
                exact ⟨HW,Q1,rfl,hide HST.out.2.2,HNX,hQ1⟩
              · have k1:((h:Int) == (R:Int))=false:=by rw [beq_eq_false_iff_ne];omega
                clear hc hc2 hc3
                go_wp2_with fail
                refine (mul64_calls' Q v0 h l hQ bv0 E1.out e2 _).mono ?_;rintro e w2 ⟨rfl,rfl⟩
                go_wp2_with fail
                go_meet
                exact ⟨HW,Q1,rfl,hide HST.out.2.2,HNX,hQ1⟩
          · have d5:IntKind.u64.wrap ((R:Int)+(v1:Int))=(S:Int):=by have:=HS.out;rw [IntKind.wrap_u64];omega
            have hr2:¬ (S:Int)<(R:Int):=by have:=HS.out;omega
            have HOV:=hide hov;clear hov
            rcases hc.2 with hc2 | hc2
            · have k1:((h:Int) == (R:Int))=false:=by rw [beq_eq_false_iff_ne];omega
              clear hc hc2
              go_wp2_with fail
              refine (mul64_calls' Q v0 h l hQ bv0 E1.out e2 _).mono ?_;rintro e w2 ⟨rfl,rfl⟩
              go_wp2_with fail
              go_round
              case rel=>exact ⟨Q1,S,rfl,rfl,hide HST.out.2.1,hide HST.out.2.2,by have:=HOV.out;omega,hQ1⟩
              case measure=>simp [intOf];omega
            · by_cases hc3:h=R
              · have k1:((h:Int) == (R:Int))=true:=by rw [beq_iff_eq];omega
                have k2:¬ (l:Int)≤(u0:Int):=by omega
                clear hc hc2 hc3
                go_wp2_with fail
                refine (mul64_calls' Q v0 h l hQ bv0 E1.out e2 _).mono ?_;rintro e w2 ⟨rfl,rfl⟩
                go_wp2_with fail
                go_round
                case rel=>exact ⟨Q1,S,rfl,rfl,hide HST.out.2.1,hide HST.out.2.2,by have:=HOV.out;omega,hQ1⟩
                case measure=>simp [intOf];omega
              · have k1:((h:Int) == (R:Int))=false:=by rw [beq_eq_false_iff_ne];omega
                clear hc hc2 hc3
                go_wp2_with fail
                refine (mul64_calls' Q v0 h l hQ bv0 E1.out e2 _).mono ?_;rintro e w2 ⟨rfl,rfl⟩
                go_wp2_with fail
                go_round
                case rel=>exact ⟨Q1,S,rfl,rfl,hide HST.out.2.1,hide HST.out.2.2,by have:=HOV.out;omega,hQ1⟩
                case measure=>simp [intOf];omega
    · have hlt':¬ (u2:Int)<(v1:Int):=by omega
      go_wp2_with fail
      go_meet
      refine ⟨hide (Dr.refl _).drew,18446744073709551615,rfl,hide ?_,hide ?_,by omega⟩
      · exact HLT.out
      · refine L.qhat_near T7.out t8 T5.out ?_ ?_
        · have h1:v1*W≤u2*W:=Nat.mul_le_mul_right _ (by omega)
          have h2:18446744073709551615*v1≤v1*W:=by rw [Nat.mul_comm];exact Nat.mul_le_mul_left _ (by unfold W;omega)
          omega
        · have:=HTOP.out
          unfold W at this
          omega
  case rest=>
    obtain ⟨HD,G,rfl,HG1,HG2,hG⟩:=hcut;clear cu0 cu1 cu2 cv0 cv1 hn1 hn2 i1 i2 i3 i4 i6 i7;have hN3:N+1=m+3:=by have:=HNm.out;omega
    have HN3:=hide hN3;have hj2:j+N+1≤P.length:=by omega
    have HT:=jmt wc g j cv gv ov G P q (hO.below (HD.out.below (g+1)) (by omega)) hP (by rw [HN.out];exact hj2) hP6 (by rw [HN.out];exact hq.below (HD.out.below _)) hgv hG;rw [HN.out,HU'.out,HV.out] at HT;have HTT:=hide HT;clear HT hN3
    go_wp2_with fail
    refine HTT.out.mono ?_;rintro e w1 ⟨ho1,P1,d,hO1,hS1,hP1,hd1,rfl,hseg⟩;have HON:Hid (Only g w w1):=hide ((Dr.only HD.out g).trans ho1);have HS1:=hide hS1;have HE:=L.digit_end W_gt HQV.out HLT.out (g:=G) (o:=seg W P1 j (N+1)) (d:=d) (n:=m+2) (by have h1:=hseg;rw [HN3.out] at h1 ⊢;exact h1) (by rw [HN3.out];exact L.seg_lt P1 hP1 ja5 _ _) hd1 HG1.out HG2.out;clear hseg hS1 HTT
    by_cases hd0:d=0
    · subst hd0
      obtain ⟨-,h1,h2⟩:=HE.resolve_right (fun h=>absurd h.1 (by omega));have H1:=hide h1;have H2:=hide h2;clear h1 h2 HE
      go_wp2_with fail
      go_ret
      refine ⟨HON.out,P1,hO1,by rw [←HN3.out];exact HS1.out,hP1,?_,by rw [←HN3.out];exact H2.out⟩;rw [←H1.out]
      rfl
    · obtain ⟨-,hg0,h2,h3⟩:=HE.resolve_left (fun h=>hd0 h.1)
      have H2:=hide h2;have H3:=hide h3;clear h2 h3 HE;have hdb:decide (d≠0)=true:=decide_eq_true hd0;have hd4:¬ (d=0):=hd0;obtain ⟨F,HF⟩:∃F,Hid (G - 1=F):=⟨_,hide rfl⟩;have hF:F<18446744073709551616:=by have:=HF.out;omega
      have d4:IntKind.u64.wrap ((G:Int) - 1)=(F:Int):=by have:=HF.out;rw [IntKind.wrap_u64];omega
      have hgf:G=F+1:=by have:=HF.out;omega
      have hj3:j+N+1≤P1.length:=by rw [HS1.out.1];exact hj2
      have hP16:P1.length≤100000:=by rw [HS1.out.1];exact hP6
      have HT:=jhi w1 g j cv gv ov P1 q hO1 hP1 (by rw [HN.out];exact hj3) hP16 (by rw [HN.out];exact hq.only HON.out hgv) hgv;rw [HN.out,HV.out] at HT;have HTT:=hide HT;have HGF:=hide hgf;clear HT hd0 hgf
      go_wp2_with fail
      refine HTT.out.mono ?_;rintro e w2 ⟨ho2,P2,hO2,hS2,hP2,rfl,hseg2⟩
      have hUW:U<W^(m+3):=by
        have h1:=HLT.out;have h2:W*V<W*W^(m+2):=Nat.mul_lt_mul_of_pos_left HQV.out ja5;rw [show m+3=m+2+1 from rfl,Nat.pow_succ,Nat.mul_comm (W^(m+2))]
        omega
      have HUW:=hide hUW
      have HB:=L.back_step (M:=W^(m+3)) (U:=U) (V:=V) (G:=F) (c:=seg W P1 j (m+3)) (by
        have h1:=H2.out;have h2:=H3.out;have h3:=HG2.out;rw [HN3.out] at h1;rw [HGF.out] at h1 h2 h3;have h4:(F+1)*V=F*V+V:=by rw [Nat.add_mul,Nat.one_mul]
        rw [show m+2+1=m+3 from rfl] at h1
        omega) hUW
      rw [HN3.out] at hseg2;rw [←hseg2] at HB;have HB2:=hide HB;have HO2:Hid (Only g w w2):=hide (HON.out.trans ho2);have HS2:Hid (Seg P P2 j (m+3)):=hide (by have h1:=HS1.out.trans hS2;rw [HN3.out] at h1;exact h1);have HP2:=hide hP2;have HF1:Hid (U<(F+1)*V):=hide (by rw [←HGF.out];exact H3.out);have HF2:Hid (F*V≤U+V):=hide (by have h3:=HG2.out;rw [HGF.out,Nat.add_mul,Nat.one_mul] at h3;omega);clear HB hUW hseg2 hS2 hP2 HTT
      go_wp2_with fail
      go_loopw [6] (fun s wr=>∃(G:Nat) (P':List Nat),s=.int .u64 G∧G<18446744073709551616∧Out wr g P'∧Hid (Seg P P' j (m+3))∧Hid (∀x∈P',x<W)∧Hid (Only g w wr)∧Hid (U<(G+1)*V)∧Hid (G*V≤U+V)∧
        Hid (G*V≤U∧seg W P' j (m+3)=U - G*V∨U<G*V∧seg W P' j (m+3)+G*V=U+W^(m+3))) (fun s _=>(intOf s).toNat)
      case atStart=>exact ⟨F,P2,rfl,hF,hO2,HS2,HP2,HO2,HF1,HF2,HB2⟩
      case round=>
        clear HB2 HF1 HF2 HS2 HP2 HO2 hO2 HGF H2 H3 HG1 HG2 hO1 HS1 HON HD;obtain ⟨G2,P',rfl,hG2,hO',HS,HP,HW,HA,HB,HC⟩:=hrel;have hlen:P'.length=P.length:=HS.out.1;have hol:j+N<P'.length:=by omega
        have hc:=hO'.cell hol
        have hnt:nth P' (j+N)=seg W P' j (m+3) / W^(m+2):=by
          have h1:=L.seg_nth P' HP.out ja5 j (m+2);rw [HNm.out];exact h1
        rcases HC.out with ⟨c1,c2⟩ | ⟨c1,c2⟩
        · obtain ⟨m1,m2⟩:=L.digit_mod c1 HA.out
          have h0:nth P' (j+N)=0:=by
            rw [hnt];refine L.top_none HQV.out ?_;rw [c2,←m2];exact Nat.mod_lt _ (Nat.pos_of_ne_zero fun h=>by have:=HLT.out;rw [h] at this;omega)
          rw [h0] at hc;have M1:=hide m1;have M2:Hid (seg W P' j (m+3)=U%V):=hide (by rw [c2,m2]);clear c1 c2 m1 m2 hnt h0 HC;have hc':wr.cell? ⟨g,j+N,none⟩=some (.int .u64 0):=hc;clear hc
          go_wp2_with fail
          go_ret
          refine ⟨HW.out,P',hO',HS.out,HP.out,?_,M2.out⟩;rw [M1.out]
          rfl
        · have h0:nth P' (j+N)=W - 1:=by
            rw [hnt];exact L.top_full W_gt HQV.out c2 c1 HB.out
          rw [h0] at hc;have hc':wr.cell? ⟨g,j+N,none⟩=some (.int .u64 18446744073709551615):=hc
          have hg0:0<G2:=by
            rcases Nat.eq_zero_or_pos G2 with h | h
            · subst h;omega
            · exact h
          obtain ⟨F,HF⟩:∃F,Hid (G2 - 1=F):=⟨_,hide rfl⟩;have hF:F<18446744073709551616:=by have:=HF.out;omega
          have d4:IntKind.u64.wrap ((G2:Int) - 1)=(F:Int):=by have:=HF.out;rw [IntKind.wrap_u64];omega
          have hgf:G2=F+1:=by have:=HF.out;omega
          have hFlt:F<G2:=by omega
          have HGF:=hide hgf;have HT:=jhi wr g j cv gv ov P' q hO' HP.out (by rw [HN.out];omega) (by rw [hlen];exact hP6) (by rw [HN.out];exact hq.only HW.out hgv) hgv;rw [HN.out,HV.out] at HT;have HTT:=hide HT;have HBK:=L.back_step (M:=W^(m+3)) (U:=U) (V:=V) (G:=F) (c:=seg W P' j (m+3)) (by rw [←hgf];exact c2) HUW.out;have HBB:=hide HBK;have HC1:=hide c1;clear HT hgf hc hnt h0 c1 c2 HC HBK
          go_wp2_with fail
          refine HTT.out.mono ?_;rintro e w3 ⟨ho3,P3,hO3,hS3,hP3,rfl,hseg3⟩;have HS3:Hid (Seg P P3 j (m+3)):=hide (by rw [HN3.out] at hS3;exact HS.out.trans hS3);have HSE:=hide hseg3;have HP3:=hide hP3;have HO3:Hid (Only g w w3):=hide (HW.out.trans ho3);clear hS3 hseg3 hP3 HTT
          go_wp2_with fail
          go_roundw
          case rel=>
            refine ⟨F,P3,rfl,hF,hO3,HS3,HP3,HO3,hide (by rw [←HGF.out];exact HC1.out),hide ?_,hide ?_⟩
            · have h1:=HB.out
              rw [HGF.out,Nat.add_mul,Nat.one_mul] at h1
              omega
            · have h1:=HSE.out
              rw [HN3.out] at h1;rw [h1];exact HBB.out
          case measure=>simp [intOf];omega
end Go.Proofs.YtllgjggkchgpbaaGreat
