/- math/bits: LeadingZeros64 and Div64. nat.short: division by one limb. -/
import Derived.Test.YtllgjggkchgpbaaGreatKn1
import Derived.Deep.CutBlock
set_option linter.unusedVariables false
set_option linter.unusedSimpArgs false
namespace Go.Proofs.YtllgjggkchgpbaaGreat
section
section
open Go.RowKit
open L (val dig nth)
theorem jil (n:Nat) (hn:n<18446744073709551616) (w:World) :
    Calls Tryz.prog 218 #[.int .u64 n] w fun e w'=>w=w'∧e=.returned (.int .i64 ((64 - nbits n:Nat):Int)):=by
  have hl:nbits n≤64:=(jba n 64).2 hn;have hw:IntKind.i64.wrap (64 - (nbits n:Int))=((64 - nbits n:Nat):Int):=by rw [IntWalk.i64_in _ (by omega)];omega
  go_enter Tryz.func218,Tryz.ntmps218
  go_wp2_with fail
  refine (jhf n hn w).mono ?_;rintro e w1 ⟨rfl,rfl⟩
  go_wp2_with fail
  go_ret
  first | exact ⟨rfl,rfl⟩ | exact ⟨rfl,by rw [←hw]⟩
theorem jmu (hi lo y s:Nat) (hs:64 - nbits y=s) (hh:hi<y) (hl:lo<W) (hy:y<W):∃V T Lo v1 v0 u1 u0,y*2^s=V∧V<W∧V=v1*4294967296+v0∧v0<4294967296∧2147483648≤v1∧v1<4294967296∧
    T<V∧Lo=u1*4294967296+u0∧u0<4294967296∧u1<4294967296∧(hi*W+lo)*2^s=T*W+Lo∧lo / 2^(64 - s)+hi*2^s=T∧lo*2^s%W=Lo∧lo / 2^(64 - s)<2^s∧s≤63∧hi*2^s<W:=by
  have hn:nbits y≤64:=(jba y 64).2 hy;have hp:0<nbits y:=jbq (by omega);have hs63:s≤63:=by omega
  have hlt:y*2^s<W:=by
    have h1:=jds y;have h2:2^nbits y*2^s=W:=by rw [←Nat.pow_add,show nbits y+s=64 from by omega];rfl
    have h3:y*2^s<2^nbits y*2^s:=Nat.mul_lt_mul_of_pos_right h1 (Nat.two_pow_pos s)
    omega
  have hge:9223372036854775808≤y*2^s:=by
    have h1:=jdr (n:=y) (by omega);have h2:2^(nbits y - 1)*2^s=9223372036854775808:=by rw [←Nat.pow_add,show nbits y - 1+s=63 from by omega]
    have h3:2^(nbits y - 1)*2^s≤y*2^s:=Nat.mul_le_mul_right _ h1
    omega
  have htop:=jr8 lo s (by omega);have hlow:lo / 2^(64 - s)<2^s:=by rw [Nat.div_lt_iff_lt_mul (Nat.two_pow_pos _),Nat.mul_comm,jdt (by omega)];exact hl
  have hhy:(hi+1)*2^s≤y*2^s:=Nat.mul_le_mul_right _ hh;rw [Nat.add_mul,Nat.one_mul] at hhy;have hmod:=Nat.div_add_mod (lo*2^s) W;have hml:=Nat.mod_lt (lo*2^s) ja5
  have hd:(hi*W+lo)*2^s=(lo / 2^(64 - s)+hi*2^s)*W+lo*2^s%W:=by
    rw [htop,Nat.add_mul,Nat.add_mul];have:hi*W*2^s=hi*2^s*W:=Nat.mul_right_comm _ _ _;rw [Nat.mul_comm W] at hmod
    omega
  refine ⟨y*2^s,_,_,y*2^s / 4294967296,y*2^s%4294967296,lo*2^s%W / 4294967296,lo*2^s%W%4294967296,rfl,hlt,?_,?_,?_,?_,?_,?_,?_,?_,hd,rfl,rfl,hlow,hs63,by have:=Nat.two_pow_pos s;omega⟩
  all_goals (unfold W at *;omega)
set_option maxHeartbeats 4000000 in
set_option maxRecDepth 100000 in
theorem jhj (hi lo y:Nat) (hh:hi<y) (hl:lo<18446744073709551616) (hy:y<18446744073709551616) (w:World) :
    Calls Tryz.prog 217 #[.int .u64 hi,.int .u64 lo,.int .u64 y] w fun e w'=>Dr w w'∧e=.returned (.tuple #[.int .u64 ((hi*18446744073709551616+lo) / y:Nat),.int .u64 ((hi*18446744073709551616+lo)%y:Nat)]):=by
  have y0:((y:Int) == 0)=false:=by rw [beq_eq_false_iff_ne];omega
  have y1:¬ ((y:Int)≤(hi:Int)):=by omega
  by_cases h0:hi=0
  · subst h0
    rw [Nat.zero_mul,Nat.zero_add];obtain ⟨q,HQ⟩:∃q,Hid (lo / y=q):=⟨_,hide rfl⟩;obtain ⟨r,HR⟩:∃r,Hid (lo%y=r):=⟨_,hide rfl⟩;have y2:¬ ((y:Int)=0):=by omega
    have e1:(lo:Int) / (y:Int)=(q:Int):=by rw [←HQ.out];norm_cast
    have e2:(lo:Int)%(y:Int)=(r:Int):=by rw [←HR.out];norm_cast
    have e3:IntKind.u64.wrap (q:Int)=q:=by have:=Nat.div_le_self lo y;rw [HQ.out] at this;rw [IntKind.wrap_u64];omega
    rw [HQ.out,HR.out]
    go_enter Tryz.func217,Tryz.ntmps217
    go_upto_region 6 with (fail)
    go_region
    go_wp2_with fail
    go_ret2
    exact ⟨(Dr.refl _).drew,rfl⟩
  · have h1:((hi:Int) == 0)=false:=by rw [beq_eq_false_iff_ne];omega
    obtain ⟨D,HDD⟩:∃D,Hid ((hi*18446744073709551616+lo) / y=D):=⟨_,hide rfl⟩;obtain ⟨E,HEE⟩:∃D,Hid ((hi*18446744073709551616+lo)%y=D):=⟨_,hide rfl⟩;rw [HDD.out,HEE.out];have HP:=jil y hy w;obtain ⟨s,HS⟩:∃s,Hid (64 - nbits y=s):=⟨_,hide rfl⟩;rw [HS.out] at HP;obtain ⟨V,T,Lo,v1,v0,u1,u0,b1,b2,b3,b4,b5,b6,b7,b8,b9,b10,b11,b12,b13,b14,b15,b16⟩:=jmu hi lo y s HS.out hh hl hy;have hT:T<W:=by omega
    have hLo:Lo<W:=by rw [←b13];exact Nat.mod_lt _ ja5
    have g1:IntKind.u64.wrap (s:Int)=s:=by rw [IntKind.wrap_u64];omega
    have g2:IntKind.u64.wrap (64 - (s:Int))=((64 - s:Nat):Int):=by rw [IntKind.wrap_u64];omega
    have g3:min s 64=s:=by omega
    have g4:min (64 - s) 64=64 - s:=by omega
    have a1:IntKind.u64.wrap ((y:Int)*2^s)=(V:Int):=by rw [jfg,b1,Nat.mod_eq_of_lt b2]
    have a2:(V:Int) / 4294967296=(v1:Int):=by omega
    have a3:bits .and .u64 (V:Int) 4294967295=(v0:Int):=by rw [M64.maskN V b2];omega
    have a4:bits .or .u64 (IntKind.u64.wrap ((hi:Int)*2^s)) ((lo:Int) / 2^(64 - s))=(T:Int):=by
      rw [jfg,Nat.mod_eq_of_lt b16,jc2,bits_or_u64_nat _ _ b16 (by have:=Nat.div_le_self lo (2^(64 - s));omega),Nat.or_comm,jn6 _ _ _ b14,b12]
    have a5:IntKind.u64.wrap ((lo:Int)*2^s)=(Lo:Int):=by rw [jfg,b13]
    have a6:(Lo:Int) / 4294967296=(u1:Int):=by omega
    have a7:bits .and .u64 (Lo:Int) 4294967295=(u0:Int):=by rw [M64.maskN Lo hLo];omega
    have hv1:0<v1:=by omega
    have y3:¬ ((v1:Int)=0):=by omega
    have B11:=hide b11;have B1:=hide b1;have B12:=hide b12;have B3:=hide b3;have B8:=hide b8;clear b11 b1 b12 b13 b14 b16 b3 b8
    -- the first digit
    have HG1:=hide (L.guess_ge (B:=4294967296) (V:=V) (vl:=v0) (U:=T*4294967296+u1) (t:=T) (ul:=u1) hv1 B3.out rfl b10);have HD1:=hide (Nat.div_add_mod T v1);have hm1:=Nat.mod_lt T hv1;have hq1:T / v1<8589934592:=by rw [Nat.div_lt_iff_lt_mul hv1];unfold W at hT;omega
    have c1:(T:Int) / (v1:Int)=((T / v1:Nat):Int):=by norm_cast
    have c1w:IntKind.u64.wrap ((T / v1:Nat):Int)=((T / v1:Nat):Int):=M64.wrapN _ (by omega)
    generalize T / v1=Q at *
    generalize T%v1=R at *
    go_enter Tryz.func217,Tryz.ntmps217
    go_wp2_with fail
    refine HP.mono ?_;rintro e w1 ⟨rfl,rfl⟩
    go_upto_region 15 with (fail)
    clear a1 a3 a4 a5 a7 g1 g2 g3 g4 HP
    have c2:IntKind.u64.wrap ((Q:Int)*(v1:Int))=((Q*v1:Nat):Int):=by
      have:=HD1.out;rw [Nat.mul_comm] at this;rw [M64.mulN,M64.wrapN _ (by unfold W at hT;omega)]
    have c3:IntKind.u64.wrap ((T:Int) - ((Q*v1:Nat):Int))=(R:Int):=by
      have:=HD1.out;rw [Nat.mul_comm] at this;rw [IntKind.wrap_u64];unfold W at hT;omega
    obtain ⟨QV,HQV⟩:∃QV,Hid (Q*v1=QV):=⟨_,hide rfl⟩;rw [HQV.out] at c2 c3
    go_upto_block 0 with (fail)
    obtain ⟨U,HU⟩:∃U,Hid (T*4294967296+u1=U):=⟨_,hide rfl⟩
    go_cut [15] (fun q wx=>w=wx∧∃Q:Nat,q=.int .u64 Q∧Hid (U / V=Q))
    case first=>
      go_wp2_with fail
      go_loop [15,16] (fun q r=>∃Q R:Nat,q=.int .u64 Q∧r=.int .u64 R∧Hid (Q*v1+R=T)∧Hid (U<(Q+1)*V)∧R<4294967296∧Q<8589934592) (fun q _=>(intOf q).toNat)
      case atStart=>exact ⟨Q,R,rfl,rfl,hide (by rw [Nat.mul_comm];exact HD1.out),hide (by rw [←HU.out];exact HG1.out),by omega,hq1⟩
      case round=>
        clear c1 c1w c2 c3 HG1 HD1 hm1 hq1 HQV;obtain ⟨Q,R,rfl,rfl,HD1,HG1,hR,hq1⟩:=hrel;have hst:=fun h=>L.guess_step (V:=V) (U:=U) HD1.out h
        have d3:IntKind.u64.wrap ((R:Int)+(v1:Int))=((R+v1:Nat):Int):=by rw [IntKind.wrap_u64];omega
        have hgo:U<Q*V→IntKind.u64.wrap ((Q:Int) - 1)=((Q - 1:Nat):Int):=fun h=>by
          have:=(hst h).1;rw [IntKind.wrap_u64];omega
        by_cases hq:4294967296≤Q
        · have hq':(4294967296:Int)≤(Q:Int):=by omega
          have hlt:=L.guess_big (V:=V) HU.out.symm b10 b7 hq;have d4:=hgo hlt;have HST:=hide (hst hlt);clear hst hgo hlt
          by_cases hb:4294967296≤R+v1
          · have hb':(4294967296:Int)≤((R+v1:Nat):Int):=by omega
            have HBB:=hide hb;obtain ⟨S,HSS⟩:∃S,Hid (R+v1=S):=⟨_,hide rfl⟩;rw [HSS.out] at hb' d3;clear hb
            go_wp2_with fail
            go_meet
            refine ⟨rfl,Q - 1,rfl,hide (L.quot_of (L.guess_break B3.out b4 HU.out.symm b7 HST.out.2.1 HBB.out) HST.out.2.2)⟩
          · have hb':¬ (4294967296:Int)≤((R+v1:Nat):Int):=by omega
            have HBB:=hide hb;obtain ⟨S,HSS⟩:∃S,Hid (R+v1=S):=⟨_,hide rfl⟩;rw [HSS.out] at hb' d3;clear hb
            go_wp2_with fail
            go_round
            case rel=>exact ⟨Q - 1,S,rfl,rfl,hide (by rw [←HSS.out];exact HST.out.2.1),hide HST.out.2.2,by have:=HBB.out;have:=HSS.out;omega,by omega⟩
            case measure=>have:=HST.out.1;simp [intOf];omega
        · have hq':¬ (4294967296:Int)≤(Q:Int):=by omega
          have hqv:Q*v0≤4294967295*4294967295:=Nat.mul_le_mul (by omega) (by omega);have d1:IntKind.u64.wrap ((Q:Int)*(v0:Int))=((Q*v0:Nat):Int):=by rw [M64.mulN,M64.wrapN _ (by omega)]
          have d2:IntKind.u64.wrap (4294967296*(R:Int))=((R*4294967296:Nat):Int):=by rw [IntKind.wrap_u64];omega
          have d5:IntKind.u64.wrap (((R*4294967296:Nat):Int)+(u1:Int))=((R*4294967296+u1:Nat):Int):=by rw [IntKind.wrap_u64];omega
          obtain ⟨X,HX⟩:∃X,Hid (Q*v0=X):=⟨_,hide rfl⟩;obtain ⟨Y,HY⟩:∃Y,Hid (R*4294967296=Y):=⟨_,hide rfl⟩;obtain ⟨Z,HZ⟩:∃Z,Hid (Y+u1=Z):=⟨_,hide rfl⟩;rw [HX.out] at d1;rw [HY.out] at d2 d5;rw [HZ.out] at d5
          by_cases hx:Z<X
          · have hx':(Z:Int)<(X:Int):=by omega
            have hlt:=L.guess_less (b:=4294967296) (u0:=u1) (r:=R) (q:=Q) (U:=U) B3.out HU.out.symm HD1.out (by rw [HX.out,HY.out,HZ.out];exact hx);have d4:=hgo hlt;have HST:=hide (hst hlt);clear hst hgo hlt hqv
            by_cases hb:4294967296≤R+v1
            · have hb':(4294967296:Int)≤((R+v1:Nat):Int):=by omega
              have HBB:=hide hb;obtain ⟨S,HSS⟩:∃S,Hid (R+v1=S):=⟨_,hide rfl⟩;rw [HSS.out] at hb' d3;clear hb
              go_wp2_with fail
              go_meet
              refine ⟨rfl,Q - 1,rfl,hide (L.quot_of (L.guess_break B3.out b4 HU.out.symm b7 HST.out.2.1 HBB.out) HST.out.2.2)⟩
            · have hb':¬ (4294967296:Int)≤((R+v1:Nat):Int):=by omega
              have HBB:=hide hb;obtain ⟨S,HSS⟩:∃S,Hid (R+v1=S):=⟨_,hide rfl⟩;rw [HSS.out] at hb' d3;clear hb
              go_wp2_with fail
              go_round
              case rel=>exact ⟨Q - 1,S,rfl,rfl,hide (by rw [←HSS.out];exact HST.out.2.1),hide HST.out.2.2,by have:=HBB.out;have:=HSS.out;omega,by omega⟩
              case measure=>have:=HST.out.1;simp [intOf];omega
          · have hx':¬ (Z:Int)<(X:Int):=by omega
            clear hst hgo hqv
            go_wp2_with fail
            go_meet
            refine ⟨rfl,Q,rfl,hide (L.quot_of (L.guess_fits (b:=4294967296) (u0:=u1) B3.out HU.out.symm HD1.out (by rw [HX.out,HY.out,HZ.out];omega)) HG1.out)⟩
    case rest=>
      obtain ⟨rfl,q1,rfl,HQ1⟩:=hcut;clear c1 c1w c2 c3 HG1 HD1 hm1 hq1 HQV;have hV0:0<V:=by omega
      have HR1:=hide (Nat.div_add_mod U V);have hr1:=Nat.mod_lt U hV0;rw [HQ1.out] at HR1;have HT2:=hide (show T=T from rfl);have k1:IntKind.u64.wrap ((T:Int)*4294967296)=((T*4294967296%W:Nat):Int):=by rw [IntKind.wrap_u64];unfold W;omega
      have k2:IntKind.u64.wrap (((T*4294967296%W:Nat):Int)+(u1:Int))=((U%W:Nat):Int):=by rw [IntKind.wrap_u64,←HU.out];unfold W;omega
      have k3:IntKind.u64.wrap ((q1:Int)*(V:Int))=((q1*V%W:Nat):Int):=by rw [M64.mulN,M64.wrapM];rfl
      have k4:IntKind.u64.wrap (((U%W:Nat):Int) - ((q1*V%W:Nat):Int))=((U%V:Nat):Int):=by
        have h1:=HR1.out;rw [Nat.mul_comm] at h1
        generalize q1*V=X at *
        generalize U%V=R at *
        rw [IntKind.wrap_u64];unfold W at *;omega
      obtain ⟨Y1,HY1⟩:∃z,Hid (T*4294967296%W=z):=⟨_,hide rfl⟩;obtain ⟨Y2,HY2⟩:∃z,Hid (U%W=z):=⟨_,hide rfl⟩;obtain ⟨Y3,HY3⟩:∃z,Hid (q1*V%W=z):=⟨_,hide rfl⟩;rw [HY1.out] at k1 k2;rw [HY2.out] at k2 k4;rw [HY3.out] at k3 k4;obtain ⟨T2,HT2'⟩:∃T2,Hid (U%V=T2):=⟨_,hide rfl⟩;rw [HT2'.out] at k4 hr1 HR1;have hT2:T2<W:=by omega
      have HG2:=hide (L.guess_ge (B:=4294967296) (V:=V) (vl:=v0) (U:=T2*4294967296+u0) (t:=T2) (ul:=u0) hv1 B3.out rfl b9);have HD2:=hide (Nat.div_add_mod T2 v1);have hm2:=Nat.mod_lt T2 hv1;have hq2:T2 / v1<8589934592:=by rw [Nat.div_lt_iff_lt_mul hv1];unfold W at hT2;omega
      have c1:(T2:Int) / (v1:Int)=((T2 / v1:Nat):Int):=by norm_cast
      have c1w:IntKind.u64.wrap ((T2 / v1:Nat):Int)=((T2 / v1:Nat):Int):=M64.wrapN _ (by omega)
      generalize T2 / v1=Q at *
      generalize T2%v1=R at *
      have c2:IntKind.u64.wrap ((Q:Int)*(v1:Int))=((Q*v1:Nat):Int):=by
        have:=HD2.out;rw [Nat.mul_comm] at this;rw [M64.mulN,M64.wrapN _ (by unfold W at hT2;omega)]
      have c3:IntKind.u64.wrap ((T2:Int) - ((Q*v1:Nat):Int))=(R:Int):=by
        have:=HD2.out;rw [Nat.mul_comm] at this;rw [IntKind.wrap_u64];unfold W at hT2;omega
      obtain ⟨QV,HQV⟩:∃QV,Hid (Q*v1=QV):=⟨_,hide rfl⟩;rw [HQV.out] at c2 c3
      go_upto_block 2 with (fail)
      clear k1 k2 k3 k4;obtain ⟨U2,HU2⟩:∃U,Hid (T2*4294967296+u0=U):=⟨_,hide rfl⟩
      go_cut [18] (fun q wx=>w=wx∧∃Q:Nat,q=.int .u64 Q∧Hid (U2 / V=Q))
      case first=>
        go_wp2_with fail
        go_loop [18,16] (fun q r=>∃Q R:Nat,q=.int .u64 Q∧r=.int .u64 R∧Hid (Q*v1+R=T2)∧Hid (U2<(Q+1)*V)∧R<4294967296∧Q<8589934592) (fun q _=>(intOf q).toNat)
        case atStart=>exact ⟨Q,R,rfl,rfl,hide (by rw [Nat.mul_comm];exact HD2.out),hide (by rw [←HU2.out];exact HG2.out),by omega,hq2⟩
        case round=>
          clear c1 c1w c2 c3 HG2 HD2 hm2 hq2 HQV;obtain ⟨Q,R,rfl,rfl,HD2,HG2,hR,hq2⟩:=hrel;have hst:=fun h=>L.guess_step (V:=V) (U:=U2) HD2.out h
          have d3:IntKind.u64.wrap ((R:Int)+(v1:Int))=((R+v1:Nat):Int):=by rw [IntKind.wrap_u64];omega
          have hgo:U2<Q*V→IntKind.u64.wrap ((Q:Int) - 1)=((Q - 1:Nat):Int):=fun h=>by
            have:=(hst h).1;rw [IntKind.wrap_u64];omega
          by_cases hq:4294967296≤Q
          · have hq':(4294967296:Int)≤(Q:Int):=by omega
            have hlt:=L.guess_big (V:=V) HU2.out.symm b9 hr1 hq;have d4:=hgo hlt;have HST:=hide (hst hlt);clear hst hgo hlt
            by_cases hb:4294967296≤R+v1
            · have hb':(4294967296:Int)≤((R+v1:Nat):Int):=by omega
              have HBB:=hide hb;obtain ⟨S,HSS⟩:∃S,Hid (R+v1=S):=⟨_,hide rfl⟩;rw [HSS.out] at hb' d3;clear hb
              go_wp2_with fail
              go_meet
              refine ⟨rfl,Q - 1,rfl,hide (L.quot_of (L.guess_break B3.out b4 HU2.out.symm hr1 HST.out.2.1 HBB.out) HST.out.2.2)⟩
            · have hb':¬ (4294967296:Int)≤((R+v1:Nat):Int):=by omega
              have HBB:=hide hb;obtain ⟨S,HSS⟩:∃S,Hid (R+v1=S):=⟨_,hide rfl⟩;rw [HSS.out] at hb' d3;clear hb
              go_wp2_with fail
              go_round
              case rel=>exact ⟨Q - 1,S,rfl,rfl,hide (by rw [←HSS.out];exact HST.out.2.1),hide HST.out.2.2,by have:=HBB.out;have:=HSS.out;omega,by omega⟩
              case measure=>have:=HST.out.1;simp [intOf];omega
          · have hq':¬ (4294967296:Int)≤(Q:Int):=by omega
            have hqv:Q*v0≤4294967295*4294967295:=Nat.mul_le_mul (by omega) (by omega);have d1:IntKind.u64.wrap ((Q:Int)*(v0:Int))=((Q*v0:Nat):Int):=by rw [M64.mulN,M64.wrapN _ (by omega)]
            have d2:IntKind.u64.wrap (4294967296*(R:Int))=((R*4294967296:Nat):Int):=by rw [IntKind.wrap_u64];omega
            have d5:IntKind.u64.wrap (((R*4294967296:Nat):Int)+(u0:Int))=((R*4294967296+u0:Nat):Int):=by rw [IntKind.wrap_u64];omega
            obtain ⟨X,HX⟩:∃X,Hid (Q*v0=X):=⟨_,hide rfl⟩;obtain ⟨Y,HY⟩:∃Y,Hid (R*4294967296=Y):=⟨_,hide rfl⟩;obtain ⟨Z,HZ⟩:∃Z,Hid (Y+u0=Z):=⟨_,hide rfl⟩;rw [HX.out] at d1;rw [HY.out] at d2 d5;rw [HZ.out] at d5
            by_cases hx:Z<X
            · have hx':(Z:Int)<(X:Int):=by omega
              have hlt:=L.guess_less (b:=4294967296) (u0:=u0) (r:=R) (q:=Q) (U:=U2) B3.out HU2.out.symm HD2.out (by rw [HX.out,HY.out,HZ.out];exact hx);have d4:=hgo hlt;have HST:=hide (hst hlt);clear hst hgo hlt hqv
              by_cases hb:4294967296≤R+v1
              · have hb':(4294967296:Int)≤((R+v1:Nat):Int):=by omega
                have HBB:=hide hb;obtain ⟨S,HSS⟩:∃S,Hid (R+v1=S):=⟨_,hide rfl⟩;rw [HSS.out] at hb' d3;clear hb
                go_wp2_with fail
                go_meet
                refine ⟨rfl,Q - 1,rfl,hide (L.quot_of (L.guess_break B3.out b4 HU2.out.symm hr1 HST.out.2.1 HBB.out) HST.out.2.2)⟩
              · have hb':¬ (4294967296:Int)≤((R+v1:Nat):Int):=by omega
                have HBB:=hide hb;obtain ⟨S,HSS⟩:∃S,Hid (R+v1=S):=⟨_,hide rfl⟩;rw [HSS.out] at hb' d3;clear hb
                go_wp2_with fail
                go_round
                case rel=>exact ⟨Q - 1,S,rfl,rfl,hide (by rw [←HSS.out];exact HST.out.2.1),hide HST.out.2.2,by have:=HBB.out;have:=HSS.out;omega,by omega⟩
                case measure=>have:=HST.out.1;simp [intOf];omega
            · have hx':¬ (Z:Int)<(X:Int):=by omega
              clear hst hgo hqv
              go_wp2_with fail
              go_meet
              refine ⟨rfl,Q,rfl,hide (L.quot_of (L.guess_fits (b:=4294967296) (u0:=u0) B3.out HU2.out.symm HD2.out (by rw [HX.out,HY.out,HZ.out];omega)) HG2.out)⟩
      case rest=>
        obtain ⟨rfl,q0,rfl,HQ0⟩:=hcut;clear c1 c1w c2 c3 HG2 HD2 hm2 hq2 HQV;have HE:=hide (L.two_digits (b:=4294967296) (t:=T) (u1:=u1) (u0:=u0) (V:=V) (q1:=q1) (q0:=q0) rfl (by rw [HU.out];exact HQ1.out) (by rw [HU.out,HT2'.out,HU2.out];exact HQ0.out) hV0);have hy0:0<y:=by omega
        have HN:Hid ((T*4294967296+u1)*4294967296+u0=(hi*W+lo)*2^s):=hide (by rw [B11.out,B8.out,show W=4294967296*4294967296 from rfl,Nat.add_mul,Nat.mul_assoc];omega)
        have HD:Hid ((hi*W+lo) / y=q1*4294967296+q0):=hide (by
          have h1:=HE.out.1;rw [HN.out,←B1.out,Nat.mul_div_mul_right _ _ (Nat.two_pow_pos s)] at h1;exact h1)
        have HM:Hid ((hi*W+lo)%y*2^s=U2%V):=hide (by
          have h1:=HE.out.2;rw [HN.out,HU.out,HT2'.out,HU2.out,←B1.out,Nat.mul_mod_mul_right] at h1;rw [h1,B1.out])
        have HDL:Hid ((hi*W+lo) / y<W):=hide (by rw [Nat.div_lt_iff_lt_mul hy0];have:(hi+1)*W≤y*W:=Nat.mul_le_mul_right _ hh;rw [Nat.add_mul] at this;rw [Nat.mul_comm W y];have hlW:lo<W:=hl;omega);have hr2:=Nat.mod_lt U2 hV0;have HR2:=hide (Nat.div_add_mod U2 V);rw [HQ0.out] at HR2;have HD':Hid (D=q1*4294967296+q0):=hide (by rw [←HDD.out];exact HD.out);have HM':Hid (E*2^s=U2%V):=hide (by rw [←HEE.out];exact HM.out);have HL':Hid (D<W):=hide (by rw [←HDD.out];exact HDL.out)
        have m1:IntKind.u64.wrap ((q1:Int)*4294967296)=((q1*4294967296:Nat):Int):=by
          have h1:=HD'.out;have h2:=HL'.out;rw [IntKind.wrap_u64];unfold W at h2;omega
        have m2:IntKind.u64.wrap (((q1*4294967296:Nat):Int)+(q0:Int))=(D:Int):=by
          have h1:=HD'.out;have h2:=HL'.out;rw [IntKind.wrap_u64];unfold W at h2;omega
        have k1:IntKind.u64.wrap ((T2:Int)*4294967296)=((T2*4294967296%W:Nat):Int):=by rw [IntKind.wrap_u64];unfold W;omega
        have k2:IntKind.u64.wrap (((T2*4294967296%W:Nat):Int)+(u0:Int))=((U2%W:Nat):Int):=by rw [IntKind.wrap_u64,←HU2.out];unfold W;omega
        have k3:IntKind.u64.wrap ((q0:Int)*(V:Int))=((q0*V%W:Nat):Int):=by rw [M64.mulN,M64.wrapM];rfl
        have k4:IntKind.u64.wrap (((U2%W:Nat):Int) - ((q0*V%W:Nat):Int))=((U2%V:Nat):Int):=by
          have h1:=HR2.out;rw [Nat.mul_comm] at h1
          generalize q0*V=X at *
          generalize U2%V=R at *
          rw [IntKind.wrap_u64];unfold W at *;omega
        have k5:((U2%V:Nat):Int) / 2^s=(E:Int):=by
          rw [←HM'.out,jc2,Nat.mul_div_cancel _ (Nat.two_pow_pos s)]
        obtain ⟨Y0,HY0⟩:∃z,Hid (q1*4294967296=z):=⟨_,hide rfl⟩;obtain ⟨Y1,HY1⟩:∃z,Hid (T2*4294967296%W=z):=⟨_,hide rfl⟩;obtain ⟨Y2,HY2⟩:∃z,Hid (U2%W=z):=⟨_,hide rfl⟩;obtain ⟨Y3,HY3⟩:∃z,Hid (q0*V%W=z):=⟨_,hide rfl⟩;obtain ⟨Y4,HY4⟩:∃z,Hid (U2%V=z):=⟨_,hide rfl⟩;rw [HY0.out] at m1 m2;rw [HY1.out] at k1 k2;rw [HY2.out] at k2 k4;rw [HY3.out] at k3 k4;rw [HY4.out] at k4 k5;clear hr2
        go_wp2_with fail
        go_ret2
        exact ⟨Dr.refl _,rfl⟩
end
end
section
section
open Go.RowKit
open L (val dig nth)
def RetQR (B q r:Nat) (e:Ending) (w:World):Prop:=∃u d u' d',e=.returned (.tuple #[u,u',.bool true])∧Nums w B u d∧Canon d q∧Nums w B u' d'∧Canon d' r
theorem Nums.oneB (w:World) (B:Nat) (z:Int) (x:Nat) (hz:z=x) (hx:x<W) (hB:B≤w.heap.size):Nums (w.alloc (.cells #[.int .u64 z] 22)) B (.slice (some ⟨w.heap.size,0,none⟩) 1 1) [x]:=by
  subst hz;have h:Out (w.alloc (.cells (cellsU [x]) 22)) w.heap.size [x]:=Out.new w [x];exact h.nums hB (by simp) (by simpa using hx)
set_option maxHeartbeats 1000000 in
set_option maxRecDepth 100000 in
theorem jmv (w:World) (B:Nat) (va:Value) (p:List Nat) (y:Nat) (hp:Nums w B va p) (hp6:p.length≤60000) (hy0:0<y) (hy:y<W) :
    Calls Tryz.prog 196 #[va,.int .u64 y] w fun e w'=>Below w.heap.size w w'∧RetQR w.heap.size (val W p / y) (val W p%y) e w':=by
  have hp0:=hp.lt;obtain ⟨A1,c1,rfl,-,-,-,hcp⟩:=hp;have hmk:=je3 (p.length:Int) p.length (by omega) (by omega)
  go_enter Tryz.func196,Tryz.ntmps196
  go_wp2_with fail
  clear hmk
  go_loopw [8,9] (fun r i wr=>∃(m rN:Nat) (o:List Nat),m≤p.length∧i=.int .i64 ((m:Int) - 1)∧r=.int .u64 rN∧rN<y∧Out wr w.heap.size o∧Hid (o.length=p.length)∧Hid (∀x∈o,x<W)∧
      Hid (val W (p.drop m)=y*val W (o.drop m)+rN)∧Below w.heap.size w wr) (fun _ i _=>(intOf i+1).toNat)
  case atStart=>exact ⟨p.length,0,_,Nat.le_refl _,rfl,rfl,hy0,Out.made w _,hide (by simp),hide (fun x hx=>by rw [(List.mem_replicate.1 hx).2];exact ja5),hide (by rw [List.drop_eq_nil_of_le (Nat.le_refl _),List.drop_eq_nil_of_le (by simp)];simp [L.val]),(Below.refl _ _).alloc (Nat.le_refl _) _⟩
  case round=>
    obtain ⟨m,rN,o,hm,rfl,rfl,hr,hO,HO,HOlt,HI,hB⟩:=hrel
    cases m with
    | zero=>
      have hge:¬ ((0:Int)≤((0:Nat):Int) - 1):=by omega
      have HV:=HI.out;rw [List.drop_zero,List.drop_zero] at HV;have HQ:Hid (val W o=val W p / y):=hide (by rw [HV,Nat.mul_add_div hy0,Nat.div_eq_of_lt hr,Nat.add_zero]);have HR:Hid (rN=val W p%y):=hide (by rw [HV,Nat.mul_add_mod,Nat.mod_eq_of_lt hr]);have hrW:rN<W:=by omega
      have hN:=hO.nums (Nat.le_refl _) (by have:=HO.out;omega) HOlt.out;rw [HO.out] at hN;have HN:=hide hN;clear hN hcp HV HI
      go_wp2_with fail
      refine (jaj _ _ _ _ HN.out).mono ?_;rintro e w1 ⟨rfl,u,d,rfl,hu,hd⟩;have h1:=Nums.oneB wr w.heap.size (rN:Nat) rN rfl hrW hB.size;have hu1:=hu.alloc (.cells #[.int .u64 (rN:Nat)] 22);have HB1:=hide (hB.alloc hB.size (.cells #[.int .u64 (rN:Nat)] 22))
      go_wp2_with fail
      refine (jaj _ _ _ _ h1).mono ?_;rintro e w1 ⟨rfl,u',d',rfl,hu',hd'⟩
      go_wp2_with fail
      go_ret3
      refine ⟨HB1.out,u,d,u',d',rfl,hu1,?_,hu',?_⟩
      · rw [←HQ.out];exact hd
      · rw [←HR.out];simpa [L.val] using hd'
    | succ k=>
      have hlt:k<p.length:=by omega
      have hge:(0:Int)≤((k+1:Nat):Int) - 1:=by omega
      have hk1:((k+1:Nat):Int) - 1=(k:Int):=by omega
      have hol:k<o.length:=by have:=HO.out;omega
      obtain ⟨b1,o1,rfl,-,hb1,hcell1⟩:=hcp (by omega);have h1:wr.cell? ⟨b1,o1+k,none⟩=_:=(hB.cell (p:=⟨b1,o1+k,none⟩) hb1).trans (hcell1 k hlt);have h3:=hO.cell hol;have h4:=hO.frozen k;have px:=jbo hp0 k;have HST:=hide (L.divD_step W y p o k rN hlt hol HI.out);have HQL:Hid ((rN*W+nth p k) / y<W):=hide (by rw [Nat.div_lt_iff_lt_mul hy0];have:(rN+1)*W≤y*W:=Nat.mul_le_mul_right _ hr;rw [Nat.add_mul] at this;have h2:nth p k<W:=px;rw [Nat.mul_comm W y];omega);have HRL:Hid ((rN*W+nth p k)%y<y):=hide (Nat.mod_lt _ hy0);have HP:=jhj rN (nth p k) y hr px hy;rw [show rN*18446744073709551616=rN*W from rfl] at HP
      generalize (rN*W+nth p k) / y=Q at *
      generalize (rN*W+nth p k)%y=R at *
      rw [hk1];clear hcell1 hcp hk1
      go_wp2_with fail
      refine (HP wr).mono ?_;rintro e w1 ⟨⟨n,rfl⟩,rfl⟩;have h3:(wr.drewN n).cell? ⟨w.heap.size,k,none⟩=_:=h3;have h4:(wr.drewN n).frozen? ⟨w.heap.size,k,none⟩=_:=h4;clear HP
      go_wp2_with fail
      go_roundw
      case rel=>
        exact ⟨k,R,_,by omega,by go_num,rfl,HRL.out,(hO.drewN n).set k Q,hide (by simpa using HO.out),hide (L.mem_set_lt o HOlt.out k Q HQL.out),HST,(hB.trans ((Dr.refl _).next n |>.below _)).setCell (Nat.le_refl _) _⟩
      case measure=>simp [intOf]
end
end
end Go.Proofs.YtllgjggkchgpbaaGreat