/- nat.trim, slices.Clone, nat.Norm: noughts on top left out, a copy. nat.Add, nat.less, nat.Sub: sums and differences of limbs. nat.Mul: products of limbs. nat.Shl, nat.Shr: a number times, or divided by, a power of two. -/
import Derived.Test.YtllgjggkchgpbaaGreatGround
import Derived.Deep.DeepCutAuto
import Derived.StillTailTactics
set_option linter.unusedVariables false
namespace Go.Proofs.YtllgjggkchgpbaaGreat
section
section
open Go.RowKit
open L (val dig)
def RetU (B N:Nat) (e:Ending) (w:World):Prop:=∃u d,e=.returned u∧Nums w B u d∧Canon d N
theorem jaj (w:World) (B:Nat) (v:Value) (l:List Nat) (h:Nums w B v l) :
    Calls Tryz.prog 161 #[v] w fun e w'=>w=w'∧RetU B (val W l) e w:=by
  have h0:=h;obtain ⟨A,cap,rfl,hcap,hmax,hlt,hc⟩:=h
  go_enter Tryz.func161,Tryz.ntmps161
  go_wp2
  go_loop [0] (fun s=>∃n:Nat,n≤l.length∧s=.slice A n cap∧∀i,n≤i→i<l.length→L.nth l i=0) (fun s=>lenOf s)
  case atStart=>exact ⟨_,Nat.le_refl _,rfl,fun i h1 h2=>by omega⟩
  case round=>
    obtain ⟨n,hn,rfl,hz⟩:=hrel;have HZ:=hide hz;clear hz
    cases n with
    | zero=>
      go_wp2
      go_ret
      refine ⟨rfl,_,_,rfl,h0.first (Nat.zero_le _),?_⟩;exact (L.dig_val_take W_gt l hlt 0 (Nat.zero_le _) HZ.out (.inl rfl)).symm
    | succ m=>
      obtain ⟨b,off,rfl,hB,hb,hcell⟩:=hc (by omega);have hm:=hcell m (by omega);clear hcell hc
      go_wp2
      · have hz:((L.nth l m:Nat):Int) == 0:=by assumption
        go_round
        case rel=>
          refine ⟨m,by omega,rfl,fun i h1 h2=>?_⟩
          by_cases e:i=m
          · subst e;simpa using hz
          · exact HZ.out i (by omega) h2
        case measure=>simp [lenOf]
      · have hz:(((L.nth l m:Nat):Int) == 0)=false:=by assumption
        go_ret
        refine ⟨rfl,_,_,rfl,h0.first hn,?_⟩;exact (L.dig_val_take W_gt l hlt (m+1) hn HZ.out (.inr (by simpa using hz))).symm
theorem je5 (w:World) (B:Nat) (v:Value) (l:List Nat) (h:Nums w B v l) (hl:l.length≤60000) :
    Calls Tryz.prog 163 #[v] w fun e w'=>Below w.heap.size w w'∧∃u,e=.returned u∧OwnU w' w.heap.size u l:=by
  have h0:=h;obtain ⟨A,cap,rfl,hcap,hmax,hlt,hc⟩:=h
  cases A with
  | none=>
    have hl0:l=[]:=by
      rcases Nat.eq_zero_or_pos l.length with h1 | h1
      · exact List.eq_nil_of_length_eq_zero h1
      · obtain ⟨b,off,he,_⟩:=hc h1;cases he
    subst hl0;have hnil:=fun w=>Lib.run_eql_slice_nil (P:=Tryz.prog) w 24 22 none 0 cap 0 0 Tryz.underlying24
    go_enter Tryz.func163,Tryz.ntmps163
    go_wp2_with fail
    go_ret
    exact ⟨Below.refl _ _,_,rfl,OwnU.nil _ _⟩
  | some ad=>
    have hnil:=fun w=>Lib.run_eql_slice_nil (P:=Tryz.prog) w 24 22 (some ad) l.length cap 0 0 Tryz.underlying24
    have hb0:Below w.heap.size w (w.alloc (.cells #[] 22)):=(Below.refl _ _).alloc (Nat.le_refl _) _
    go_enter Tryz.func163,Tryz.ntmps163
    go_wp2_with (at_builtin;refine jh9 _ rfl _ _ rfl w.heap.size _ [] rfl (OwnU.empty w (Nat.le_refl _)) B _ l rfl (h0.below hb0) (by simp;omega) (by simp) ?_;intro v1 w1 hown1 hgrow1)
    go_ret
    refine ⟨hb0.grown hgrow1 (by simp) (fun k hk=>?_),_,rfl,?_⟩
    · injection hk with e;simp at e;omega
    · simpa using hown1
theorem jc6 (w:World) (B:Nat) (v:Value) (l:List Nat) (h:Nums w B v l) (hl:l.length≤60000) :
    Calls Tryz.prog 98 #[v] w fun e w'=>Below w.heap.size w w'∧RetU w.heap.size (val W l) e w':=by
  go_enter Tryz.func98,Tryz.ntmps98
  go_wp2_with fail
  refine (jaj _ B _ l h).mono ?_;rintro e w1 ⟨rfl,u,d,rfl,hu,hd⟩;have hdl:d.length≤60000:=by rw [show d=dig W (val W l) from hd];exact Nat.le_trans (L.dig_len_val W_gt l h.lt) hl
  go_wp2_with fail
  refine (je5 _ B _ d hu hdl).mono ?_;rintro e w1 ⟨hb,u1,rfl,hu1⟩
  go_wp2_with fail
  go_ret
  exact ⟨hb,u1,d,rfl,hu1.nums hu.lt,hd⟩
def cmpN (a b:Nat):Int:=if a<b then -1 else if b<a then 1 else 0
theorem jhl {a b:Nat} (h:a<b):cmpN a b = -1:=by simp [cmpN,h]
theorem jjw {a b:Nat} (h:b<a):cmpN a b=1:=by simp [cmpN,h];omega
theorem jjx {a b:Nat} (h:a=b):cmpN a b=0:=by simp [cmpN,h]
theorem jct (w:World) (B C:Nat) (va vb:Value) (la lb:List Nat) (ha:Nums w B va la) (hb:Nums w C vb lb) :
    Calls Tryz.prog 103 #[va,vb] w fun e w'=>Dr w w'∧e=.returned (.int .i64 (cmpN (val W la) (val W lb))):=by
  go_enter Tryz.func103,Tryz.ntmps103
  go_wp2_with fail
  refine (jaj _ B _ la ha).mono ?_;rintro e w1 ⟨rfl,u1,da,rfl,hu1,hda⟩
  go_wp2_with fail
  refine (jaj _ C _ lb hb).mono ?_;rintro e w1 ⟨rfl,u2,db,rfl,hu2,hdb⟩;obtain ⟨A1,c1,rfl,hl1,hm1,hlt1,hc1⟩:=hu1;obtain ⟨A2,c2,rfl,hl2,hm2,hlt2,hc2⟩:=hu2
  go_wp2_with fail
  · have hlt:da.length<db.length:=by assumption
    rw [show da=dig W (val W la) from hda,show db=dig W (val W lb) from hdb] at hlt;have hv:=L.lt_of_dig_len W_gt hlt
    go_ret
    exact ⟨Dr.refl w,jb0 (jhl hv).symm⟩
  · have hlt:db.length<da.length:=by assumption
    rw [show da=dig W (val W la) from hda,show db=dig W (val W lb) from hdb] at hlt;have hv:=L.lt_of_dig_len W_gt hlt
    go_ret
    exact ⟨Dr.refl w,jb0 (jjw hv).symm⟩
  · have hle1:¬ da.length<db.length:=by assumption
    have hle2:¬ db.length<da.length:=by assumption
    have HL:Hid (da.length=db.length):=hide (by omega)
    go_loopw [5] (fun s wr=>∃i:Int,-1≤i∧i<da.length∧s=.int .i64 i∧Hid (da.drop (i+1).toNat=db.drop (i+1).toNat)∧Dr w wr) (fun s _=>(intOf s+1).toNat)
    case atStart=>exact ⟨(da.length:Int) - 1,by omega,by omega,rfl,hide (by rw [List.drop_of_length_le (by omega),List.drop_of_length_le (by omega)]),Dr.refl w⟩
    case round=>
      obtain ⟨i,hi1,hi2,rfl,hd,hdr0⟩:=hrel
      by_cases hneg:i = -1
      · subst hneg
        have e:da=db:=by simpa using hd.out
        have e1:=congrArg (L.val W) e;rw [hda.val,hdb.val] at e1;have E1:=hide e1;clear e1 e
        go_wp2_with fail
        go_ret
        exact ⟨hdr0,jb0 (jjx E1.out).symm⟩
      · obtain ⟨m,rfl⟩:=Int.eq_ofNat_of_zero_le (show 0≤i by omega)
        obtain ⟨b1,o1,rfl,_,_,hcell1⟩:=hc1 (by omega);obtain ⟨b2,o2,rfl,_,_,hcell2⟩:=hc2 (by omega);have h1:wr.cell? ⟨b1,o1+m,none⟩=_:=((hdr0.below w.heap.size).cell (p:=⟨b1,o1+m,none⟩) (by assumption)).trans (hcell1 m (by omega));have h2:wr.cell? ⟨b2,o2+m,none⟩=_:=((hdr0.below w.heap.size).cell (p:=⟨b2,o2+m,none⟩) (by assumption)).trans (hcell2 m (by have:=HL.out;omega));clear hcell1 hcell2 hc1 hc2;have b0:(0:Int)≤(m:Int):=by omega
        have b1':(m:Int)<(da.length:Int):=by omega
        have b2':(m:Int)<(db.length:Int):=by have:=HL.out;omega
        go_wp2_with fail
        go_quiet (fail)
        go_wp2_with fail
        · have hlt:L.nth da m<L.nth db m:=by assumption
          have hv:=L.val_lt_of_top da db hlt1 HL.out m (by omega) (by simpa using hd.out) hlt;rw [hda.val,hdb.val] at hv
          go_ret
          exact ⟨hdr0.next _,jb0 (jhl hv).symm⟩
        · have hge:¬ L.nth da m<L.nth db m:=by assumption
          go_quiet (fail)
          go_wp2_with fail
          · have hlt:L.nth db m<L.nth da m:=by assumption
            have hv:=L.val_lt_of_top db da hlt2 HL.out.symm m (by omega) (by simpa using hd.out.symm) hlt;rw [hda.val,hdb.val] at hv
            go_ret
            exact ⟨by repeat (first | exact hdr0 | refine Dr.next ?_ _),jb0 (jjw hv).symm⟩
          · have hge2:¬ L.nth db m<L.nth da m:=by assumption
            have he:L.nth da m=L.nth db m:=by omega
            have hdr:da.drop m=db.drop m:=by
              have e1:da.drop m=L.nth da m::da.drop (m+1):=by
                rw [List.drop_eq_getElem_cons (by omega),L.nth_def,List.getD_eq_getElem?_getD,List.getElem?_eq_getElem (by omega)];rfl
              have e2:db.drop m=L.nth db m::db.drop (m+1):=by
                rw [List.drop_eq_getElem_cons (by omega),L.nth_def,List.getD_eq_getElem?_getD,List.getElem?_eq_getElem (by omega)];rfl
              rw [e1,e2,he,show da.drop (m+1)=db.drop (m+1) from by simpa using hd.out]
            go_roundw
            case rel=>exact ⟨(m:Int) - 1,by omega,by omega,rfl,hide (by simpa using hdr),by repeat (first | exact hdr0 | refine Dr.next ?_ _)⟩
            case measure=>simp [intOf]
theorem jf5 (w:World) (B:Nat) (v:Value) (l:List Nat) (h:Nums w B v l) (hl:l.length≤60000) :
    Calls Tryz.prog 96 #[v] w fun e w'=>w=w'∧e=.returned (.int .i64 (nbits (val W l):Nat)):=by
  go_enter Tryz.func96,Tryz.ntmps96
  go_wp2_with fail
  refine (jaj _ B _ l h).mono ?_;rintro e w1 ⟨rfl,u1,d,rfl,hu1,hd⟩;have hdl:d.length≤60000:=by rw [show d=dig W (val W l) from hd];exact Nat.le_trans (L.dig_len_val W_gt l h.lt) hl
  obtain ⟨A1,c1,rfl,hl1,hm1,hlt1,hc1⟩:=hu1
  by_cases h0:d.length=0
  · have hv:val W l=0:=hd.nil_iff.1 (List.eq_nil_of_length_eq_zero h0)
    have HV:Hid (nbits (val W l)=0):=hide (by rw [hv];exact jcn (by omega) (.inl rfl));have d0:((d.length:Int) == 0)=true:=beq_iff_eq.2 (by omega);clear h0 hv
    go_wp2_with fail
    go_ret
    exact ⟨rfl,jb0 (by rw [HV.out];rfl)⟩
  · obtain ⟨b1,o1,rfl,_,_,hcell1⟩:=hc1 (by omega)
    obtain ⟨m,hm⟩:∃m,d.length=m+1:=⟨d.length - 1,by omega⟩;have h1:=hcell1 m (by omega);have hlast:=hd.last (by omega);have hlt:L.nth d m<18446744073709551616:=L.lt_of_getD ja5 d hlt1 m;have hlast':L.nth d m≠0:=by rw [show m=d.length - 1 from by omega];exact hlast
    have hnb:=jky d m hm hlt1 hlast';rw [hd.val] at hnb;have hb64:nbits (L.nth d m)≤64:=(jba _ _).2 (by omega);have d0:((d.length:Int) == 0)=false:=beq_eq_false_iff_ne.2 (by omega);have HN:=hide hnb;have b1':(m:Int)<(d.length:Int):=by omega
    have e1:(d.length:Int) - 1=m:=by omega
    clear hm h0 hcell1 hc1 hlast hlast' hnb
    go_wp2_with fail
    refine (jhf _ hlt _).mono ?_;rintro e w1 ⟨rfl,rfl⟩
    go_wp2_with fail
    go_ret
    exact ⟨rfl,jb0 (by rw [HN.out];omega)⟩
end
end
section
section
open Go.RowKit
open L (val dig nth)
theorem jbo {l:List Nat} (h:∀x∈l,x<W) (i:Nat):nth l i<18446744073709551616:=L.lt_of_getD ja5 l h i
theorem jbb {d l:List Nat} (hd:Canon d (val W l)) (hl:∀x∈l,x<W):d.length≤l.length:=by
  rw [show d=dig W (val W l) from hd];exact L.dig_len_val W_gt l hl
theorem jhm (w:World) (B C:Nat) (va vb:Value) (la lb:List Nat) (ha:Nums w B va la) (hb:Nums w C vb lb) (hla:la.length≤60000) (hlb:lb.length≤60000) :
    Calls Tryz.prog 100 #[va,vb] w fun e w'=>Below w.heap.size w w'∧RetU w.heap.size (val W la+val W lb) e w':=by
  go_enter Tryz.func100,Tryz.ntmps100
  go_wp2_with fail
  refine (jaj _ B _ la ha).mono ?_;rintro e w1 ⟨rfl,u1,da,rfl,hu1,hda⟩
  go_wp2_with fail
  refine (jaj _ C _ lb hb).mono ?_;rintro e w1 ⟨rfl,u2,db,rfl,hu2,hdb⟩;have la':=Nat.le_trans (jbb hda ha.lt) hla;have lb':=Nat.le_trans (jbb hdb hb.lt) hlb;have hu1':=hu1.mono (Nat.zero_le B);have hu2':=hu2.mono (Nat.zero_le C);obtain ⟨A1,c1,rfl,-⟩:=hu1;obtain ⟨A2,c2,rfl,-⟩:=hu2
  go_upto_if 17 with (fail)
  go_cut [0,1] (fun x y wx=>w=wx∧∃p q,Nums w 0 x p∧Nums w 0 y q∧q.length≤p.length∧p.length≤60000∧Hid (val W p+val W q=val W la+val W lb))
  case first=>
    go_wp2_with fail
    · have hlt:da.length<db.length:=by assumption
      go_meet
      exact ⟨rfl,db,da,hu2',hu1',by omega,lb',hide (by rw [hda.val,hdb.val,Nat.add_comm])⟩
    · have hlt:¬ da.length<db.length:=by assumption
      go_meet
      exact ⟨rfl,da,db,hu1',hu2',by omega,la',hide (by rw [hda.val,hdb.val])⟩
  case rest=>
    clear hu1' hu2' la' lb';obtain ⟨rfl,p,q,hp,hq,hqp,hp6,HV⟩:=hcut;have hp0:=hp.lt;have hq0:=hq.lt;obtain ⟨A1,c1,rfl,-,-,-,hcp⟩:=hp;obtain ⟨A2,c2,rfl,-,-,-,hcq⟩:=hq;have hmk:=je3 ((p.length:Int)+1) (p.length+1) (by omega) (by omega)
    go_wp2_with fail
    clear hmk
    go_loopw [6,26] (fun c i wr=>∃(k cN:Nat) (o:List Nat),k≤p.length∧i=.int .i64 k∧c=.int .u64 cN∧cN≤1∧Out wr w.heap.size o∧Hid (o.length=p.length+1)∧Hid (∀x∈o,x<W)∧
      Hid (val W (o.take k)+W^k*cN=val W (p.take k)+val W (q.take k))∧Below w.heap.size w wr) (fun _ i _=>p.length - (intOf i).toNat)
    case atStart=>exact ⟨0,0,_,Nat.zero_le _,rfl,rfl,by omega,Out.made w _,hide (by simp),hide (fun x hx=>by rw [(List.mem_replicate.1 hx).2];exact ja5),hide (by simp [L.val]),(Below.refl _ _).alloc (Nat.le_refl _) _⟩
    case round=>
      obtain ⟨k,cN,o,hk,rfl,rfl,hc1',hO,HO,HOlt,HI,hB⟩:=hrel
      by_cases hlt:k<p.length
      · have hol:k<o.length:=by have:=HO.out;omega
        obtain ⟨b1,o1,rfl,-,hb1,hcell1⟩:=hcp (by omega);have h1:wr.cell? ⟨b1,o1+k,none⟩=_:=(hB.cell (p:=⟨b1,o1+k,none⟩) hb1).trans (hcell1 k hlt);have h3:=hO.cell hol;have h4:=hO.frozen k;have px:=jbo hp0 k;have qx:=jbo hq0 k
        obtain ⟨s,d,hs,hsl⟩:∃s d,nth p k+nth q k+cN=s+18446744073709551616*d∧s<18446744073709551616:=
          ⟨(nth p k+nth q k+cN)%18446744073709551616,(nth p k+nth q k+cN) / 18446744073709551616,by omega,by omega⟩
        have hd1:d≤1:=by omega
        have hadd:=jd4 (nth p k) (nth q k) cN s d hc1' hs hsl;have HST:=hide (L.add_step W p q o k cN s d hol HI.out hs);clear hcell1 hcp hs px qx
        by_cases hltq:k<q.length
        · obtain ⟨b2,o2,rfl,-,hb2,hcell2⟩:=hcq (by omega)
          have h2:wr.cell? ⟨b2,o2+k,none⟩=_:=(hB.cell (p:=⟨b2,o2+k,none⟩) hb2).trans (hcell2 k hltq);clear hcell2 hcq
          go_wp2_with fail
          go_roundw
          case rel=>
            exact ⟨k+1,d,_,by omega,by go_num,rfl,hd1,hO.set k s,hide (by simpa using HO.out),hide (L.mem_set_lt o HOlt.out k s hsl),HST,hB.setCell (Nat.le_refl _) _⟩
          case measure=>simp [intOf];omega
        · have hz:nth q k=0:=L.getD_ge q k (by omega)
          rw [hz] at hadd;have hadd':∀w,(callFunc 165 #[.int .u64 (nth p k:Nat),.int .u64 0,.int .u64 cN]).run Tryz.prog w=_:=hadd;clear hadd hz
          go_wp2_with fail
          go_roundw
          case rel=>
            exact ⟨k+1,d,_,by omega,by go_num,rfl,hd1,hO.set k s,hide (by simpa using HO.out),hide (L.mem_set_lt o HOlt.out k s hsl),HST,hB.setCell (Nat.le_refl _) _⟩
          case measure=>simp [intOf];omega
      · have hke:k=p.length:=by omega
        subst hke;have hol:p.length<o.length:=by have:=HO.out;omega
        have h3:=hO.cell hol;have h4:=hO.frozen p.length
        have HV2:Hid (val W (o.set p.length cN)=val W la+val W lb):=hide (by
          rw [L.val_last W _ p.length (by simpa using HO.out),L.take_set_self,L.getD_set_self _ _ _ hol,HI.out,←HV.out,L.val_take_ge W p _ (Nat.le_refl _),L.val_take_ge W q _ (by omega)])
        have hO2:=hO.set p.length cN;have hlt2:=L.mem_set_lt o HOlt.out p.length cN (show cN<W from by unfold W;omega);have hlen2:(o.set p.length cN).length=p.length+1:=by simpa using HO.out
        have hN:=hO2.nums (Nat.le_refl _) (by omega) hlt2;rw [hlen2] at hN;have HN:=hide hN;have hB2:=hB.setCell (p:=⟨w.heap.size,p.length,none⟩) (Nat.le_refl _) (.int .u64 (cN:Nat));clear hlen2 hlt2 hO2 hN hcp hcq
        go_wp2_with fail
        refine (jaj _ _ _ _ HN.out).mono ?_;rintro e w1 ⟨rfl,u,d,rfl,hu,hd⟩
        go_wp2_with fail
        go_ret
        refine ⟨hB2,u,d,rfl,hu,?_⟩;rw [←HV2.out];exact hd
theorem jqc (w:World) (B C:Nat) (va vb:Value) (p q:List Nat) (hp:Nums w B va p) (hq:Nums w C vb q) (hp6:p.length≤60000) (hqp:q.length≤p.length) (hle:val W q≤val W p) :
    Calls Tryz.prog 166 #[va,vb] w fun e w'=>Below w.heap.size w w'∧∃u o,e=.returned u∧Nums w' w.heap.size u o∧Hid (val W o=val W p - val W q):=by
  have hp0:=hp.lt;have hq0:=hq.lt;have HLE:=hide hle;obtain ⟨A1,c1,rfl,-,-,-,hcp⟩:=hp;obtain ⟨A2,c2,rfl,-,-,-,hcq⟩:=hq;have hmk:=je3 (p.length:Int) p.length (by omega) (by omega);clear hle
  go_enter Tryz.func166,Tryz.ntmps166
  go_wp2_with fail
  clear hmk
  go_loopw [6,14] (fun c i wr=>∃(k cN:Nat) (o:List Nat),k≤p.length∧i=.int .i64 k∧c=.int .u64 cN∧cN≤1∧Out wr w.heap.size o∧Hid (o.length=p.length)∧Hid (∀x∈o,x<W)∧
      Hid (val W (o.take k)+val W (q.take k)=val W (p.take k)+W^k*cN)∧Below w.heap.size w wr) (fun _ i _=>p.length - (intOf i).toNat)
  case atStart=>exact ⟨0,0,_,Nat.zero_le _,rfl,rfl,by omega,Out.made w _,hide (by simp),hide (fun x hx=>by rw [(List.mem_replicate.1 hx).2];exact ja5),hide (by simp [L.val]),(Below.refl _ _).alloc (Nat.le_refl _) _⟩
  case round=>
    obtain ⟨k,cN,o,hk,rfl,rfl,hc1',hO,HO,HOlt,HI,hB⟩:=hrel
    by_cases hlt:k<p.length
    · have hol:k<o.length:=by have:=HO.out;omega
      obtain ⟨b1,o1,rfl,-,hb1,hcell1⟩:=hcp (by omega);have h1:wr.cell? ⟨b1,o1+k,none⟩=_:=(hB.cell (p:=⟨b1,o1+k,none⟩) hb1).trans (hcell1 k hlt);have h3:=hO.cell hol;have h4:=hO.frozen k;have px:=jbo hp0 k;have qx:=jbo hq0 k
      obtain ⟨s,d,hs,hsl,hd1⟩:∃s d,nth p k+18446744073709551616*d=s+nth q k+cN∧s<18446744073709551616∧d≤1:=by
        by_cases hbo:nth p k<nth q k+cN
        · exact ⟨nth p k+18446744073709551616 - nth q k - cN,1,by omega,by omega,by omega⟩
        · exact ⟨nth p k - nth q k - cN,0,by omega,by omega,by omega⟩
      have hadd:=jhe (nth p k) (nth q k) cN s d hc1' hs px qx hsl;have HST:=hide (L.sub_step W p q o k cN s d hol HI.out hs);clear hcell1 hcp hs px qx
      by_cases hltq:k<q.length
      · obtain ⟨b2,o2,rfl,-,hb2,hcell2⟩:=hcq (by omega)
        have h2:wr.cell? ⟨b2,o2+k,none⟩=_:=(hB.cell (p:=⟨b2,o2+k,none⟩) hb2).trans (hcell2 k hltq);clear hcell2 hcq
        go_wp2_with fail
        go_roundw
        case rel=>
          exact ⟨k+1,d,_,by omega,by go_num,rfl,hd1,hO.set k s,hide (by simpa using HO.out),hide (L.mem_set_lt o HOlt.out k s hsl),HST,hB.setCell (Nat.le_refl _) _⟩
        case measure=>simp [intOf];omega
      · have hz:nth q k=0:=L.getD_ge q k (by omega)
        rw [hz] at hadd;have hadd':∀w,(callFunc 211 #[.int .u64 (nth p k:Nat),.int .u64 0,.int .u64 cN]).run Tryz.prog w=_:=hadd;clear hadd hz
        go_wp2_with fail
        go_roundw
        case rel=>
          exact ⟨k+1,d,_,by omega,by go_num,rfl,hd1,hO.set k s,hide (by simpa using HO.out),hide (L.mem_set_lt o HOlt.out k s hsl),HST,hB.setCell (Nat.le_refl _) _⟩
        case measure=>simp [intOf];omega
    · have hke:k=p.length:=by omega
      subst hke
      have HV:Hid (val W o=val W p - val W q):=hide (by
        have h1:=HI.out;have h2:=HLE.out;rw [List.take_of_length_le (by have:=HO.out;omega),L.val_take_ge W p _ (Nat.le_refl _),L.val_take_ge W q _ (by omega)] at h1;have h3:=L.val_lt o HOlt.out;rw [HO.out] at h3
        have h4:cN=0:=by
          rcases Nat.eq_zero_or_pos cN with h | h
          · exact h
          · have:cN=1:=by omega
            subst this;rw [Nat.mul_one] at h1
            omega
        subst h4
        omega)
      have hN:=hO.nums (Nat.le_refl _) (by have:=HO.out;omega) HOlt.out;rw [HO.out] at hN;have HN:=hide hN;clear hN hcp hcq
      go_wp2_with fail
      go_ret
      exact ⟨hB,_,o,rfl,HN.out,HV⟩
theorem jk8 (w:World) (B C:Nat) (va vb:Value) (la lb:List Nat) (ha:Nums w B va la) (hb:Nums w C vb lb) (hlt:val W la<val W lb) :
    Calls Tryz.prog 101 #[va,vb] w fun e w'=>Below w.heap.size w w'∧e=.returned (.tuple #[.slice none 0 0,.bool false]):=by
  have HC:=hide (jhl hlt);clear hlt
  go_enter Tryz.func101,Tryz.ntmps101
  go_wp2_with fail
  refine (jct _ B C _ _ la lb ha hb).mono ?_;rintro e w1 ⟨hd,rfl⟩;rw [HC.out]
  go_wp2_with fail
  go_ret2
  exact ⟨hd.below _,rfl⟩
theorem jhn (w:World) (B C:Nat) (va vb:Value) (la lb:List Nat) (ha:Nums w B va la) (hb:Nums w C vb lb) (hla:la.length≤60000) (hle:val W lb≤val W la) :
    Calls Tryz.prog 101 #[va,vb] w fun e w'=>Below w.heap.size w w'∧∃u d,e=.returned (.tuple #[u,.bool true])∧Nums w' w.heap.size u d∧Canon d (val W la - val W lb):=by
  have hcmp:0≤cmpN (val W la) (val W lb):=by
    rcases Nat.lt_or_ge (val W lb) (val W la) with h | h
    · rw [jjw h];omega
    · rw [jjx (by omega)];omega
  have HLE:=hide hle;clear hle
  go_enter Tryz.func101,Tryz.ntmps101
  go_wp2_with fail
  refine (jct _ B C _ _ la lb ha hb).mono ?_;rintro e w1 ⟨hd,rfl⟩;have hb1:=hd.below w.heap.size;have ha1:=ha.below hb1;have hb2:=hb.below hb1;have hsz:w1.heap.size=w.heap.size:=by obtain ⟨k,rfl⟩:=hd;rfl
  have HS:=hide hsz;clear hsz
  generalize cmpN (val W la) (val W lb)=cmp at *
  go_wp2_with fail
  refine (jaj _ B _ la ha1).mono ?_;rintro e w2 ⟨rfl,u1,da,rfl,hu1,hda⟩
  go_wp2_with fail
  refine (jaj _ C _ lb hb2).mono ?_;rintro e w2 ⟨rfl,u2,db,rfl,hu2,hdb⟩;have la':=Nat.le_trans (jbb hda ha.lt) hla
  have lb':db.length≤da.length:=by
    rw [show da=dig W (val W la) from hda,show db=dig W (val W lb) from hdb];exact L.dig_len_mono W_gt HLE.out
  go_wp2_with fail
  refine (jqc _ B C _ _ da db hu1 hu2 la' lb' (by rw [hda.val,hdb.val];exact HLE.out)).mono ?_;rintro e w2 ⟨hb3,u3,o,rfl,hu3,HV⟩
  go_wp2_with fail
  refine (jaj _ _ _ o hu3).mono ?_;rintro e w3 ⟨rfl,u4,d4,rfl,hu4,hd4⟩
  go_wp2_with fail
  go_ret2
  refine ⟨hb1.trans (by rw [←HS.out];exact hb3),u4,d4,rfl,?_,?_⟩
  · rw [←HS.out];exact hu4
  · have:=HV.out
    rw [hda.val,hdb.val] at this;rw [←this];exact hd4
end
end
section
section
open Go.RowKit
open L (val dig nth)
theorem jsv (x y o c:Nat) (hx:x<18446744073709551616) (hy:y<18446744073709551616) (ho:o<18446744073709551616) (hc:c<18446744073709551616) :
    ∃h l l1 c1 l2 c2,x*y=l+18446744073709551616*h∧l<18446744073709551616∧l+o+0=l1+18446744073709551616*c1∧l1<18446744073709551616∧
      l1+c+0=l2+18446744073709551616*c2∧l2<18446744073709551616∧h+c1<18446744073709551616∧h+c1+c2<18446744073709551616∧x*y+o+c=l2+18446744073709551616*(h+c1+c2):=by
  have hxy:x*y≤18446744073709551615*18446744073709551615:=Nat.mul_le_mul (by omega) (by omega)
  generalize x*y=P at *
  refine ⟨P / 18446744073709551616,P%18446744073709551616,(P%18446744073709551616+o)%18446744073709551616,(P%18446744073709551616+o) / 18446744073709551616,
    ((P%18446744073709551616+o)%18446744073709551616+c)%18446744073709551616,((P%18446744073709551616+o)%18446744073709551616+c) / 18446744073709551616,?_⟩
  refine ⟨by omega,by omega,by omega,by omega,by omega,by omega,by omega,by omega,by omega⟩
theorem jsw (w:World) (B C:Nat) (va vb:Value) (la lb:List Nat) (ha:Nums w B va la) (hb:Nums w C vb lb) (hla:la.length≤60000) (hlb:lb.length≤60000) :
    Calls Tryz.prog 102 #[va,vb] w fun e w'=>Below w.heap.size w w'∧RetU w.heap.size (val W la*val W lb) e w':=by
  go_enter Tryz.func102,Tryz.ntmps102
  go_wp2_with fail
  refine (jaj _ B _ la ha).mono ?_;rintro e w1 ⟨rfl,u1,p,rfl,hp,hda⟩
  go_wp2_with fail
  refine (jaj _ C _ lb hb).mono ?_;rintro e w1 ⟨rfl,u2,q,rfl,hq,hdb⟩;have lp:=Nat.le_trans (jbb hda ha.lt) hla;have lq:=Nat.le_trans (jbb hdb hb.lt) hlb;have HA:=hide hda;have HB:=hide hdb;have hp0:=hp.lt;have hq0:=hq.lt;clear hda hdb;obtain ⟨A1,c1,rfl,-,-,-,hcp⟩:=hp;obtain ⟨A2,c2,rfl,-,-,-,hcq⟩:=hq;have hmk:=je3 ((p.length:Int)+(q.length:Int)) (p.length+q.length) (by omega) (by omega)
  go_wp2_with fail
  clear hmk
  go_loopw [26] (fun i wr=>∃(k:Nat) (o:List Nat),k≤p.length∧i=.int .i64 k∧Out wr w.heap.size o∧Hid (o.length=p.length+q.length)∧Hid (∀x∈o,x<W)∧
      Hid (val W o=val W (p.take k)*val W q)∧Hid (∀j,k+q.length≤j→nth o j=0)∧Below w.heap.size w wr) (fun i _=>p.length - (intOf i).toNat)
  case atStart=>exact ⟨0,_,Nat.zero_le _,rfl,Out.made w _,hide (by simp),hide (fun x hx=>by rw [(List.mem_replicate.1 hx).2];exact ja5),hide (by simp [L.val,L.val_replicate]),hide (fun j _=>by simp [L.nth_def,List.getD_eq_getElem?_getD,List.getElem?_replicate];split <;> rfl),(Below.refl _ _).alloc (Nat.le_refl _) _⟩
  case round=>
    obtain ⟨i,o,hi,rfl,hO,HO,HOlt,HI,HZ,hB⟩:=hrel
    by_cases hlt:i<p.length
    · obtain ⟨b1,o1,rfl,-,hb1,hcell1⟩:=hcp (by omega)
      have h1:wr.cell? ⟨b1,o1+i,none⟩=_:=(hB.cell (p:=⟨b1,o1+i,none⟩) hb1).trans (hcell1 i hlt);have px:=jbo hp0 i;obtain ⟨wo,rfl⟩:∃wo:World,wo=wr:=⟨_,rfl⟩;clear hcell1 hcp
      go_wp2_with fail
      go_loopw [8,33] (fun c k wr=>∃(k' cN:Nat) (o':List Nat),k'≤q.length∧k=.int .i64 k'∧c=.int .u64 cN∧cN<18446744073709551616∧Out wr w.heap.size o'∧Hid (o'.length=p.length+q.length)∧Hid (∀x∈o',x<W)∧
        Hid (val W o'+W^(i+k')*cN=val W (p.take i)*val W q+W^i*(nth p i*val W (q.take k')))∧Hid (∀j,i+q.length≤j→nth o' j=0)∧Below w.heap.size w wr) (fun _ k _=>q.length - (intOf k).toNat)
      case atStart=>exact ⟨0,0,o,Nat.zero_le _,rfl,rfl,by omega,hO,HO,HOlt,hide (by rw [HI.out];simp [L.val]),HZ,hB⟩
      case round=>
        obtain ⟨k,cN,o',hk,rfl,rfl,hcN,hO',HO',HOlt',HI',HZ',hB'⟩:=hrel
        by_cases hltq:k<q.length
        · have hol:i+k<o'.length:=by have:=HO'.out;omega
          obtain ⟨b2,o2,rfl,-,hb2,hcell2⟩:=hcq (by omega);have h2:wr.cell? ⟨b2,o2+k,none⟩=_:=(hB'.cell (p:=⟨b2,o2+k,none⟩) hb2).trans (hcell2 k hltq);have h3:=hO'.cell hol;have h4:=hO'.frozen (i+k);have qx:=jbo hq0 k;have ox:=jbo HOlt'.out (i+k);obtain ⟨h,l,l1,c1',l2,c2',e1,e2,e3,e4,e5,e6,e7,e8,e9⟩:=jsv (nth p i) (nth q k) (nth o' (i+k)) cN px qx ox hcN;have HST:=hide (L.mul_step W q o' _ (nth p i) i k cN l2 (h+c1'+c2') hol HI'.out e9);have hadd1:∀w,(callFunc 165 #[.int .u64 (l:Nat),.int .u64 (nth o' (i+k):Nat),.int .u64 0]).run Tryz.prog w=_:=jd4 l (nth o' (i+k)) 0 l1 c1' (by omega) e3 e4;have hadd2:∀w,(callFunc 165 #[.int .u64 (l1:Nat),.int .u64 (cN:Nat),.int .u64 0]).run Tryz.prog w=_:=jd4 l1 cN 0 l2 c2' (by omega) e5 e6;have E1:=hide e1;have bi:(i:Int)+(k:Int)<(p.length:Int)+(q.length:Int):=by omega
          clear hcell2 hcq e9 e3 e5 e1 e4
          go_wp2_with fail
          refine (mul64_calls' (nth p i) (nth q k) h l px qx E1.out e2 _).mono ?_;rintro e w1 ⟨rfl,rfl⟩
          go_wp2_with fail
          go_roundw
          case rel=>
            exact ⟨k+1,h+c1'+c2',_,by omega,by go_num,by go_num,e8,hO'.set (i+k) l2,hide (by simpa using HO'.out),hide (L.mem_set_lt o' HOlt'.out (i+k) l2 e6),HST,
              hide (fun j hj=>by rw [L.getD_set_ne _ _ _ _ (by omega)];exact HZ'.out j hj),hB'.setCell (Nat.le_refl _) _⟩
          case measure=>simp [intOf];omega
        · have hke:k=q.length:=by omega
          subst hke;have hol:i+q.length<o'.length:=by have:=HO'.out;omega
          have h3:=hO'.cell hol;have h4:=hO'.frozen (i+q.length);have bi:(i:Int)+(q.length:Int)<(p.length:Int)+(q.length:Int):=by omega
          have HST:=hide (L.mul_row W p q o' i cN hol (HZ'.out _ (Nat.le_refl _)) (by have:=HI'.out;rwa [List.take_of_length_le (Nat.le_refl _)] at this))
          go_wp2_with fail
          go_roundw
          case rel=>
            exact ⟨i+1,_,by omega,by go_num,hO'.set (i+q.length) cN,hide (by simpa using HO'.out),hide (L.mem_set_lt o' HOlt'.out _ cN hcN),HST,
              hide (fun j hj=>by rw [L.getD_set_ne _ _ _ _ (by omega)];exact HZ'.out j (by omega)),hB'.setCell (Nat.le_refl _) _⟩
          case measure=>simp [intOf];omega
    · have hke:i=p.length:=by omega
      subst hke;have HV:Hid (val W o=val W la*val W lb):=hide (by rw [HI.out,List.take_of_length_le (Nat.le_refl _),HA.out.val,HB.out.val]);have hN:=hO.nums (Nat.le_refl _) (by have:=HO.out;omega) HOlt.out;rw [HO.out] at hN;have HN:=hide hN;clear hN hcp hcq
      go_wp2_with fail
      refine (jaj _ _ _ _ HN.out).mono ?_;rintro e w1 ⟨rfl,u,d,rfl,hu,hd⟩
      go_wp2_with fail
      go_ret
      refine ⟨hB,u,d,rfl,hu,?_⟩;rw [←HV.out];exact hd
end
end
section
section
open Go.RowKit
open L (val dig nth)
theorem jk9 (n j:Nat):nth (List.replicate n 0) j=0:=by
  simp [L.nth_def,List.getD_eq_getElem?_getD,List.getElem?_replicate];split <;> rfl
def clampN (n:Int):Nat:=(max 0 (min n 8192)).toNat
theorem jim (n:Int):max 0 (min n 8192)=(clampN n:Int):=by unfold clampN;omega
theorem jla (n:Int):clampN n≤8192:=by unfold clampN;omega
set_option maxRecDepth 100000 in
theorem jd6 (w:World) (B:Nat) (v:Value) (l:List Nat) (n:Int) (h:Nums w B v l) (hl:l.length≤60000) (hn0 : -9223372036854775808≤n) (hn1:n≤9223372036854775807) :
    Calls Tryz.prog 138 #[v,.int .i64 n] w fun e w'=>Below w.heap.size w w'∧RetU w.heap.size (val W l*2^clampN n) e w':=by
  go_enter Tryz.func138,Tryz.ntmps138
  go_wp2_with fail
  refine (jaj _ B _ l h).mono ?_;rintro e w1 ⟨rfl,u1,p,rfl,hp,hd⟩;have lp:=Nat.le_trans (jbb hd h.lt) hl;have hp0:=hp.lt;obtain ⟨A1,c1,rfl,-,-,-,hcp⟩:=hp
  go_upto_region 3 with (fail)
  have hm:=jla n;rw [jim n];obtain ⟨m,HCl⟩:∃m,Hid (clampN n=m):=⟨_,hide rfl⟩;rw [HCl.out] at hm ⊢
  go_upto_region 4 with (fail)
  rw [and63 m (by omega),div64 m];have HM:Hid (m=64*(m / 64)+m%64):=hide (by omega);have hlf:m%64≤63:=by omega
  have hwd:m / 64≤128:=by omega
  generalize m / 64=wd at *
  generalize m%64=lf at *
  have hmk:=je3 ((p.length:Int)+(wd:Int)+1) (p.length+wd+1) (by omega) (by omega)
  go_wp2_with fail
  clear hmk
  go_loopw [28] (fun i wr=>∃(k:Nat) (o:List Nat),k≤p.length∧i=.int .i64 k∧Out wr w.heap.size o∧Hid (o.length=p.length+wd+1)∧Hid (∀x∈o,x<W)∧
      Hid (val W o=val W (p.take k)*2^m)∧Hid (∀j,k+wd<j→nth o j=0)∧nth o (k+wd)<2^lf∧Below w.heap.size w wr) (fun i _=>p.length - (intOf i).toNat)
  case atStart=>exact ⟨0,_,Nat.zero_le _,rfl,Out.made w _,hide (by simp),hide (fun x hx=>by rw [(List.mem_replicate.1 hx).2];exact ja5),hide (by simp [L.val,L.val_replicate]),hide (fun j _=>jk9 _ j),by rw [jk9];exact Nat.two_pow_pos _,(Below.refl _ _).alloc (Nat.le_refl _) _⟩
  case round=>
    obtain ⟨i,o,hi,rfl,hO,HO,HOlt,HI,HZ,hlow,hB⟩:=hrel
    by_cases hlt:i<p.length
    · obtain ⟨b1,o1,rfl,-,hb1,hcell1⟩:=hcp (by omega)
      have h1:wr.cell? ⟨b1,o1+i,none⟩=_:=(hB.cell (p:=⟨b1,o1+i,none⟩) hb1).trans (hcell1 i hlt);have px:=jbo hp0 i;have hol:i+wd<o.length:=by have:=HO.out;omega
      have h3:=hO.cell hol;have h4:=hO.frozen (i+wd);have bi:(i:Int)+(wd:Int)<(p.length:Int)+(wd:Int)+1:=by omega
      clear hcell1 hcp;obtain ⟨hor,horl⟩:=jxc (nth o (i+wd)) (nth p i) lf hlf hlow px;have HOR:=hide hor
      have HVn:Hid (val W (p.take (i+1))*2^m=val W (p.take i)*2^m+W^(i+wd)*(nth p i*2^lf)):=hide (by
        rw [L.val_take_step W p i,Nat.add_mul,Nat.pow_add W i wd,je4 wd];rw [show 2^m=2^(64*wd)*2^lf from by rw [HM.out,Nat.pow_add]]
        congr 1
        simp only [Nat.mul_assoc,Nat.mul_left_comm])
      clear hor
      by_cases hz:lf=0
      · subst hz
        have hlow0:nth o (i+wd)=0:=by rw [Nat.pow_zero] at hlow;omega
        have e0:bits .or .u64 (nth o (i+wd):Nat) (nth p i:Nat)=((nth o (i+wd)+nth p i:Nat):Int):=by
          rw [bits_or_u64_nat _ _ (by omega) px,hlow0,Nat.zero_or,Nat.zero_add]
        have E0:=hide e0;have HLW:=hide hlow0;clear e0 hlow0
        go_wp2_with fail
        go_roundw
        case rel=>
          refine ⟨i+1,_,by omega,by go_num,hO.set_of (i+wd) _ E0.out,hide (by simpa using HO.out),hide (L.mem_set_lt o HOlt.out _ _ (by rw [HLW.out,Nat.zero_add];exact px)),hide ?_,
              hide (fun j hj=>by rw [L.getD_set_ne _ _ _ _ (by omega)];exact HZ.out j (by omega)),?_,hB.setCell (Nat.le_refl _) _⟩
          · rw [L.shl_step0 W o (i+wd) (nth p i) hol,HVn.out,HI.out,Nat.pow_zero,Nat.mul_one]
          · rw [L.getD_set_ne _ _ _ _ (by omega),HZ.out _ (by omega)];exact Nat.two_pow_pos _
        case measure=>simp [intOf];omega
      · have hlf1:1≤lf:=by omega
        have hol':i+wd+1<o.length:=by have:=HO.out;omega
        have h5:=hO.cell hol';have h6:=hO.frozen (i+wd+1);have bi':(i:Int)+(wd:Int)+1<(p.length:Int)+(wd:Int)+1:=by omega
        have HTOP:=hide (jr8 (nth p i) lf (by omega))
        go_wp2_with fail
        go_roundw
        case rel=>
          have hlt2:nth p i / 2^(64 - lf)<2^lf:=by
            rw [Nat.div_lt_iff_lt_mul (Nat.two_pow_pos _),Nat.mul_comm,jdt (by omega)];exact px
          refine ⟨i+1,_,by omega,by go_num,(hO.set_of (i+wd) _ HOR.out).set_of (i+wd+1) _ (jc2 (nth p i) (64 - lf)),hide (by simpa using HO.out),
              hide (L.mem_set_lt _ (L.mem_set_lt o HOlt.out _ _ horl) _ _ (Nat.lt_of_le_of_lt (Nat.div_le_self _ _) px)),hide ?_,
              hide (fun j hj=>by rw [L.getD_set_ne _ _ _ _ (by omega),L.getD_set_ne _ _ _ _ (by omega)];exact HZ.out j (by omega)),?_,(hB.setCell (Nat.le_refl _) _).setCell (Nat.le_refl _) _⟩
          · rw [L.shl_step W o (i+wd) _ _ (nth p i*2^lf) hol' (HZ.out _ (by omega)) (by rw [HTOP.out];exact Nat.mod_add_div _ _),HVn.out,HI.out]
          · rw [show i+1+wd=i+wd+1 from by omega,L.getD_set_self _ _ _ (by simpa using hol')];exact hlt2
        case measure=>simp [intOf];omega
    · have hke:i=p.length:=by omega
      subst hke;have HV:Hid (val W o=val W l*2^clampN n):=hide (by rw [HI.out,List.take_of_length_le (Nat.le_refl _),hd.val,HCl.out]);have hN:=hO.nums (Nat.le_refl _) (by have:=HO.out;omega) HOlt.out;rw [HO.out] at hN;have HN:=hide hN;clear hN hcp
      go_wp2_with fail
      refine (jaj _ _ _ _ HN.out).mono ?_;rintro e w1 ⟨rfl,u,d,rfl,hu,hd⟩
      go_wp2_with fail
      go_ret
      refine ⟨hB,u,d,rfl,hu,?_⟩;rw [←HV.out];exact hd
set_option maxRecDepth 100000 in
theorem jlb (w:World) (B:Nat) (v:Value) (l:List Nat) (n:Int) (h:Nums w B v l) (hl:l.length≤60000) (hn0 : -9223372036854775808≤n) (hn1:n≤9223372036854775807) :
    Calls Tryz.prog 164 #[v,.int .i64 n] w fun e w'=>Below w.heap.size w w'∧RetU w.heap.size (val W l / 2^clampN n) e w':=by
  go_enter Tryz.func164,Tryz.ntmps164
  go_wp2_with fail
  refine (jaj _ B _ l h).mono ?_;rintro e w1 ⟨rfl,u1,p,rfl,hp,hd⟩;have lp:=Nat.le_trans (jbb hd h.lt) hl;have hp0:=hp.lt;have hpn:=hp;obtain ⟨A1,c1,rfl,hcap,-,-,hcp⟩:=hp
  go_upto_region 3 with (fail)
  have hm:=jla n;rw [jim n];obtain ⟨m,HCl⟩:∃m,Hid (clampN n=m):=⟨_,hide rfl⟩;rw [HCl.out] at hm ⊢
  go_upto_region 4 with (fail)
  rw [and63 m (by omega),div64 m];have HM:Hid (m=64*(m / 64)+m%64):=hide (by omega);have hlf:m%64≤63:=by omega
  have hwd:m / 64≤128:=by omega
  generalize m / 64=wd at *
  generalize m%64=s at *
  by_cases hge:p.length≤wd
  · have hge':(p.length:Int)≤(wd:Int):=by omega
    have HV:Hid (val W l / 2^clampN n=0):=hide (by
      rw [HCl.out,HM.out,←hd.val];apply Nat.div_eq_of_lt;have h1:=L.val_lt p hp0;rw [je4] at h1;exact Nat.lt_of_lt_of_le h1 (Nat.pow_le_pow_right (by omega) (by omega)))
    go_wp2_with fail
    go_ret
    exact ⟨Below.refl _ _,_,[],rfl,Nums.nil _ _,by rw [HV.out];exact (L.dig_zero W).symm⟩
  · obtain ⟨b1,o1,rfl,-,hb1,hcell1⟩:=hcp (by omega)
    have hwl:(wd:Int)<(p.length:Int):=by omega
    have hsub:=hpn.from_ (k:=wd) (by omega);have hdl:(p.drop wd).length=p.length - wd:=List.length_drop;have hne:¬ c1=wd:=by omega
    have hle':wd≤p.length:=by omega
    clear hge
    go_wp2_with fail
    refine (je5 _ B _ (p.drop wd) hsub (by omega)).mono ?_;rintro e w1 ⟨hB0,u1,rfl,hown⟩;obtain ⟨g,cap,rfl,hown'⟩:=OwnU.toN hown (by omega);clear hown;have hown:OwnN w1 w.heap.size g (p.length - wd) cap (p.drop wd):=by rw [hdl] at hown';exact hown'
    clear hown';rw [hdl];have HD:=hide hdl;have hgl:=hown.ge;have hB0s:=hB0.size;obtain ⟨N,HN⟩:∃N,Hid (p.length - wd=N):=⟨_,hide rfl⟩;rw [HN.out] at hown ⊢;have hN1:0<N:=by have:=HN.out;omega
    have hN2:N≤60000:=by have:=HN.out;omega
    have HQ:Hid (val W (p.drop wd) / 2^s=val W l / 2^clampN n):=hide (by
      rw [HCl.out,HM.out,←hd.val,L.val_drop W ja5 p hp0,je4,Nat.div_div_eq_div_mul,←Nat.pow_add])
    have HPl:Hid ((p.drop wd).length=N):=hide (by rw [hdl];exact HN.out);have hP0:∀x∈p.drop wd,x<W:=fun x hx=>hp0 x (List.mem_of_mem_drop hx)
    have HP0:=hide hP0
    have hcellP:∀i,i<N→w.cell? ⟨b1,o1+wd+i,none⟩=some (.int .u64 (nth (p.drop wd) i:Nat)):=fun i hi=>by
      rw [L.nth_drop,Nat.add_assoc];exact hcell1 (wd+i) (by have:=HN.out;omega)
    have HCP:=hide hcellP;obtain ⟨P,HPe⟩:∃P,Hid (p.drop wd=P):=⟨_,hide rfl⟩;rw [HPe.out] at hown HQ HPl HP0 HCP;clear hdl hP0 hcellP hcell1 hsub hcp hpn hp0 hd HM
    go_wp2_with fail
    go_loopw [29] (fun i wr=>∃(k:Nat) (o:List Nat),k≤N∧i=.int .i64 k∧OwnN wr w.heap.size g N cap o∧Hid (∀x∈o,x<W)∧
      Hid (val W (o.take k)*2^s+nth P 0%2^s=val W (P.take k)+W^k*(nth P k%2^s))∧Hid (∀j,k≤j→nth o j=nth P j)∧Below w.heap.size w wr) (fun i _=>N - (intOf i).toNat)
    case atStart=>exact ⟨0,P,Nat.zero_le _,rfl,hown,HP0,hide (by simp [L.val]),hide (fun j _=>rfl),hB0⟩
    case round=>
      obtain ⟨i,o,hi,rfl,hO,HOlt,HI,HZ,hB⟩:=hrel
      by_cases hlt:i<N
      · have h3:=hO.cell hlt
        have h4:=hO.frozen i;have hPi:nth o i=nth P i:=HZ.out i (Nat.le_refl _);rw [hPi] at h3;have px:=jbo HP0.out i;have hbl:=hO.len;have HBL:=hide hbl;clear hPi hbl;have hol:i<o.length:=by rw [HBL.out];exact hlt
        have hW:W=2^s*2^(64 - s):=by rw [Nat.mul_comm,jdt (by omega)]
        have HST:=hide (L.shr_step W (2^s) (2^(64 - s)) hW (Nat.two_pow_pos s) P o i hol HI.out)
        have hvl:nth P i / 2^s+nth P (i+1)%2^s*2^(64 - s)<W:=by
          have h1:nth P i / 2^s<2^(64 - s):=by
            rw [Nat.div_lt_iff_lt_mul (Nat.two_pow_pos _),jdt (by omega)];exact px
          have h2:nth P (i+1)%2^s<2^s:=Nat.mod_lt _ (Nat.two_pow_pos _);have h3:(nth P (i+1)%2^s+1)*2^(64 - s)≤2^s*2^(64 - s):=Nat.mul_le_mul_right _ h2;rw [←hW,Nat.add_mul] at h3
          omega
        have HVL:=hide hvl
        have HSET:Hid (∀j,i+1≤j→nth (o.set i (nth P i / 2^s+nth P (i+1)%2^s*2^(64 - s))) j=nth P j):=
          hide (fun j hj=>by rw [L.getD_set_ne _ _ _ _ (by omega)];exact HZ.out j (by omega))
        clear hW hvl
        by_cases hs0:s=0
        · have HS0:Hid (nth P i=nth P i / 2^s+nth P (i+1)%2^s*2^(64 - s)):=hide (by rw [hs0,Nat.pow_zero,Nat.div_one,Nat.mod_one,Nat.zero_mul,Nat.add_zero])
          subst hs0
          go_wp2_with fail
          go_roundw
          case rel=>
            refine ⟨i+1,_,by omega,by go_num,hO.set_of i _ (congrArg (fun x:Nat=>(x:Int)) HS0.out),hide (L.mem_set_lt o HOlt.out _ _ HVL.out),HST,HSET,hB.setCell hgl.1 _⟩
          case measure=>simp [intOf];omega
        · have hs1:1≤s:=by omega
          by_cases hnx:i+1<N
          · have h1:wr.cell? ⟨b1,o1+(i+1+wd),none⟩=some (.int .u64 (nth P (i+1):Nat)):=by
              have:=(hB.cell (p:=⟨b1,o1+wd+(i+1),none⟩) hb1).trans (HCP.out (i+1) hnx)
              rwa [show o1+wd+(i+1)=o1+(i+1+wd) from by omega] at this
            have hgb:g≠b1:=by omega
            have h5:(wr.setCell ⟨g,i,none⟩ (.int .u64 ((nth P i:Nat) / 2^s))).cell? ⟨g,i,none⟩=some (.int .u64 ((nth P i:Nat) / 2^s)):=by
              have:=(hO.set_of i _ (jc2 (nth P i) s)).cell hlt;rw [L.getD_set_self _ _ _ (by rw [HBL.out];exact hlt)] at this;rw [this,←jc2]
            have hb2:(i:Int)+1+(wd:Int)<(p.length:Int):=by have:=HN.out;omega
            go_wp2_with fail
            have s1:IntKind.i64.wrap ((i:Int)+1)=(i:Int)+1:=IntWalk.i64_in _ (by omega);have s2:IntKind.i64.wrap ((i:Int)+1+(wd:Int))=(i:Int)+1+(wd:Int):=IntWalk.i64_in _ (by omega);have s3:(0:Int)≤(i:Int)+1+(wd:Int):=by omega
            have s4:((i:Int)+1+(wd:Int)).toNat=i+1+wd:=by omega
            have s5:IntKind.u64.wrap (64 - (s:Int))=64 - (s:Int):=IntWalk.u64_in _ (by omega);have s6:(0:Int)≤64 - (s:Int):=by omega
            refine wp_region_still_tail 16 (by kernel_rfl) (by kernel_rfl) ?_;simp only [List.take_succ_cons,List.take_zero,List.drop_succ_cons,List.drop_zero]
            change wpStill _ _ (World.drew _) _ _ _
            repeat still_step
            refine wpStill_nil ?_
            change wpList _ _ _ _ _ (World.drew _)
            go_wp2_with fail
            go_roundw
            case rel=>
              have hlo:nth P i / 2^s<2^(64 - s):=by
                rw [Nat.div_lt_iff_lt_mul (Nat.two_pow_pos _),jdt (by omega)];exact px
              have hor:=(jxc (nth P i / 2^s) (nth P (i+1)) (64 - s) (by omega) hlo (jbo HP0.out (i+1))).1
              rw [←jc2,show nth P (i+1)*2^(64 - s)%W=nth P (i+1)%2^s*2^(64 - s) from by
                conv=>lhs;rw [←jdt (s:=s) (by omega),Nat.mul_comm (2^(64 - s)) (2^s),Nat.mul_mod_mul_right]] at hor
              have h6:=(hO.set_of i _ (jc2 (nth P i) s)).set_of i _ hor;rw [List.set_set] at h6;exact ⟨i+1,_,by omega,by go_num,h6.drew,hide (L.mem_set_lt o HOlt.out _ _ HVL.out),HST,HSET,((hB.setCell hgl.1 _).setCell hgl.1 _).drew⟩
            case measure=>simp [intOf];omega
          · have hb2:¬ ((i:Int)+1+(wd:Int)<(p.length:Int)):=by have:=HN.out;omega
            have HS0:Hid (nth P i / 2^s=nth P i / 2^s+nth P (i+1)%2^s*2^(64 - s)):=hide (by
              rw [L.getD_ge P (i+1) (by have:=HPl.out;omega),Nat.zero_mod,Nat.zero_mul,Nat.add_zero])
            go_wp2_with fail
            go_roundw
            case rel=>
              refine ⟨i+1,_,by omega,by go_num,hO.set_of i _ ((jc2 _ _).trans (congrArg (fun x:Nat=>(x:Int)) HS0.out)),hide (L.mem_set_lt o HOlt.out _ _ HVL.out),HST,HSET,hB.setCell hgl.1 _⟩
            case measure=>simp [intOf];omega
      · have hke:i=N:=by omega
        subst hke
        have HV:Hid (val W o=val W l / 2^clampN n):=hide (by
          rw [←HQ.out];exact L.shr_end W (2^s) (Nat.two_pow_pos s) P o i hO.len HPl.out HI.out)
        have HNm:=hide (hO.nums HOlt.out)
        go_wp2_with fail
        refine (jaj _ _ _ _ HNm.out).mono ?_;rintro e w1 ⟨rfl,u,d,rfl,hu,hd⟩
        go_wp2_with fail
        go_ret
        refine ⟨hB,u,d,rfl,hu,?_⟩;rw [←HV.out];exact hd
end
end
end Go.Proofs.YtllgjggkchgpbaaGreat