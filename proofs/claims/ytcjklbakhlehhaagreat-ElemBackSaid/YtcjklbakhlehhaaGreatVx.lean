/- zed.Text of 0, and of numbers of two and three digits. V: zed.Text of what has at most three digits. -/
import Derived.Test.YtcjklbakhlehhaaGreatPats
import Derived.Test.YtcjklbakhlehhaaGreatWk
import Derived.Test.YtcjklbakhlehhaaGreatVe
set_option linter.unusedVariables false
set_option linter.unusedSimpArgs false
namespace Go.Proofs.YtcjklbakhlehhaaGreat
section
section
section
open Go.RowKit
open L (val dig nth)
def txtL (l:List Int):Value:=.string (l.foldl (fun r n=>r.push (UInt8.ofNat n.toNat)) ByteArray.empty)
def digs (N:Nat):Nat→List Nat
  | 0=>[]
  | k+1=>digs N k ++ [48+N / 10^k%10]
set_option maxRecDepth 100000 in
theorem jke (w:World) (g cap:Nat) (a b c:Int) (h0:w.cell? ⟨g,0,none⟩=some (.int .u8 a)) (h2:w.cell? ⟨g,2,none⟩=some (.int .u8 c)) (f0:w.frozen? ⟨g,0,none⟩=false) (f2:w.frozen? ⟨g,2,none⟩=false) :
    Calls Tryz.prog 76 #[.slice (some ⟨g,0,none⟩) 3 cap] w fun e w'=>e=.returned (.tuple #[])∧(w'=((w.setCell ⟨g,0,none⟩ (.int .u8 c)).setCell ⟨g,2,none⟩ (.int .u8 a)).drew):=by
  go_enter Tryz.func76,Tryz.ntmps76
  go_wp2_with fail
  go_loopw [2,3] (fun i j wr=>(i=.int .i64 0∧j=.int .i64 2∧wr=w)∨(i=.int .i64 1∧j=.int .i64 1∧wr=((w.setCell ⟨g,0,none⟩ (.int .u8 c)).setCell ⟨g,2,none⟩ (.int .u8 a)).drew)) (fun i j _=>(intOf j).toNat)
  case atStart=>exact .inl ⟨rfl,rfl,rfl⟩
  case round=>
    rcases hrel with ⟨rfl,rfl,rfl⟩ | ⟨rfl,rfl,rfl⟩
    · go_wp2_with fail
      go_big_region
      go_wp2_with fail
      go_roundw
      case rel=>exact .inr ⟨rfl,rfl,trivial⟩
      case measure=>simp [intOf]
    · go_wp2_with fail
      go_end0
      exact ⟨rfl,rfl⟩
set_option maxRecDepth 100000 in
theorem jt3 (w:World) (n:Bool) (B:Nat) (v:Value) (l:List Nat) (h:Nums w B v l) (hl:l.length≤50000) (hN:val W l=0) :
    Calls Tryz.prog 58 #[.agg #[.bool n,v]] w fun e w'=>Below w.heap.size w w'∧e=.returned (txtL [48]):=by
  have h0:=h;obtain ⟨A,cap,rfl,-,-,-,hc⟩:=h;obtain ⟨W0,hW,hbx,hB0,hs⟩:=start1 w 24 #[.bool n,.slice A l.length cap];have hu0:=h0.up hB0;clear hc;obtain ⟨c0,c1,-,-⟩:=hbx.two
  go_enter Tryz.func58,Tryz.ntmps58
  go_upto_region 1 with (fail)
  rw [←hW];clear hW;have HP:=jbt W0 B _ l hu0 (by omega);rw [hN] at HP
  go_wp2_with fail
  refine HP.mono ?_;rintro e w1 ⟨hb1,u1,d,rfl,hu1,hd⟩
  have hd1:d=[]:=by
    have e:d=dig W 0:=hd;rw [e,L.dig_zero]
  subst hd1;obtain ⟨A1,cap1,rfl⟩:=hu1.form
  go_wp2_with fail
  go_ret
  exact ⟨hB0.trans (hb1.mono (by omega)),rfl⟩
set_option maxHeartbeats 1000000 in
set_option maxRecDepth 100000 in
theorem jv9 (w:World) (B:Nat) (v:Value) (l:List Nat) (N:Nat) (h:Nums w B v l) (hl:l.length≤50000) (hN:val W l=N) (h1:10≤N) (h9:N≤99) :
    Calls Tryz.prog 58 #[.agg #[.bool false,v]] w fun e w'=>Below w.heap.size w w'∧e=.returned (txtL [48+((N / 10%10:Nat):Int),48+((N%10:Nat):Int)]):=by
  have h0:=h;obtain ⟨A,cap,rfl,-,-,-,hc⟩:=h;obtain ⟨W0,hW,hbx,hB0,hs⟩:=start1 w 24 #[.bool false,.slice A l.length cap];have hu0:=h0.up hB0;have HN:=hide hN;clear hc hN;obtain ⟨c0,c1,-,-⟩:=hbx.two;have HD:Hid (digs N 2=[48+N%10,48+N / 10%10]):=hide (by simp [digs])
  have HX:Hid (∀j,j≤2→(j<2→0<N / 10^j)∧(j=2→N / 10^j=0)∧N / 10^j≤99):=hide (fun j hj=>by
    obtain rfl | rfl | rfl:j=0∨j=1∨j=2:=by omega
    all_goals refine ⟨fun h=>?_,fun h=>?_,?_⟩ <;> simp at * <;> omega)
  go_enter Tryz.func58,Tryz.ntmps58
  go_upto_region 1 with (fail)
  rw [←hW];clear hW;have HP:=jbt W0 B _ l hu0 (by omega);rw [HN.out] at HP
  go_wp2_with fail
  refine HP.mono ?_;rintro e w1 ⟨hb1,u1,d,rfl,hu1,hd⟩;have hd1:=jcv hd (by omega) (by unfold W;omega);subst hd1;obtain ⟨A1,cap1,rfl⟩:=hu1.form;have hbx1:=hbx.below hb1 (by omega);clear HP;have s1:=hb1.size;have HB1:=hide (hB0.trans (hb1.mono (by omega)))
  go_wp2_with fail
  go_loopw [3,4] (fun m q wr=>(m=.slice A1 1 cap1∧q=.slice none 0 0∧wr=w1)∨(m=.slice none 0 0∧OwnB wr (w.heap.size+1) q (digs N 2)∧Below w.heap.size w wr∧Blk wr w.heap.size 24 #[.bool false,.slice A l.length cap])) (fun m _ _=>lenOf m)
  case atStart=>exact .inl ⟨rfl,rfl,rfl⟩
  case round=>
    rcases hrel with ⟨rfl,rfl,rfl⟩ | ⟨rfl,hq,hB2,hbx2⟩
    · have hone:=Nums.one wr 1000000000000000000 1000000000000000000 rfl (by unfold W;omega)
      have hlt:val W [N]<val W [1000000000000000000]:=by simp [L.val];omega
      go_wp2_with fail
      refine (jcz _ 0 0 _ _ [N] [1000000000000000000] ((hu1.mono (Nat.zero_le _)).alloc _) hone hlt (by simp)).mono ?_;rintro e w3 ⟨hb3,u3,d3,rfl,hu3,hd3⟩;have hd4:=jcv (d:=d3) (N:=N) (by rw [show val W [N]=N from by simp [L.val]] at hd3;exact hd3) (by omega) (by unfold W;omega);subst hd4;have hbx3:=(hbx1.alloc (.cells #[.int .u64 1000000000000000000] 63)).below hb3 (by simp;omega);have HB3:=hide ((HB1.out.alloc (by omega) (.cells #[.int .u64 1000000000000000000] 63)).trans (hb3.mono (by simp;omega)));obtain ⟨A3,cap3,rfl,-,-,-,hc3⟩:=hu3;obtain ⟨b3,o3,rfl,-,-,hcell⟩:=hc3 (by simp);have hce:=hcell 0 (by simp);simp only [Nat.add_zero] at hce;have hce':w3.cell? ⟨b3,o3,none⟩=some (.int .u64 (N:Int)):=by rw [hce];simp [L.nth]
      clear hcell hc3 hce hlt hone
      go_wp2_with fail
      go_loopw [4,8,9] (fun q x i wx=>∃j M:Nat,j≤2∧Hid (M=N / 10^j)∧x=.int .u64 M∧i=.int .i64 j∧OwnB wx (w.heap.size+1) q (digs N j)∧Below w.heap.size w wx∧Blk wx w.heap.size 24 #[.bool false,.slice A l.length cap]) (fun _ _ i _=>(2+1 - intOf i).toNat)
      case atStart=>exact ⟨0,N,by omega,hide (by simp),rfl,rfl,OwnB.nil _ _,HB3.out,hbx3⟩
      case round=>
        obtain ⟨j,M,hj,HM,rfl,rfl,hq,hBq,hbq⟩:=hrel;obtain ⟨x1,x2,x3⟩:=HX.out j hj;rw [←HM.out] at x1 x2 x3
        by_cases hjl:j<2
        · have hMp:(0:Int)<(M:Int):=by have:=x1 hjl;omega
          obtain ⟨r,hr⟩:∃r:Nat,r=M%10:=⟨_,rfl⟩;obtain ⟨M2,hM2⟩:∃r:Nat,r=M / 10:=⟨_,rfl⟩;have hr9:r<10:=by omega
          have hm1:(M:Int)%10=r:=by omega
          have hm2:(M:Int) / 10=M2:=by omega
          have hw8:IntKind.u8.wrap (48+(r:Int))=48+r:=by rw [IntKind.wrap_u8];omega
          have hcw:(wr.alloc (.cells #[.int .u8 (48+(r:Int))] 5)).cell? ⟨wr.heap.size,0,none⟩=some (.int .u8 (48+(r:Int))):=((Blk.new wr 5 #[.int .u8 (48+(r:Int))]).cell 0).trans rfl;have HCW:=hide hcw;have HQ:=hide (hq.alloc (.cells #[.int .u8 (48+(r:Int))] 5))
          have hdl:(digs N j).length≤1000:=by
            obtain rfl | rfl:j=0∨j=1:=by omega
            all_goals simp [digs]
          have HDL:=hide hdl;have s3:=hBq.size;have HM3:Hid (M2=N / 10^(j+1)):=hide (by rw [hM2,HM.out,Nat.div_div_eq_div_mul,Nat.pow_succ]);have HL3:Hid (digs N j ++ [48+r]=digs N (j+1)):=hide (by rw [hr,HM.out];rfl);clear hcw hdl hr hM2 x1 x2
          go_wp2_with (at_builtin;refine jch _ rfl _ _ rfl (w.heap.size+1) _ (digs N j) rfl HQ.out wr.heap.size _ (48+r) rfl (by omega) HCW.out HDL.out (by simp;omega) ?_;intro v1 w4 hown1 hgrow1)
          have hB4:Below w.heap.size wr w4:=((Below.refl _ wr).alloc (by omega) _).grown hgrow1 (by simp;omega) (fun k hk=>Nat.le_of_succ_le (HQ.out.own_ge k hk));have hbq0:=hbq.alloc (.cells #[.int .u8 (48+(r:Int))] 5);have hbq4:Blk w4 w.heap.size 24 #[.bool false,.slice A l.length cap]:=(hgrow1.block _ hbq0.lt (fun e=>absurd (HQ.out.own_ge _ e.symm) (by omega))).trans hbq0;rw [HL3.out] at hown1
          go_roundw
          case rel=>exact ⟨j+1,M2,by omega,HM3,rfl,by go_num,hown1,hBq.trans hB4,hbq4⟩
          case measure=>simp [intOf];omega
        · have hjl':j=2:=by omega
          have hM0:M=0:=x2 hjl';subst hM0;subst hjl';clear x1 x2 x3 HM
          go_wp2_with fail
          go_roundw
          case rel=>exact .inr ⟨rfl,hq,hBq,hbq⟩
          case measure=>simp [lenOf]
    · obtain ⟨f0,f1,-,-⟩:=hbx2.two
      have s2:=hB2.size;rw [HD.out] at hq;have hq0:=hq;obtain ⟨g,capq,rfl,hg1,hg2,hcq,hfq⟩:=hq.form (by simp);have k0:wr.cell? ⟨g,0,none⟩=some (.int .u8 (48+((N%10:Nat):Int))):=by rw [hcq 0 (by simp)];simp [L.nth,toB]
      have k1:wr.cell? ⟨g,1,none⟩=some (.int .u8 (48+((N / 10%10:Nat):Int))):=by rw [hcq 1 (by simp)];simp [L.nth,toB]
      simp only [List.length_cons,List.length_nil,Nat.zero_add,Nat.reduceAdd]
      go_wp2_with fail
      refine (jhx _ g capq _ _ k0 k1 (hfq 0) (hfq 1)).mono ?_;rintro e w5 ⟨rfl,hw5⟩;have hst:=(World.ownsRow.stored (World.ownsRow.stored hq0 0 (.int .u8 (48+((N / 10%10:Nat):Int)))).1 1 (.int .u8 (48+((N%10:Nat):Int)))).1
      have q0:w5.cell? ⟨g,0,none⟩=some (.int .u8 (48+((N / 10%10:Nat):Int))):=by
        rw [hw5];exact (World.ownsRow.cellAt hst 0 (by simp)).trans (by simp [toB])
      have q1:w5.cell? ⟨g,1,none⟩=some (.int .u8 (48+((N%10:Nat):Int))):=by
        rw [hw5];exact (World.ownsRow.cellAt hst 1 (by simp)).trans (by simp [toB])
      clear hst
      have hB5:Below w.heap.size wr w5:=by
        rw [hw5];exact (((Below.refl _ _).setCell (p:=⟨g,0,none⟩) (show w.heap.size≤g by omega) _).setCell (p:=⟨g,1,none⟩) (show w.heap.size≤g by omega) _).drew
      clear hw5
      have hcv:=jer w5 g 2 capq [48+((N / 10%10:Nat):Int),48+((N%10:Nat):Int)] rfl (by
        intro i z hz
        match i with
        | 0=>simp at hz;subst hz;simpa using q0
        | 1=>simp at hz;subst hz;simpa using q1
        | i+2=>simp at hz)
      have HT:Hid (txtL [48+((N / 10%10:Nat):Int),48+((N%10:Nat):Int)]=.string ([48+((N / 10%10:Nat):Int),48+((N%10:Nat):Int)].foldl (fun r n=>r.push (UInt8.ofNat n.toNat)) ByteArray.empty)):=hide rfl;rw [←HT.out] at hcv
      go_wp2_with fail
      go_ret
      exact ⟨hB2.trans hB5,rfl⟩
set_option maxHeartbeats 1000000 in
set_option maxRecDepth 100000 in
theorem jqh (w:World) (B:Nat) (v:Value) (l:List Nat) (N:Nat) (h:Nums w B v l) (hl:l.length≤50000) (hN:val W l=N) (h1:100≤N) (h9:N≤999) :
    Calls Tryz.prog 58 #[.agg #[.bool false,v]] w fun e w'=>Below w.heap.size w w'∧e=.returned (txtL [48+((N / 100%10:Nat):Int),48+((N / 10%10:Nat):Int),48+((N%10:Nat):Int)]):=by
  have h0:=h;obtain ⟨A,cap,rfl,-,-,-,hc⟩:=h;obtain ⟨W0,hW,hbx,hB0,hs⟩:=start1 w 24 #[.bool false,.slice A l.length cap];have hu0:=h0.up hB0;have HN:=hide hN;clear hc hN;obtain ⟨c0,c1,-,-⟩:=hbx.two;have HD:Hid (digs N 3=[48+N%10,48+N / 10%10,48+N / 100%10]):=hide (by simp [digs])
  have HX:Hid (∀j,j≤3→(j<3→0<N / 10^j)∧(j=3→N / 10^j=0)∧N / 10^j≤999):=hide (fun j hj=>by
    obtain rfl | rfl | rfl | rfl:j=0∨j=1∨j=2∨j=3:=by omega
    all_goals refine ⟨fun h=>?_,fun h=>?_,?_⟩ <;> simp at * <;> omega)
  go_enter Tryz.func58,Tryz.ntmps58
  go_upto_region 1 with (fail)
  rw [←hW];clear hW;have HP:=jbt W0 B _ l hu0 (by omega);rw [HN.out] at HP
  go_wp2_with fail
  refine HP.mono ?_;rintro e w1 ⟨hb1,u1,d,rfl,hu1,hd⟩;have hd1:=jcv hd (by omega) (by unfold W;omega);subst hd1;obtain ⟨A1,cap1,rfl⟩:=hu1.form;have hbx1:=hbx.below hb1 (by omega);clear HP;have s1:=hb1.size;have HB1:=hide (hB0.trans (hb1.mono (by omega)))
  go_wp2_with fail
  go_loopw [3,4] (fun m q wr=>(m=.slice A1 1 cap1∧q=.slice none 0 0∧wr=w1)∨(m=.slice none 0 0∧OwnB wr (w.heap.size+1) q (digs N 3)∧Below w.heap.size w wr∧Blk wr w.heap.size 24 #[.bool false,.slice A l.length cap])) (fun m _ _=>lenOf m)
  case atStart=>exact .inl ⟨rfl,rfl,rfl⟩
  case round=>
    rcases hrel with ⟨rfl,rfl,rfl⟩ | ⟨rfl,hq,hB2,hbx2⟩
    · have hone:=Nums.one wr 1000000000000000000 1000000000000000000 rfl (by unfold W;omega)
      have hlt:val W [N]<val W [1000000000000000000]:=by simp [L.val];omega
      go_wp2_with fail
      refine (jcz _ 0 0 _ _ [N] [1000000000000000000] ((hu1.mono (Nat.zero_le _)).alloc _) hone hlt (by simp)).mono ?_;rintro e w3 ⟨hb3,u3,d3,rfl,hu3,hd3⟩;have hd4:=jcv (d:=d3) (N:=N) (by rw [show val W [N]=N from by simp [L.val]] at hd3;exact hd3) (by omega) (by unfold W;omega);subst hd4;have hbx3:=(hbx1.alloc (.cells #[.int .u64 1000000000000000000] 63)).below hb3 (by simp;omega);have HB3:=hide ((HB1.out.alloc (by omega) (.cells #[.int .u64 1000000000000000000] 63)).trans (hb3.mono (by simp;omega)));obtain ⟨A3,cap3,rfl,-,-,-,hc3⟩:=hu3;obtain ⟨b3,o3,rfl,-,-,hcell⟩:=hc3 (by simp);have hce:=hcell 0 (by simp);simp only [Nat.add_zero] at hce;have hce':w3.cell? ⟨b3,o3,none⟩=some (.int .u64 (N:Int)):=by rw [hce];simp [L.nth]
      clear hcell hc3 hce hlt hone
      go_wp2_with fail
      go_loopw [4,8,9] (fun q x i wx=>∃j M:Nat,j≤3∧Hid (M=N / 10^j)∧x=.int .u64 M∧i=.int .i64 j∧OwnB wx (w.heap.size+1) q (digs N j)∧Below w.heap.size w wx∧Blk wx w.heap.size 24 #[.bool false,.slice A l.length cap]) (fun _ _ i _=>(3+1 - intOf i).toNat)
      case atStart=>exact ⟨0,N,by omega,hide (by simp),rfl,rfl,OwnB.nil _ _,HB3.out,hbx3⟩
      case round=>
        obtain ⟨j,M,hj,HM,rfl,rfl,hq,hBq,hbq⟩:=hrel;obtain ⟨x1,x2,x3⟩:=HX.out j hj;rw [←HM.out] at x1 x2 x3
        by_cases hjl:j<3
        · have hMp:(0:Int)<(M:Int):=by have:=x1 hjl;omega
          obtain ⟨r,hr⟩:∃r:Nat,r=M%10:=⟨_,rfl⟩;obtain ⟨M2,hM2⟩:∃r:Nat,r=M / 10:=⟨_,rfl⟩;have hr9:r<10:=by omega
          have hm1:(M:Int)%10=r:=by omega
          have hm2:(M:Int) / 10=M2:=by omega
          have hw8:IntKind.u8.wrap (48+(r:Int))=48+r:=by rw [IntKind.wrap_u8];omega
          have hcw:(wr.alloc (.cells #[.int .u8 (48+(r:Int))] 5)).cell? ⟨wr.heap.size,0,none⟩=some (.int .u8 (48+(r:Int))):=((Blk.new wr 5 #[.int .u8 (48+(r:Int))]).cell 0).trans rfl;have HCW:=hide hcw;have HQ:=hide (hq.alloc (.cells #[.int .u8 (48+(r:Int))] 5))
          have hdl:(digs N j).length≤1000:=by
            obtain rfl | rfl | rfl:j=0∨j=1∨j=2:=by omega
            all_goals simp [digs]
          have HDL:=hide hdl;have s3:=hBq.size;have HM3:Hid (M2=N / 10^(j+1)):=hide (by rw [hM2,HM.out,Nat.div_div_eq_div_mul,Nat.pow_succ]);have HL3:Hid (digs N j ++ [48+r]=digs N (j+1)):=hide (by rw [hr,HM.out];rfl);clear hcw hdl hr hM2 x1 x2
          go_wp2_with (at_builtin;refine jch _ rfl _ _ rfl (w.heap.size+1) _ (digs N j) rfl HQ.out wr.heap.size _ (48+r) rfl (by omega) HCW.out HDL.out (by simp;omega) ?_;intro v1 w4 hown1 hgrow1)
          have hB4:Below w.heap.size wr w4:=((Below.refl _ wr).alloc (by omega) _).grown hgrow1 (by simp;omega) (fun k hk=>Nat.le_of_succ_le (HQ.out.own_ge k hk));have hbq0:=hbq.alloc (.cells #[.int .u8 (48+(r:Int))] 5);have hbq4:Blk w4 w.heap.size 24 #[.bool false,.slice A l.length cap]:=(hgrow1.block _ hbq0.lt (fun e=>absurd (HQ.out.own_ge _ e.symm) (by omega))).trans hbq0;rw [HL3.out] at hown1
          go_roundw
          case rel=>exact ⟨j+1,M2,by omega,HM3,rfl,by go_num,hown1,hBq.trans hB4,hbq4⟩
          case measure=>simp [intOf];omega
        · have hjl':j=3:=by omega
          have hM0:M=0:=x2 hjl';subst hM0;subst hjl';clear x1 x2 x3 HM
          go_wp2_with fail
          go_roundw
          case rel=>exact .inr ⟨rfl,hq,hBq,hbq⟩
          case measure=>simp [lenOf]
    · obtain ⟨f0,f1,-,-⟩:=hbx2.two
      have s2:=hB2.size;rw [HD.out] at hq;have hq0:=hq;obtain ⟨g,capq,rfl,hg1,hg2,hcq,hfq⟩:=hq.form (by simp);have k0:wr.cell? ⟨g,0,none⟩=some (.int .u8 (48+((N%10:Nat):Int))):=by rw [hcq 0 (by simp)];simp [L.nth,toB]
      have k1:wr.cell? ⟨g,1,none⟩=some (.int .u8 (48+((N / 10%10:Nat):Int))):=by rw [hcq 1 (by simp)];simp [L.nth,toB]
      have k2:wr.cell? ⟨g,2,none⟩=some (.int .u8 (48+((N / 100%10:Nat):Int))):=by rw [hcq 2 (by simp)];simp [L.nth,toB]
      simp only [List.length_cons,List.length_nil,Nat.zero_add,Nat.reduceAdd]
      go_wp2_with fail
      refine (jke _ g capq _ (48+((N / 10%10:Nat):Int)) _ k0 k2 (hfq 0) (hfq 2)).mono ?_;rintro e w5 ⟨rfl,hw5⟩;have hst:=(World.ownsRow.stored (World.ownsRow.stored hq0 0 (.int .u8 (48+((N / 100%10:Nat):Int)))).1 2 (.int .u8 (48+((N%10:Nat):Int)))).1
      have q0:w5.cell? ⟨g,0,none⟩=some (.int .u8 (48+((N / 100%10:Nat):Int))):=by
        rw [hw5];exact (World.ownsRow.cellAt hst 0 (by simp)).trans (by simp [toB])
      have q1:w5.cell? ⟨g,1,none⟩=some (.int .u8 (48+((N / 10%10:Nat):Int))):=by
        rw [hw5];exact (World.ownsRow.cellAt hst 1 (by simp)).trans (by simp [toB])
      have q2:w5.cell? ⟨g,2,none⟩=some (.int .u8 (48+((N%10:Nat):Int))):=by
        rw [hw5];exact (World.ownsRow.cellAt hst 2 (by simp)).trans (by simp [toB])
      clear hst
      have hB5:Below w.heap.size wr w5:=by
        rw [hw5];exact (((Below.refl _ _).setCell (p:=⟨g,0,none⟩) (show w.heap.size≤g by omega) _).setCell (p:=⟨g,2,none⟩) (show w.heap.size≤g by omega) _).drew
      clear hw5
      have hcv:=jer w5 g 3 capq [48+((N / 100%10:Nat):Int),48+((N / 10%10:Nat):Int),48+((N%10:Nat):Int)] rfl (by
        intro i z hz
        match i with
        | 0=>simp at hz;subst hz;simpa using q0
        | 1=>simp at hz;subst hz;simpa using q1
        | 2=>simp at hz;subst hz;simpa using q2
        | i+3=>simp at hz)
      have HT:Hid (txtL [48+((N / 100%10:Nat):Int),48+((N / 10%10:Nat):Int),48+((N%10:Nat):Int)]=.string ([48+((N / 100%10:Nat):Int),48+((N / 10%10:Nat):Int),48+((N%10:Nat):Int)].foldl (fun r n=>r.push (UInt8.ofNat n.toNat)) ByteArray.empty)):=hide rfl;rw [←HT.out] at hcv
      go_wp2_with fail
      go_ret
      exact ⟨hB2.trans hB5,rfl⟩
end
end
section
section
open Go.RowKit
open L (val dig nth)
section
variable {w:World} {k:Nat} {n:Bool} {A:Option Addr} {len cap:Nat}
theorem jnl (h:QB w 0 k n A len cap 0) (hk:k≤40000):Calls Tryz.prog 58 #[.agg #[.bool n,.slice A len cap]] w fun e w'=>Below w.heap.size w w'∧VF (Fact.eq (.string ⟨#[48]⟩)) e w':=by
  obtain ⟨d,g1,g2,g3,g4⟩:=h;refine (jt3 w n 0 _ d g1 (by omega) (by rw [g3.val];rfl)).mono ?_;rintro e w' ⟨hb,rfl⟩;exact ⟨hb,VF.eq rfl⟩
theorem jqi {N:Nat} (h:QB w 0 k n A len cap (N:Int)) (hk:k≤40000) (h1:1≤N) (h9:N≤9) {v:Value} (hv:txt false N=v):Calls Tryz.prog 58 #[.agg #[.bool n,.slice A len cap]] w fun e w'=>Below w.heap.size w w'∧VF (Fact.eq v) e w':=by
  obtain ⟨d,g1,g2,g3,g4⟩:=h;have hn:n=false:=by rw [g4];simp
  subst hn;refine (jqd w false 0 _ d N g1 (by omega) (by rw [g3.val];simp) h1 h9).mono ?_;rintro e w' ⟨hb,rfl⟩;exact ⟨hb,VF.eq (by rw [hv])⟩
theorem jqj {N:Nat} (h:QB w 0 k n A len cap (N:Int)) (hk:k≤40000) (h1:10≤N) (h9:N≤99) {v:Value} (hv:txtL [48+((N / 10%10:Nat):Int),48+((N%10:Nat):Int)]=v):Calls Tryz.prog 58 #[.agg #[.bool n,.slice A len cap]] w fun e w'=>Below w.heap.size w w'∧VF (Fact.eq v) e w':=by
  obtain ⟨d,g1,g2,g3,g4⟩:=h;have hn:n=false:=by rw [g4];simp
  subst hn;refine (jv9 w 0 _ d N g1 (by omega) (by rw [g3.val];simp) h1 h9).mono ?_;rintro e w' ⟨hb,rfl⟩;exact ⟨hb,VF.eq (by rw [hv])⟩
theorem jl5 {N:Nat} (h:QB w 0 k n A len cap (N:Int)) (hk:k≤40000) (h1:100≤N) (h9:N≤999) {v:Value} (hv:txtL [48+((N / 100%10:Nat):Int),48+((N / 10%10:Nat):Int),48+((N%10:Nat):Int)]=v):Calls Tryz.prog 58 #[.agg #[.bool n,.slice A len cap]] w fun e w'=>Below w.heap.size w w'∧VF (Fact.eq v) e w':=by
  obtain ⟨d,g1,g2,g3,g4⟩:=h;have hn:n=false:=by rw [g4];simp
  subst hn;refine (jqh w 0 _ d N g1 (by omega) (by rw [g3.val];simp) h1 h9).mono ?_;rintro e w' ⟨hb,rfl⟩;exact ⟨hb,VF.eq (by rw [hv])⟩
end
end
end
end
section
section
open Go.RowKit Go.Shelf
namespace V
def txtN (z:Nat):List Nat:=if z=0 then [48] else if z≤9 then [48+z] else if z≤99 then [48+z / 10%10,48+z%10] else [48+z / 100%10,48+z / 10%10,48+z%10]
theorem jwa {w:World} {k:Nat} {n:Bool} {A:Option Addr} {len cap:Nat} {N:Nat} (h:QB w 0 k n A len cap (N:Int)) (hk:k≤40000) (h9:N≤999) :
    Calls Tryz.prog 58 #[.agg #[.bool n,.slice A len cap]] w fun e w'=>Below w.heap.size w w'∧VF (Fact.eq (Kc.str (txtN N)).val) e w':=by
  have u:∀m:Nat,(48+(m:Int)).toNat=48+m:=fun m=>by omega
  unfold txtN
  split
  · rename_i e
    subst e;exact jnl h hk
  · split
    · refine jqi h hk (by omega) (by omega) ?_
      unfold txt;simp only [Bool.false_eq_true,if_false,List.foldl_cons,List.foldl_nil,u]
      rfl
    · split
      · refine jqj h hk (by omega) (by omega) ?_
        unfold txtL;simp only [List.foldl_cons,List.foldl_nil,u]
        rfl
      · refine jl5 h hk (by omega) h9 ?_
        unfold txtL;simp only [List.foldl_cons,List.foldl_nil,u]
        rfl
def oneI (i:Iv):Option Nat:=match i with
  | (some (.ofNat a),some (.ofNat b))=>if Nat.beq a b && Nat.ble a 999 then some a else none
  | _=>none
def cText (g:Nat→List Int→Int):Ctr Tryz.prog (stdF g) where
  f:=58
  ent:=jae (by kernel_rfl)
  inst:=fun fs _ ar=>match ar with
    | [a]=>match isZ a with
      | some (k,true,t)=>match oneI (iv fs t) with
        | some z=>if Nat.ble k 29000 then some ([],.one (.sc (.cst (.str (txtN z)))),[]) else none
        | none=>none
      | _=>none
    | _=>none
  ok:=by
    intro ρ β w fs bx ar vs pre res post hf _ ha hi _
    split at hi
    · split at hi
      · rename_i a _ k t ea
        split at hi
        · rename_i z ez
          split at hi
          · rename_i hk
            cases hi
            obtain ⟨v,rfl,hv⟩:=args1 ha;obtain ⟨n,A,l,c',rfl,-,hq⟩:=jcl ea hv
            have hz:t.den (stdF g) ρ=(z:Int)∧z≤999:=by
              unfold oneI at ez
              split at ez
              · rename_i p q ei
                split at ez
                · rename_i hab
                  cases ez
                  rw [Bool.and_eq_true] at hab;have h1:=Nat.eq_of_beq_eq_true hab.1;have h2:=jdq hf t;rw [ei] at h2;have h3:=h2.1 _ rfl;have h4:=h2.2 _ rfl;have h5:(Int.ofNat z)=(z:Int):=rfl;have h6:(Int.ofNat q)=(q:Int):=rfl;exact ⟨by omega,Nat.le_of_ble_eq_true hab.2⟩
                · cases ez
              · cases ez
            have hq':=hq rfl;rw [hz.1] at hq';refine ⟨trivial,(jwa hq' (Nat.le_trans (Nat.le_of_ble_eq_true hk) (by omega)) hz.2).mono fun e w' ⟨h1,u,h2,h3⟩=>⟨h1,u,h2,?_⟩⟩
            show [u]=[_]
            rw [Fact.eq_of h3]
          · cases hi
        · cases hi
      · cases hi
    · cases hi
end V
end
end
end Go.Proofs.YtcjklbakhlehhaaGreat