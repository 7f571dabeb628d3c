/- zed.Text of a number of one digit: nat.DivMod where nothing is to be divided, slices.Reverse of one or two bytes. bits: Parts, Normal, Binade, First. bits: Value. bits: Of. -/
import Derived.Test.YtcjklbakhlehhaaGreatDyadB
import Derived.StillTailTactics
import Derived.RegionTactic
import Derived.BigRegion
import Derived.Laws.BytesString
import Derived.Laws.Cells
set_option linter.unusedVariables false
namespace Go.Proofs.YtcjklbakhlehhaaGreat
section
section
open Go.RowKit
open L (val dig nth)
theorem jcz (w:World) (B C:Nat) (va vb:Value) (la lb:List Nat) (ha:Nums w B va la) (hb:Nums w C vb lb) (hlt:val W la<val W lb) (hla:la.length≤50000) :
    Calls Tryz.prog 75 #[va,vb] w fun e w'=>Below w.heap.size w w'∧∃u d,e=.returned (.tuple #[.slice none 0 0,u,.bool true])∧Nums w' w.heap.size u d∧Canon d (val W la):=by
  have hl0:=ha.lt;have hcmp:=jj1 hlt;have HCMP:=hide hcmp;have HLT:=hide hlt;clear hcmp
  go_enter Tryz.func75,Tryz.ntmps75
  go_wp2_with fail
  refine (jaj _ B _ la ha).mono ?_;rintro e w1 ⟨rfl,u1,da,rfl,hu1,hda⟩;obtain ⟨A1,cap1,rfl⟩:=hu1.form
  go_wp2_with fail
  refine (jaj _ C _ lb hb).mono ?_;rintro e w1 ⟨rfl,u2,db,rfl,hu2,hdb⟩;obtain ⟨A2,cap2,rfl⟩:=hu2.form
  have hdbl:((db.length:Int) == 0)=false:=by
    rw [beq_eq_false_iff_ne];intro h;have:=hdb.nil_iff.1 (List.eq_nil_of_length_eq_zero (by omega))
    omega
  clear hlt
  go_wp2_with fail
  refine (jcu _ B C _ _ da db hu1 hu2).mono ?_;rintro e w1 ⟨hdr,rfl⟩;rw [hda.val,hdb.val,HCMP.out];have hB1:=hdr.below w.heap.size;have s1:=hB1.size;have hu3:=hu1.below hB1;have hdal:da.length≤60000:=Nat.le_trans (jbe hda hl0) (by omega)
  go_wp2_with fail
  refine (je8 _ B _ da hu3 hdal).mono ?_;rintro e w2 ⟨hb2,u,rfl,hu⟩;obtain ⟨A3,cap3,rfl⟩:=hu.form;have hu4:=(hu.nums hu1.lt).mono s1
  go_wp2_with fail
  go_ret3
  exact ⟨hB1.trans (hb2.mono s1),_,da,rfl,hu4,hda⟩
def toB (x:Nat):Value:=.int .u8 (x:Int)
theorem infoB:(Tryz.prog.info? 5).map (fun i=>(i.zero,i.size,i.bytes))=some (some (.int .u8 0),1,1):=by kernel_rfl
def OwnB (w:World) (base:Nat) (v:Value) (l:List Nat):Prop:=w.ownsRow base 5 1 v l.length (l.map toB)
theorem jm5 (w:World) (base:Nat) (v:Value) (lx:List Nat) (hown:OwnB w base v lx) (g:Nat) (z:Int) (x:Nat) (hz:z=x) (hcell:w.cell? ⟨g,0,none⟩=some (.int .u8 z))
    (hn:lx.length≤1000) (hbase:base≤w.heap.size) (ty:TypeId) :
    ∃v' w',(Builtin.append_ #[104,104] ty #[v,.slice (some ⟨g,0,none⟩) 1 1]).run Tryz.prog w=.ok v' w'∧OwnB w' base v' (lx ++ [x])∧w.grownBy w' v.ownBlock:=by
  obtain ⟨i0,hi,hz0,hz1,hz2⟩:=info_parts infoB;subst hz
  obtain ⟨v',w',h1,h2,h3,_⟩:=run_append_own (P:=Tryz.prog) w base 104 ty 5 i0 _ 1 1 Tryz.underlying104 hi hz0 hz1 hz2 rfl (by omega) v lx.length (lx.map toB) hown ⟨g,0,none⟩ 1 1 [toB x] (by simp)
      (by
        intro j u hu
        have hj:j=0:=by
          rcases Nat.lt_or_ge j 1 with hj | hj
          · omega
          · rw [List.getElem?_eq_none (by simpa using hj)] at hu;cases hu
        subst hj;have hadd:(⟨g,0,none⟩:Addr).add 0=⟨g,0,none⟩:=by unfold Addr.add;split <;> simp_all
        rw [hadd,hcell]
        simpa [toB] using hu)
      (by intro u hu;rw [List.mem_singleton] at hu;subst hu;rfl) (by simp only [maxLen];omega) (by omega) hbase
  refine ⟨v',w',h1,?_,h3⟩;unfold OwnB;rw [List.length_append,List.map_append];exact h2
theorem jch {ops:Array Oper} {rest:List Oper} {o:Oper} {a:Act} {Q:Exit→Act→World→Prop} (w:World) (hgd:o.guard=none) (s x:Operand)
    (ho:o.op=.call { callee:=.builtin .append,args:=#[s,x],argTypes:=#[104,104] })
    (base:Nat) (v:Value) (lx:List Nat) (hs:a.eval s=v) (hown:OwnB w base v lx) (g:Nat) (z:Int) (n:Nat) (hx:a.eval x=.slice (some ⟨g,0,none⟩) 1 1) (hz:z=n) (hcell:w.cell? ⟨g,0,none⟩=some (.int .u8 z))
    (hn:lx.length≤1000) (hbase:base≤w.heap.size)
    (hk:∀v' w',OwnB w' base v' (lx ++ [n])→w.grownBy w' v.ownBlock→wpList Tryz.prog ops Q rest (a.put o.dst v') w'):wpList Tryz.prog ops Q (o::rest) a w:=
  wpList_plain hgd fun _ hK=>by
    obtain ⟨v',w',hrun,h2,h3⟩:=jm5 w base v lx hown g z n hz hcell hn hbase o.type;unfold Oper.wp execOp;simp only [ho,resolve,invoke,builtin,Sem.run_bind,Sem.run_pure,Result.andThen_ok,List.map_toArray,List.map_cons,List.map_nil,hs,hx,hrun];exact hK _ _ (hk v' w' h2 h3)
theorem OwnB.form {w:World} {base:Nat} {v:Value} {l:List Nat} (h:OwnB w base v l) (hl:0<l.length):∃g cap,v=.slice (some ⟨g,0,none⟩) l.length cap∧base≤g∧g<w.heap.size∧
    (∀i,i<l.length→w.cell? ⟨g,i,none⟩=some (toB (nth l i)))∧(∀i,w.frozen? ⟨g,i,none⟩=false):=by
  have h':=h
  rcases h.2 with ⟨rfl,h0⟩ | ⟨g,cap,cur,rfl,r⟩
  · omega
  · have hg:=World.ownsRow.lt h' g rfl
    refine ⟨g,cap,rfl,hg.1,hg.2,fun i hi=>?_,fun i=>World.ownsRow.frozenAt h' i⟩;rw [World.ownsRow.cellAt h' i (by omega),List.getElem?_map,List.getElem?_eq_getElem hi,L.nth_def,List.getD_eq_getElem?_getD,List.getElem?_eq_getElem hi];rfl
theorem OwnB.nil (w:World) (base:Nat):OwnB w base (.slice none 0 0) []:=World.ownsRow_nil w base _ 1
theorem OwnB.alloc {w:World} {base:Nat} {v:Value} {l:List Nat} (h:OwnB w base v l) (o:Obj):OwnB (w.alloc o) base v l:=World.ownsRow.alloc h o
theorem OwnB.own_ge {w:World} {base:Nat} {v:Value} {l:List Nat} (h:OwnB w base v l):∀k,v.ownBlock=some k→base≤k:=fun k hk=>(World.ownsRow.lt h k hk).1
theorem jm6 (w:World) (g cap:Nat) :
    Calls Tryz.prog 76 #[.slice (some ⟨g,0,none⟩) 1 cap] w fun e w'=>w=w'∧e=.returned (.tuple #[]):=by
  go_enter Tryz.func76,Tryz.ntmps76
  go_wp2_with fail
  go_loopw [2,3] (fun i j wr=>i=.int .i64 0∧j=.int .i64 0∧w=wr) (fun i j _=>0)
  case atStart=>exact ⟨rfl,rfl,rfl⟩
  case round=>
    obtain ⟨rfl,rfl,rfl⟩:=hrel
    go_wp2_with fail
    go_end0
    exact ⟨rfl,rfl⟩
set_option maxRecDepth 100000 in
theorem jhx (w:World) (g cap:Nat) (a b:Int) (h0:w.cell? ⟨g,0,none⟩=some (.int .u8 a)) (h1:w.cell? ⟨g,1,none⟩=some (.int .u8 b)) (f0:w.frozen? ⟨g,0,none⟩=false) (f1:w.frozen? ⟨g,1,none⟩=false) :
    Calls Tryz.prog 76 #[.slice (some ⟨g,0,none⟩) 2 cap] w fun e w'=>e=.returned (.tuple #[])∧(w'=((w.setCell ⟨g,0,none⟩ (.int .u8 b)).setCell ⟨g,1,none⟩ (.int .u8 a)).drew):=by
  go_enter Tryz.func76,Tryz.ntmps76
  go_wp2_with fail
  go_loopw [2,3] (fun i j wr=>(i=.int .i64 0∧j=.int .i64 1∧wr=w)∨(i=.int .i64 1∧j=.int .i64 0∧wr=((w.setCell ⟨g,0,none⟩ (.int .u8 b)).setCell ⟨g,1,none⟩ (.int .u8 a)).drew)) (fun i j _=>(intOf j).toNat)
  case atStart=>exact .inl ⟨rfl,rfl,rfl⟩
  case round=>
    rcases hrel with ⟨rfl,rfl,rfl⟩ | ⟨rfl,rfl,rfl⟩
    · go_wp2_with fail
      go_big_region
      go_wp2_with fail
      go_roundw
      case rel=>exact .inr ⟨rfl,rfl,trivial⟩
      case measure=>simp [intOf]
    · go_wp2_with fail
      go_end0
      exact ⟨rfl,rfl⟩
theorem jcv {d:List Nat} {N:Nat} (h:Canon d N) (h0:N≠0) (hN:N<W):d=[N]:=by
  have e:val W [N]=N:=by simp [L.val]
  have h1:d=dig W (val W [N]):=by rw [e];exact h
  rw [h1];refine L.dig_val W_gt [N] (by simpa using hN) ?_;intro x hx hx0;simp at hx
  omega
def txt (n:Bool) (N:Nat):Value:=.string ((if n then [45,48+(N:Int)] else [48+(N:Int)]).foldl (fun r n=>r.push (UInt8.ofNat n.toNat)) ByteArray.empty)
theorem jer (w:World) (g len cap:Nat) (ns:List Int) (hl:ns.length=len) (h:∀i z,ns[i]? = some z→w.cell? ⟨g,i,none⟩=some (.int .u8 z)) :
    (convert 104 9 (.slice (some ⟨g,0,none⟩) len cap)).run Tryz.prog w=.ok (.string (ns.foldl (fun r n=>r.push (UInt8.ofNat n.toNat)) ByteArray.empty)) w:=by
  rw [run_convert_bytes_string w _ _ 5 _ _ _ Tryz.underlying104 (by kernel_rfl) (by kernel_rfl)];refine run_bytesToString w _ _ _ ns ?_;subst hl
  have:=run_loadCells_list (P:=Tryz.prog) (w:=w) ⟨g,0,none⟩ (ns.map (Value.int .u8)) (by
    intro j v hv;rw [List.getElem?_map] at hv
    cases hj:ns[j]? with
    | none=>rw [hj] at hv;cases hv
    | some z=>
      rw [hj] at hv;injection hv with hv
      subst hv;have hadd:(⟨g,0,none⟩:Addr).add j=⟨g,j,none⟩:=by unfold Addr.add;split <;> simp_all
      rw [hadd];exact h j z hj)
  simpa using this
set_option maxRecDepth 100000 in
theorem jqd (w:World) (n:Bool) (B:Nat) (v:Value) (l:List Nat) (N:Nat) (h:Nums w B v l) (hl:l.length≤50000) (hN:val W l=N) (h1:1≤N) (h9:N≤9) :
    Calls Tryz.prog 58 #[.agg #[.bool n,v]] w fun e w'=>Below w.heap.size w w'∧e=.returned (txt n N):=by
  have h0:=h;obtain ⟨A,cap,rfl,-,-,-,hc⟩:=h;obtain ⟨W0,hW,hbx,hB0,hs⟩:=start1 w 24 #[.bool n,.slice A l.length cap];have hu0:=h0.up hB0;have HN:=hide hN;clear hc hN;obtain ⟨c0,c1,-,-⟩:=hbx.two
  go_enter Tryz.func58,Tryz.ntmps58
  go_upto_region 1 with (fail)
  rw [←hW];clear hW;have HP:=jbt W0 B _ l hu0 (by omega);rw [HN.out] at HP
  go_wp2_with fail
  refine HP.mono ?_;rintro e w1 ⟨hb1,u1,d,rfl,hu1,hd⟩;have hd1:=jcv hd (by omega) (by unfold W;omega);subst hd1;obtain ⟨A1,cap1,rfl⟩:=hu1.form;have hbx1:=hbx.below hb1 (by omega);clear HP;have s1:=hb1.size;have HB1:=hide (hB0.trans (hb1.mono (by omega)))
  go_wp2_with fail
  go_loopw [3,4] (fun m q wr=>(m=.slice A1 1 cap1∧q=.slice none 0 0∧wr=w1)∨(m=.slice none 0 0∧OwnB wr w.heap.size q [48+N]∧Below w.heap.size w wr∧Blk wr w.heap.size 24 #[.bool n,.slice A l.length cap])) (fun m _ _=>lenOf m)
  case atStart=>exact .inl ⟨rfl,rfl,rfl⟩
  case round=>
    rcases hrel with ⟨rfl,rfl,rfl⟩ | ⟨rfl,hq,hB2,hbx2⟩
    · have hone:=Nums.one wr 1000000000000000000 1000000000000000000 rfl (by unfold W;omega)
      have hlt:val W [N]<val W [1000000000000000000]:=by simp [L.val];omega
      go_wp2_with fail
      refine (jcz _ 0 0 _ _ [N] [1000000000000000000] ((hu1.mono (Nat.zero_le _)).alloc _) hone hlt (by simp)).mono ?_;rintro e w3 ⟨hb3,u3,d3,rfl,hu3,hd3⟩;have hd4:=jcv (d:=d3) (N:=N) (by rw [show val W [N]=N from by simp [L.val]] at hd3;exact hd3) (by omega) (by unfold W;omega);subst hd4;have hbx3:=(hbx1.alloc (.cells #[.int .u64 1000000000000000000] 63)).below hb3 (by simp;omega);have HB3:=hide ((HB1.out.alloc (by omega) (.cells #[.int .u64 1000000000000000000] 63)).trans (hb3.mono (by simp;omega)));obtain ⟨A3,cap3,rfl,-,-,-,hc3⟩:=hu3;obtain ⟨b3,o3,rfl,-,-,hcell⟩:=hc3 (by simp);have hce:=hcell 0 (by simp);simp only [Nat.add_zero] at hce;have hce':w3.cell? ⟨b3,o3,none⟩=some (.int .u64 (N:Int)):=by rw [hce];simp [L.nth]
      have hNp:(0:Int)<(N:Int):=by omega
      have hm1:(N:Int)%10=N:=by omega
      have hm2:(N:Int) / 10=0:=by omega
      have hw8:IntKind.u8.wrap (48+(N:Int))=48+N:=by rw [IntKind.wrap_u8];omega
      clear hcell hc3 hce hlt hone
      go_wp2_with fail
      go_loopw [4,8,9] (fun q x i wr'=>(q=.slice none 0 0∧x=.int .u64 N∧i=.int .i64 0∧wr'=w3)∨(x=.int .u64 0∧i=.int .i64 1∧OwnB wr' w.heap.size q [48+N]∧Below w.heap.size w wr'∧Blk wr' w.heap.size 24 #[.bool n,.slice A l.length cap])) (fun _ _ i _=>(2 - intOf i).toNat)
      case atStart=>exact .inl ⟨rfl,rfl,rfl,rfl⟩
      case round=>
        rcases hrel with ⟨rfl,rfl,rfl,rfl⟩ | ⟨rfl,rfl,hq,hBq,hbq⟩
        · have hcw:(wr.alloc (.cells #[.int .u8 (48+(N:Int))] 5)).cell? ⟨wr.heap.size,0,none⟩=some (.int .u8 (48+(N:Int))):=((Blk.new wr 5 #[.int .u8 (48+(N:Int))]).cell 0).trans rfl
          have HCW:=hide hcw;have s3:=HB3.out.size;clear hcw
          go_wp2_with (at_builtin;refine jch _ rfl _ _ rfl w.heap.size _ [] rfl (OwnB.nil _ _) wr.heap.size _ (48+N) rfl (by omega) HCW.out (by simp) (by simp;omega) ?_;intro v1 w4 hown1 hgrow1)
          have hB4':Below wr.heap.size wr w4:=((Below.refl _ wr).alloc (Nat.le_refl _) _).grown hgrow1 (by simp) (fun k hk=>by cases hk);have hB4:=hB4'.mono s3
          go_roundw
          case rel=>exact .inr ⟨rfl,rfl,hown1,HB3.out.trans hB4,hbx3.below hB4' hbx3.lt⟩
          case measure=>simp [intOf]
        · go_wp2_with fail
          go_roundw
          case rel=>exact .inr ⟨rfl,hq,hBq,hbq⟩
          case measure=>simp [lenOf]
    · obtain ⟨f0,f1,-,-⟩:=hbx2.two
      have s2:=hB2.size
      cases n with
      | false=>
        obtain ⟨g,capq,rfl,hg1,hg2,hcq,-⟩:=hq.form (by simp);have hce:=hcq 0 (by simp);simp only [L.nth,toB,List.getD_cons_zero] at hce
        go_wp2_with fail
        refine (jm6 _ g capq).mono ?_;rintro e w3 ⟨rfl,rfl⟩
        have hcv:=jer wr g 1 capq [48+(N:Int)] rfl (by
          intro i z hz
          cases i with
          | zero=>simp at hz;subst hz;simpa using hce
          | succ i=>simp at hz)
        have HT:Hid (txt false N=.string ([48+(N:Int)].foldl (fun r n=>r.push (UInt8.ofNat n.toNat)) ByteArray.empty)):=hide rfl;rw [←HT.out] at hcv
        go_wp2_with fail
        go_ret
        exact ⟨hB2,rfl⟩
      | true=>
        have hcw:(wr.alloc (.cells #[.int .u8 45] 5)).cell? ⟨wr.heap.size,0,none⟩=some (.int .u8 45):=((Blk.new wr 5 #[.int .u8 45]).cell 0).trans rfl;have HCW:=hide hcw;have HQ:=hide (hq.alloc (.cells #[.int .u8 45] 5));clear hcw
        go_wp2_with (at_builtin;refine jch _ rfl _ _ rfl w.heap.size _ [48+N] rfl HQ.out wr.heap.size _ 45 rfl rfl HCW.out (by simp) (by simp;omega) ?_;intro v1 w4 hown1 hgrow1)
        obtain ⟨g,capq,rfl,hg1,hg2,hcq,hfq⟩:=hown1.form (by simp);have k0:w4.cell? ⟨g,0,none⟩=some (.int .u8 (48+(N:Int))):=by rw [hcq 0 (by simp)];simp [L.nth,toB]
        have k1:w4.cell? ⟨g,1,none⟩=some (.int .u8 45):=by rw [hcq 1 (by simp)];simp [L.nth,toB]
        refine (jhx _ g capq _ _ k0 k1 (hfq 0) (hfq 1)).mono ?_;rintro e w5 ⟨rfl,hw5⟩;have hst:=(World.ownsRow.stored (World.ownsRow.stored hown1 0 (.int .u8 45)).1 1 (.int .u8 (48+(N:Int)))).1
        have q0:w5.cell? ⟨g,0,none⟩=some (.int .u8 45):=by
          rw [hw5];exact (World.ownsRow.cellAt hst 0 (by simp)).trans (by simp)
        have q1:w5.cell? ⟨g,1,none⟩=some (.int .u8 (48+(N:Int))):=by
          rw [hw5];exact (World.ownsRow.cellAt hst 1 (by simp)).trans (by simp)
        clear hst;have hB4:Below w.heap.size wr w4:=((Below.refl _ wr).alloc (by omega) _).grown hgrow1 (by simp;omega) (fun k hk=>HQ.out.own_ge k hk)
        have hB5:Below w.heap.size wr w5:=by
          rw [hw5];exact ((hB4.setCell (p:=⟨g,0,none⟩) hg1 _).setCell (p:=⟨g,1,none⟩) hg1 _).drew
        clear hw5
        have hcv:=jer w5 g 2 capq [45,48+(N:Int)] rfl (by
          intro i z hz
          cases i with
          | zero=>simp at hz;subst hz;simpa using q0
          | succ i=>
            cases i with
            | zero=>simp at hz;subst hz;simpa using q1
            | succ i=>simp at hz)
        have HT:Hid (txt true N=.string ([45,48+(N:Int)].foldl (fun r n=>r.push (UInt8.ofNat n.toNat)) ByteArray.empty)):=hide rfl;rw [←HT.out] at hcv
        go_wp2_with fail
        go_ret
        exact ⟨hB2.trans hB5,rfl⟩
end
end
section
section
open Go.RowKit
open L (val dig nth)
def pNeg (b:Nat):Bool:=decide (9223372036854775808≤b)
def pFld (b:Nat):Nat:=b / 4503599627370496%2048
def pFrc (b:Nat):Nat:=b%4503599627370496
theorem jsu (b:Nat):pFld b<2048:=Nat.mod_lt _ (by omega)
def pNorm (b:Nat):Bool:=decide (pFld b≠0∧pFld b≠2047)
def bnE (b:Nat):Int:=if pNorm b then (pFld b:Int) - 1023 else 0
end
end
section
section
open Go.RowKit
open L (val dig nth)
def rM (b:Nat):Int:=ival (pNeg b) (if pFld b=0 then pFrc b else pFrc b+4503599627370496)
def rE (b:Nat):Int:=if pFld b=0 then -1074 else (pFld b:Int) - 1075
def vM (b:Nat):Int:=if pFld b=2047 then 0 else nM (rM b) (rE b)
def vE (b:Nat):Int:=if pFld b=2047 then 0 else nE (rM b) (rE b)
def vX (b:Nat):Int:=if pFld b=2047 then 1 else 0
end
end
section
section
open Go.RowKit
open L (val dig nth)
def ofLow (m:Int):Int:=max (m - 52) (-1074)
def ofBad (z x m:Int):Prop:=1023<m∨x<ofLow m∨1<(dig W z.natAbs).length
instance (z x m:Int):Decidable (ofBad z x m):=by unfold ofBad;infer_instance
def T63:Nat:=9223372036854775808
theorem j2n:T63=9223372036854775808:=rfl
def ofPat (z x m:Int):Nat:=z.natAbs*2^(x - ofLow m).toNat+(if -1022≤m then (m+1022).toNat*4503599627370496 else 0)+(if z<0 then T63 else 0)
def oB1 (z x:Int):Nat:=if lgOk z x=false then 0 else if ofBad z x (lgN z x) then 0 else ofPat z x (lgN z x)
def oX1 (z x:Int):Int:=if lgOk z x=false then 0 else if ofBad z x (lgN z x) then 1 else 0
theorem jqe {z:Int} {k:Nat} (hz:z.natAbs<W^k):(pM z).natAbs<W^k:=Nat.lt_of_le_of_lt (Int.natAbs_ediv_le_natAbs _ _) hz
theorem jzu {z x:Int} {k:Nat} (hz:z.natAbs<W^k):(nM z x).natAbs<W^k:=jqe (Nat.lt_of_le_of_lt (jii z x) hz)
end
end
end Go.Proofs.YtcjklbakhlehhaaGreat