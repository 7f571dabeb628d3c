/- nat.takes and nat.gives: so many times a divisor taken away from a row of limbs, and given back, in place. -/
import Derived.Test.YtllgjggkchgpbaaGreatNats
import Derived.Test.YtllgjggkchgpbaaGreatZeds
import Derived.Test.YtllgjggkchgpbaaGreatKnuthL
set_option linter.unusedVariables false
set_option linter.unusedSimpArgs false
namespace Go.Proofs.YtllgjggkchgpbaaGreat
open Go.RowKit
open L (val dig nth seg Seg)
def Only (g:Nat) (w w':World):Prop:=Below g w w'∧∀b,b≠g→b<w.heap.size→w'.heap[b]? = w.heap[b]?
section
variable {g:Nat} {w w' w2:World}
theorem Only.refl (g:Nat) (w:World):Only g w w:=⟨Below.refl _ _,fun _ _ _=>rfl⟩
theorem Only.trans (h:Only g w w') (k:Only g w' w2):Only g w w2:=⟨h.1.trans k.1,fun b hb hl=>(k.2 b hb (by have:=h.1.size;omega)).trans (h.2 b hb hl)⟩
theorem Only.set_ (h:Only g w w') (i:Nat) (u:Value):Only g w (w'.setCell ⟨g,i,none⟩ u):=⟨h.1.setCell (Nat.le_refl _) u,fun b hb hl=>(Below.heap_setCell w' ⟨g,i,none⟩ u b hb).trans (h.2 b hb hl)⟩
theorem Only.drew (h:Only g w w'):Only g w w'.drew:=⟨h.1.drew,h.2⟩
theorem Only.cell (h:Only g w w') {b o:Nat} (hb:b≠g) (hl:b<w.heap.size):w'.cell? ⟨b,o,none⟩=w.cell? ⟨b,o,none⟩:=World.cell?_of_block (w:=w) (h.2 b hb hl)
end
theorem Nums.at_ {w:World} {B gv ov len cap:Nat} {l:List Nat} (h:Nums w B (.slice (some ⟨gv,ov,none⟩) len cap) l) (hl:0<l.length):gv<w.heap.size∧∀i,i<l.length→w.cell? ⟨gv,ov+i,none⟩=some (.int .u64 (nth l i:Nat)):=by
  obtain ⟨A,c,h1,-,-,-,h5⟩:=h;obtain ⟨b,off,a1,-,a3,a4⟩:=h5 hl;injection h1 with e1 _ _
  rw [←e1] at a1
  cases a1
  exact ⟨a3,a4⟩
theorem jhh (x t c r u:Nat) (hx:x<W) (ht:t<W) (hc:c<W) (hr:r≤1) (hu:u<W):∃h l l1 c1 s d,x*t=l+18446744073709551616*h∧l<18446744073709551616∧l+c+0=l1+18446744073709551616*c1∧
    l1<18446744073709551616∧h+c1<18446744073709551616∧u+18446744073709551616*d=s+l1+r∧s<18446744073709551616∧d≤1∧x*t+c=l1+W*(h+c1)∧u+W*d=s+l1+r:=by
  unfold W at *;have h1:x*t≤18446744073709551615*18446744073709551615:=Nat.mul_le_mul (by omega) (by omega);have e:=Nat.div_add_mod (x*t) 18446744073709551616;have hl:=Nat.mod_lt (x*t) (show 0<18446744073709551616 from by omega)
  generalize x*t=y at *
  generalize y / 18446744073709551616=h at *
  generalize y%18446744073709551616=l at *
  have e2:=Nat.div_add_mod (l+c) 18446744073709551616;have hl2:=Nat.mod_lt (l+c) (show 0<18446744073709551616 from by omega)
  generalize (l+c) / 18446744073709551616=c1 at *
  generalize (l+c)%18446744073709551616=l1 at *
  by_cases hb:u<l1+r
  · exact ⟨h,l,l1,c1,u+18446744073709551616 - l1 - r,1,by omega,hl,by omega,hl2,by omega,by omega,by omega,by omega,by omega,by omega⟩
  · exact ⟨h,l,l1,c1,u - l1 - r,0,by omega,hl,by omega,hl2,by omega,by omega,by omega,by omega,by omega,by omega⟩
set_option maxHeartbeats 1000000 in
set_option maxRecDepth 100000 in
theorem jmt (w:World) (g j cv gv ov t:Nat) (P q:List Nat) (hO:Out w g P) (hP:∀x∈P,x<W) (hj:j+q.length+1≤P.length) (hP6:P.length≤100000)
    (hq:Nums w 0 (.slice (some ⟨gv,ov,none⟩) q.length cv) q) (hgv:gv≠g) (ht:t<W) :
    Calls Tryz.prog 229 #[.slice (some ⟨g,j,none⟩) (q.length+1) (q.length+1),.slice (some ⟨gv,ov,none⟩) q.length cv,.int .u64 t] w fun e w'=>
      Only g w w'∧∃P' d,Out w' g P'∧Seg P P' j (q.length+1)∧(∀x∈P',x<W)∧d≤1∧e=.returned (.bool (decide (d≠0)))∧
        seg W P' j (q.length+1)+t*val W q=seg W P j (q.length+1)+W^(q.length+1)*d:=by
  have hq0:=hq.lt;have hqa:=fun h=>hq.at_ h
  clear hq
  go_enter Tryz.func229,Tryz.ntmps229
  go_wp2_with fail
  go_loopw [7,8,16] (fun r c i wr=>∃(k cN rN:Nat) (P':List Nat),k≤q.length∧i=.int .i64 k∧c=.int .u64 cN∧r=.int .u64 rN∧cN<18446744073709551616∧rN≤1∧Out wr g P'∧Hid (Seg P P' j k)∧Hid (∀x∈P',x<W)∧
      Hid (val W ((P'.drop j).take k)+t*val W (q.take k)=val W ((P.drop j).take k)+W^k*(cN+rN))∧Hid (Only g w wr)) (fun _ _ i _=>q.length - (intOf i).toNat)
  case atStart=>exact ⟨0,0,0,P,Nat.zero_le _,rfl,rfl,rfl,by omega,by omega,hO,hide (L.Seg.refl _ _ _),hide hP,hide (by simp [L.val]),hide (Only.refl _ _)⟩
  case round=>
    obtain ⟨k,cN,rN,P',hk,rfl,rfl,rfl,hc,hr,hO',HS,HP,HI,HW⟩:=hrel
    by_cases hlt:k<q.length
    · have hlen:P'.length=P.length:=HS.out.1
      have hol:j+k<P'.length:=by omega
      obtain ⟨hgl,hcell⟩:=hqa (by omega);have h1:wr.cell? ⟨gv,ov+k,none⟩=_:=(HW.out.cell hgv hgl).trans (hcell k hlt);have h3:=hO'.cell hol;rw [HS.out.nth (Nat.le_refl _)] at h3;have h4:=hO'.frozen (j+k);have qx:=jbo hq0 k;have ux:=jbo hP (j+k);obtain ⟨h,l,l1,c1,s,d,e1,e2,e3,e4,e5,e6,e7,e8,e9,e10⟩:=jhh (nth q k) t cN rN (nth P (j+k)) qx ht hc hr ux;have HST:=hide (L.takes_step W t (P.drop j) q (P'.drop j) k cN rN s d (h+c1) l1 (by rw [List.length_drop];omega) HI.out e9 (by rw [L.nth_drop];exact e10));have hadd:∀w,(callFunc 165 #[.int .u64 (l:Nat),.int .u64 (cN:Nat),.int .u64 0]).run Tryz.prog w=_:=jd4 l cN 0 l1 c1 (by omega) e3 e4;have hsub:=jhe (nth P (j+k)) l1 rN s d hr e6 ux e4 e7;have E1:=hide e1;have bi:(k:Int)<((q.length+1:Nat):Int):=by omega
      clear hcell hqa e9 e10 e3 e6 e1
      go_wp2_with fail
      refine (mul64_calls' (nth q k) t h l qx ht E1.out e2 _).mono ?_;rintro e w1 ⟨rfl,rfl⟩
      go_wp2_with fail
      go_roundw
      case rel=>
        refine ⟨k+1,h+c1,d,_,by omega,by go_num,by go_num,rfl,e5,e8,hO'.set (j+k) s,hide (HS.out.set s),hide (L.mem_set_lt P' HP.out (j+k) s e7),hide ?_,hide (HW.out.set_ _ _)⟩;rw [L.drop_set_at];exact HST.out
      case measure=>simp [intOf];omega
    · have hke:k=q.length:=by omega
      subst hke;have hlen:P'.length=P.length:=HS.out.1;have hol:j+q.length<P'.length:=by omega
      have h3:=hO'.cell hol;rw [HS.out.nth (Nat.le_refl _)] at h3;have h4:=hO'.frozen (j+q.length);have ux:=jbo hP (j+q.length)
      obtain ⟨s,d,e6,e7,e8⟩:∃s d,nth P (j+q.length)+18446744073709551616*d=s+cN+rN∧s<18446744073709551616∧d≤1:=by
        by_cases hb:nth P (j+q.length)<cN+rN
        · exact ⟨nth P (j+q.length)+18446744073709551616 - cN - rN,1,by omega,by omega,by omega⟩
        · exact ⟨nth P (j+q.length) - cN - rN,0,by omega,by omega,by omega⟩
      have hsub:=jhe (nth P (j+q.length)) cN rN s d hr e6 ux hc e7
      have HST:Hid (seg W (P'.set (j+q.length) s) j (q.length+1)+t*val W q=seg W P j (q.length+1)+W^(q.length+1)*d):=hide (by
        have h1:=HI.out;rw [L.val_take_ge W q _ (Nat.le_refl _)] at h1;unfold L.seg;rw [L.drop_set_at,L.val_set_take W _ _ _ (by rw [List.length_drop];omega),L.val_take_step W (P.drop j),L.nth_drop,Nat.pow_succ];have h2:W^q.length*(nth P (j+q.length)+W*d)=W^q.length*(s+cN+rN):=by rw [show W*d=18446744073709551616*d from rfl,e6]
        generalize W^q.length=X at *
        simp only [Nat.mul_add] at *;rw [Nat.mul_assoc]
        omega)
      have bi:(q.length:Int)<((q.length+1:Nat):Int):=by omega
      have hd0:((d:Int) != 0)=decide (d≠0):=by
        by_cases h0:d=0
        · rw [h0];rfl
        · rw [decide_eq_true h0,bne_iff_ne];omega
      clear e6 hqa
      go_wp2_with fail
      go_ret
      refine ⟨HW.out.set_ _ _,_,d,hO'.set (j+q.length) s,HS.out.set s,L.mem_set_lt P' HP.out _ s e7,e8,?_,HST.out⟩;exact (show Ending.returned (Value.bool (!decide (d=0)))=_ from by simp)
set_option maxHeartbeats 1000000 in
set_option maxRecDepth 100000 in
theorem jhi (w:World) (g j cv gv ov:Nat) (P q:List Nat) (hO:Out w g P) (hP:∀x∈P,x<W) (hj:j+q.length+1≤P.length) (hP6:P.length≤100000)
    (hq:Nums w 0 (.slice (some ⟨gv,ov,none⟩) q.length cv) q) (hgv:gv≠g) :
    Calls Tryz.prog 230 #[.slice (some ⟨g,j,none⟩) (q.length+1) (q.length+1),.slice (some ⟨gv,ov,none⟩) q.length cv] w fun e w'=>
      Only g w w'∧∃P',Out w' g P'∧Seg P P' j (q.length+1)∧(∀x∈P',x<W)∧e=.returned (.tuple #[])∧
        seg W P' j (q.length+1)=(seg W P j (q.length+1)+val W q)%W^(q.length+1):=by
  have hq0:=hq.lt;have hqa:=fun h=>hq.at_ h
  clear hq
  go_enter Tryz.func230,Tryz.ntmps230
  go_wp2_with fail
  go_loopw [4,9] (fun c i wr=>∃(k cN:Nat) (P':List Nat),k≤q.length∧i=.int .i64 k∧c=.int .u64 cN∧cN≤1∧Out wr g P'∧Hid (Seg P P' j k)∧Hid (∀x∈P',x<W)∧
      Hid (val W ((P'.drop j).take k)+W^k*cN=val W ((P.drop j).take k)+val W (q.take k))∧Hid (Only g w wr)) (fun _ i _=>q.length - (intOf i).toNat)
  case atStart=>exact ⟨0,0,P,Nat.zero_le _,rfl,rfl,by omega,hO,hide (L.Seg.refl _ _ _),hide hP,hide (by simp [L.val]),hide (Only.refl _ _)⟩
  case round=>
    obtain ⟨k,cN,P',hk,rfl,rfl,hc,hO',HS,HP,HI,HW⟩:=hrel
    by_cases hlt:k<q.length
    · have hlen:P'.length=P.length:=HS.out.1
      have hol:j+k<P'.length:=by omega
      obtain ⟨hgl,hcell⟩:=hqa (by omega);have h1:wr.cell? ⟨gv,ov+k,none⟩=_:=(HW.out.cell hgv hgl).trans (hcell k hlt);have h3:=hO'.cell hol;rw [HS.out.nth (Nat.le_refl _)] at h3;have h4:=hO'.frozen (j+k);have qx:=jbo hq0 k;have ux:=jbo hP (j+k)
      obtain ⟨s,d,e6,e7,e8⟩:∃s d,nth P (j+k)+nth q k+cN=s+18446744073709551616*d∧s<18446744073709551616∧d≤1:=by
        by_cases hb:nth P (j+k)+nth q k+cN<18446744073709551616
        · exact ⟨_,0,by omega,hb,by omega⟩
        · exact ⟨nth P (j+k)+nth q k+cN - 18446744073709551616,1,by omega,by omega,by omega⟩
      have hadd:=jd4 (nth P (j+k)) (nth q k) cN s d hc e6 e7;have HST:=hide (L.add_step W (P.drop j) q (P'.drop j) k cN s d (by rw [List.length_drop];omega) HI.out (by rw [L.nth_drop];exact e6));have bi:(k:Int)<((q.length+1:Nat):Int):=by omega
      clear hcell hqa e6
      go_wp2_with fail
      go_roundw
      case rel=>
        refine ⟨k+1,d,_,by omega,by go_num,rfl,e8,hO'.set (j+k) s,hide (HS.out.set s),hide (L.mem_set_lt P' HP.out (j+k) s e7),hide ?_,hide (HW.out.set_ _ _)⟩;rw [L.drop_set_at];exact HST.out
      case measure=>simp [intOf];omega
    · have hke:k=q.length:=by omega
      subst hke;have hlen:P'.length=P.length:=HS.out.1;have hol:j+q.length<P'.length:=by omega
      have h3:=hO'.cell hol;rw [HS.out.nth (Nat.le_refl _)] at h3;have h4:=hO'.frozen (j+q.length);have ux:=jbo hP (j+q.length)
      obtain ⟨s,d,e6,e7⟩:∃s d,nth P (j+q.length)+cN=s+18446744073709551616*d∧s<18446744073709551616:=by
        by_cases hb:nth P (j+q.length)+cN<18446744073709551616
        · exact ⟨_,0,by omega,hb⟩
        · exact ⟨nth P (j+q.length)+cN - 18446744073709551616,1,by omega,by omega⟩
      have hw:IntKind.u64.wrap ((nth P (j+q.length):Int)+(cN:Int))=(s:Int):=by rw [IntKind.wrap_u64];omega
      have HST:Hid (seg W (P'.set (j+q.length) s) j (q.length+1)+W^(q.length+1)*d=seg W P j (q.length+1)+val W q):=hide (by
        have h1:=HI.out;rw [L.val_take_ge W q _ (Nat.le_refl _)] at h1;unfold L.seg;rw [L.drop_set_at,L.val_set_take W _ _ _ (by rw [List.length_drop];omega),L.val_take_step W (P.drop j),L.nth_drop,Nat.pow_succ];have h2:W^q.length*(nth P (j+q.length)+cN)=W^q.length*(s+W*d):=by rw [show W*d=18446744073709551616*d from rfl,e6]
        generalize W^q.length=X at *
        simp only [Nat.mul_add] at *;rw [Nat.mul_assoc]
        omega)
      have HLT:Hid (seg W (P'.set (j+q.length) s) j (q.length+1)<W^(q.length+1)):=hide (L.seg_lt _ (L.mem_set_lt P' HP.out _ s e7) ja5 _ _);have bi:(q.length:Int)<((q.length+1:Nat):Int):=by omega
      clear e6 hqa
      go_wp2_with fail
      go_end0
      refine ⟨HW.out.set_ _ _,_,hO'.set (j+q.length) s,HS.out.set s,L.mem_set_lt P' HP.out _ s e7,rfl,?_⟩;have h1:=HST.out;have h2:=HLT.out;rw [←h1,Nat.add_mul_mod_self_left,Nat.mod_eq_of_lt h2]
end Go.Proofs.YtllgjggkchgpbaaGreat
