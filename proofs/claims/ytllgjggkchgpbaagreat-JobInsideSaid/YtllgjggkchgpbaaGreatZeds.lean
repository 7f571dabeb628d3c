/- Structs in memory, results that lie in cells, integers of limbs. zed: made, Norm: integers as they stand. zed: Neg, Shl, BitLen, Sign: integers. zed: Mul, Add, Sub, Cmp, Shr, Of: integers. zed: Cmp, Shr, Of: integers. -/
import Derived.Test.YtllgjggkchgpbaaGreatNats
set_option linter.unusedVariables false
set_option linter.unusedSimpArgs false
namespace Go.Proofs.YtllgjggkchgpbaaGreat
section
section
open Go.RowKit
open L (val dig nth)
def ival (n:Bool) (N:Nat):Int:=if n then -(N:Int) else N
theorem jbe (n:Bool) (N:Nat):(ival n N).natAbs=N:=by cases n <;> simp [ival]
theorem jpm (n:Bool) (N:Nat):decide (ival n N<0)=(n && decide (0<N)):=by cases n <;> simp [ival]
theorem jej (n:Bool):ival n 0=0:=by cases n <;> simp [ival]
theorem jaz (z:Int):ival (decide (z<0)) z.natAbs=z:=by
  by_cases h:z<0 <;> simp [ival,h] <;> omega
def RetZ (B:Nat) (z:Int) (e:Ending) (w:World):Prop:=∃u d,e=.returned (.agg #[.bool (decide (z<0)),u])∧Nums w B u d∧Canon d z.natAbs
def Blk (w:World) (g:Nat) (t:TypeId) (cs:Array Value):Prop:=w.heap[g]? = some (.cells cs t (0,0))
section
variable {w w':World} {g:Nat} {t:TypeId} {cs:Array Value}
theorem Blk.lt (h:Blk w g t cs):g<w.heap.size:=by
  rcases Nat.lt_or_ge g w.heap.size with hlt | hge
  · exact hlt
  · unfold Blk at h;rw [Array.getElem?_eq_none hge] at h;cases h
theorem Blk.cell (h:Blk w g t cs) (i:Nat):w.cell? ⟨g,i,none⟩=cs[i]?:=cell_of_row w g i cs t (0,0) h
theorem Blk.frozen (h:Blk w g t cs) (i:Nat):w.frozen? ⟨g,i,none⟩=false:=by
  unfold Blk at h;simp [World.frozen?,h]
theorem Blk.new (w:World) (t:TypeId) (cs:Array Value):Blk (w.alloc (.cells cs t)) w.heap.size t cs:=heap_alloc_new w _
theorem Blk.drew (h:Blk w g t cs):Blk w.drew g t cs:=h
theorem Blk.drewN (h:Blk w g t cs) (n:Nat):Blk (w.drewN n) g t cs:=h
theorem Blk.alloc (h:Blk w g t cs) (o:Obj):Blk (w.alloc o) g t cs:=(Below.heap_alloc w o g h.lt).trans h
theorem Blk.set_ (h:Blk w g t cs) (i:Nat) (u:Value):Blk (w.setCell ⟨g,i,none⟩ u) g t (cs.setIfInBounds i u):=by
  unfold Blk at h ⊢;simp [World.setCell,Array.getElem?_modify,h]
theorem Blk.far (h:Blk w g t cs) {p:Addr} (hp:g≠p.block) (u:Value):Blk (w.setCell p u) g t cs:=(Below.heap_setCell w p u g hp).trans h
theorem Blk.below {B:Nat} (h:Blk w g t cs) (hb:Below B w w') (hg:g<B):Blk w' g t cs:=(hb.block g hg).trans h
end
theorem Nums.alloc {w:World} {B:Nat} {v:Value} {l:List Nat} (h:Nums w B v l) (o:Obj):Nums (w.alloc o) B v l:=h.below ((Below.refl _ _).alloc (Nat.le_refl _) _)
theorem Nums.form {w:World} {B:Nat} {v:Value} {l:List Nat} (h:Nums w B v l):∃A cap,v=.slice A l.length cap:=by
  obtain ⟨A,cap,rfl,-⟩:=h;exact ⟨A,cap,rfl⟩
theorem Blk.two {w:World} {g:Nat} {t:TypeId} {a b:Value} (h:Blk w g t #[a,b]) :
    w.cell? ⟨g,0,none⟩=some a∧w.cell? ⟨g,1,none⟩=some b∧w.frozen? ⟨g,0,none⟩=false∧w.frozen? ⟨g,1,none⟩=false:=
  ⟨h.cell 0,h.cell 1,h.frozen 0,h.frozen 1⟩
theorem Blk.three {w:World} {g:Nat} {t:TypeId} {a b c:Value} (h:Blk w g t #[a,b,c]) :
    w.cell? ⟨g,0,none⟩=some a∧w.cell? ⟨g,1,none⟩=some b∧w.cell? ⟨g,2,none⟩=some c∧w.frozen? ⟨g,0,none⟩=false∧w.frozen? ⟨g,1,none⟩=false∧w.frozen? ⟨g,2,none⟩=false:=
  ⟨h.cell 0,h.cell 1,h.cell 2,h.frozen 0,h.frozen 1,h.frozen 2⟩
theorem jgt (w:World) (t t':TypeId) (a b c d:Value):∃W0,W0=(w.alloc (.cells #[a,b] t)).alloc (.cells #[c,d] t')∧Blk W0 w.heap.size t #[a,b]∧Blk W0 (w.heap.size+1) t' #[c,d]∧
    Below w.heap.size w W0∧W0.heap.size=w.heap.size+2:=
  ⟨_,rfl,(Blk.new w t _).alloc _,by have:=Blk.new (w.alloc (.cells #[a,b] t)) t' #[c,d];simpa using this,((Below.refl _ _).alloc (Nat.le_refl _) _).alloc (by simp) _,by simp⟩
theorem jeu {w:World} {r:Nat} {t:TypeId} {a b:Value} (h:Blk w r t #[a,b]):(loadVar 26 ⟨r,0,none⟩).run Tryz.prog w=.ok (.agg #[a,b]) w:=by
  obtain ⟨c0,c1,-,-⟩:=h.two;simp [go_sem,c0,c1]
theorem jl4 {w:World} {r:Nat} {t:TypeId} {a b c:Value} (h:Blk w r t #[a,b,c]):(loadVar 52 ⟨r,0,none⟩).run Tryz.prog w=.ok (.agg #[a,b,c]) w:=by
  obtain ⟨c0,c1,c2,-,-,-⟩:=h.three;simp [go_sem,c0,c1,c2]
theorem jah {fn:Func} {p:Tmp} (h:fn.results=#[.cell p 26]) (tmps:Array Value) (w:World) (r:Nat) (t:TypeId) (a b:Value) (hp:tmps.getD p undef=.pointer (some ⟨r,0,none⟩)) (hb:Blk w r t #[a,b]) :
    (results fn tmps).run Tryz.prog w=.ok (.agg #[a,b]) w:=by
  simp only [results,h];simp only [Array.getD_eq_getD_getElem?] at hp;simp [Sem.run_bind,Result.andThen,asAddr,hp,jeu hb]
theorem jbk {fn:Func} {p:Tmp} (h:fn.results=#[.cell p 52]) (tmps:Array Value) (w:World) (r:Nat) (t:TypeId) (a b c:Value) (hp:tmps.getD p undef=.pointer (some ⟨r,0,none⟩)) (hb:Blk w r t #[a,b,c]) :
    (results fn tmps).run Tryz.prog w=.ok (.agg #[a,b,c]) w:=by
  simp only [results,h];simp only [Array.getD_eq_getD_getElem?] at hp;simp [Sem.run_bind,Result.andThen,asAddr,hp,jl4 hb]
theorem ja6 {fn:Func} {p q:Tmp} (h:fn.results=#[.cell p 26,.tmp q]) (tmps:Array Value) (w:World) (r:Nat) (t:TypeId) (a b:Value) (hp:tmps.getD p undef=.pointer (some ⟨r,0,none⟩)) (hb:Blk w r t #[a,b]) :
    (results fn tmps).run Tryz.prog w=.ok (.tuple #[.agg #[a,b],tmps.getD q undef]) w:=by
  simp only [results,h];simp only [Array.getD_eq_getD_getElem?] at hp;simp [Sem.run_bind,Result.andThen,asAddr,hp,jeu hb]
theorem jcj {fn:Func} {p q:Tmp} (h:fn.results=#[.cell p 52,.tmp q]) (tmps:Array Value) (w:World) (r:Nat) (t:TypeId) (a b c:Value) (hp:tmps.getD p undef=.pointer (some ⟨r,0,none⟩)) (hb:Blk w r t #[a,b,c]) :
    (results fn tmps).run Tryz.prog w=.ok (.tuple #[.agg #[a,b,c],tmps.getD q undef]) w:=by
  simp only [results,h];simp only [Array.getD_eq_getD_getElem?] at hp;simp [Sem.run_bind,Result.andThen,asAddr,hp,jl4 hb]
theorem jat {fn:Func} {p q s:Tmp} (h:fn.results=#[.cell p 26,.cell q 26,.tmp s]) (tmps:Array Value) (w:World) (r r':Nat) (t t':TypeId) (a b c d:Value)
    (hp:tmps.getD p undef=.pointer (some ⟨r,0,none⟩)) (hb:Blk w r t #[a,b]) (hq:tmps.getD q undef=.pointer (some ⟨r',0,none⟩)) (hb':Blk w r' t' #[c,d]) :
    (results fn tmps).run Tryz.prog w=.ok (.tuple #[.agg #[a,b],.agg #[c,d],tmps.getD s undef]) w:=by
  simp only [results,h];simp only [Array.getD_eq_getD_getElem?] at hp hq;simp [Sem.run_bind,Result.andThen,asAddr,hp,jeu hb,hq,jeu hb']
theorem jui {d:List Nat} {N:Nat} (h:Canon d N):(decide (0<d.length))=decide (0<N):=by
  rw [decide_eq_decide];have:=h.nil_iff
  constructor
  · intro h1
    rcases Nat.eq_zero_or_pos N with h2 | h2
    · rw [this.2 h2] at h1;simp at h1
    · exact h2
  · intro h1
    rcases Nat.eq_zero_or_pos d.length with h2 | h2
    · have:=this.1 (List.eq_nil_of_length_eq_zero h2);omega
    · exact h2
theorem jpn {d:List Nat} {N:Nat} (n:Bool) (h:Canon d N):(n && decide (0<d.length))=decide (ival n N<0):=by rw [jui h,jpm]
theorem Nums.set_low {w:World} {B:Nat} {v:Value} {l:List Nat} (h:Nums w B v l) {p:Addr} (hp:p.block<B) (u:Value):Nums (w.setCell p u) B v l:=by
  obtain ⟨A,cap,h1,h2,h3,h4,h5⟩:=h;refine ⟨A,cap,h1,⟨h2.1,fun hB a ha i hi=>?_⟩,h3,h4,fun h0=>?_⟩
  · obtain ⟨b,off,a1,a2,a3,a4⟩:=h5 (by omega)
    have:=h2.2 hB a ha i hi;rw [a1] at ha
    cases ha
    exact (jcg (Below.heap_setCell w p u b (by omega)) _).trans this
  obtain ⟨b,off,a1,a2,a3,a4⟩:=h5 h0;refine ⟨b,off,a1,a2,by simpa [World.setCell] using a3,fun i hi=>?_⟩;rw [World.cell?_of_block (w:=w) (Below.heap_setCell w p u b (by omega))];exact a4 i hi
theorem retZ {w w2:World} {r B N:Nat} {n:Bool} {v:Value} {d:List Nat} (hB:w.heap.size≤B) (hrB:r<B) (hu:Nums w2 B v d) (hd:Canon d N) (x y:Value) :
    RetZ w.heap.size (ival n N) (.returned (.agg #[.bool (n && decide (0<d.length)),v])) ((w2.setCell ⟨r,0,none⟩ x).setCell ⟨r,1,none⟩ y):=
  ⟨v,d,by rw [jpn n hd],((hu.set_low (p:=⟨r,0,none⟩) hrB x).set_low (p:=⟨r,1,none⟩) hrB y).mono hB,by rw [jbe];exact hd⟩
theorem below2 {w W:World} {r:Nat} (h:Below w.heap.size w W) (hr:w.heap.size≤r) (x y:Value):Below w.heap.size w ((W.setCell ⟨r,0,none⟩ x).setCell ⟨r,1,none⟩ y):=
  (h.setCell (p:=⟨r,0,none⟩) hr x).setCell (p:=⟨r,1,none⟩) hr y
theorem jkd (w:World) (t t':TypeId) (a b c d e f:Value):∃W0,W0=((w.alloc (.cells #[a,b] t)).alloc (.cells #[c,d] t)).alloc (.cells #[e,f] t')∧Blk W0 w.heap.size t #[a,b]∧Blk W0 (w.heap.size+1) t #[c,d]∧
    Blk W0 (w.heap.size+2) t' #[e,f]∧Below w.heap.size w W0∧W0.heap.size=w.heap.size+3:=
  ⟨_,rfl,((Blk.new w t _).alloc _).alloc _,by have:=(Blk.new (w.alloc (.cells #[a,b] t)) t #[c,d]).alloc (.cells #[e,f] t');simpa using this,
    by have:=Blk.new ((w.alloc (.cells #[a,b] t)).alloc (.cells #[c,d] t)) t' #[e,f];simpa using this,(((Below.refl _ _).alloc (Nat.le_refl _) _).alloc (by simp) _).alloc (by simp;omega) _,by simp⟩
theorem jpo (w:World) (t:TypeId) (a b:Value):∃W0,W0=w.alloc (.cells #[a,b] t)∧Blk W0 w.heap.size t #[a,b]∧Below w.heap.size w W0∧W0.heap.size=w.heap.size+1:=
  ⟨_,rfl,Blk.new w t _,(Below.refl _ _).alloc (Nat.le_refl _) _,by simp⟩
theorem jwm (w:World) (t:TypeId) (a b c d:Value):∃W0,W0=(w.alloc (.cells #[a,b] t)).alloc (.cells #[c,d] t)∧Blk W0 w.heap.size t #[a,b]∧Blk W0 (w.heap.size+1) t #[c,d]∧Below w.heap.size w W0∧W0.heap.size=w.heap.size+2:=
  ⟨_,rfl,(Blk.new w t _).alloc _,by have:=Blk.new (w.alloc (.cells #[a,b] t)) t #[c,d];simpa using this,((Below.refl _ _).alloc (Nat.le_refl _) _).alloc (by simp) _,by simp⟩
theorem Nums.up {w W:World} {B:Nat} {v:Value} {l:List Nat} (h:Nums w B v l) (hb:Below w.heap.size w W):Nums W B v l:=h.below hb
theorem RetZ.of {B:Nat} {z z':Int} {e:Ending} {w:World} (h:RetZ B z e w) (hz:z=z'):RetZ B z' e w:=hz ▸ h
theorem jwn (n:Bool) (a b:Nat):ival n (a+b)=ival n a+ival n b:=by cases n <;> simp [ival] <;> omega
theorem jpp (n:Bool) (a:Nat):ival (!n) a = -ival n a:=by cases n <;> simp [ival]
theorem juj (n m:Bool) (a b:Nat) (h:n≠m) (hle:b≤a):ival n (a - b)=ival n a+ival m b:=by cases n <;> cases m <;> simp [ival] at * <;> omega
theorem juk (n m:Bool) (a b:Nat) (h:n≠m) (hle:a≤b):ival m (b - a)=ival n a+ival m b:=by cases n <;> cases m <;> simp [ival] at * <;> omega
theorem jwo (n m:Bool) (a b:Nat):ival (n != m) (a*b)=ival n a*ival m b:=by cases n <;> cases m <;> simp [ival,Int.neg_mul,Int.mul_neg]
theorem jwp (n:Bool) (a k:Nat):ival n (a*2^k)=ival n a*2^k:=by cases n <;> simp [ival,Int.neg_mul]
end
end
section
section
open Go.RowKit
open L (val dig nth)
theorem jav (w:World) (n:Bool) (B:Nat) (v:Value) (l:List Nat) (h:Nums w B v l) :
    Calls Tryz.prog 97 #[.bool n,v] w fun e w'=>Below w.heap.size w w'∧e=.returned (.agg #[.bool (n && decide (0<l.length)),v]):=by
  obtain ⟨A,cap,rfl,-,-,-,hc⟩:=h
  cases n with
  | false=>
    go_enter Tryz.func97,Tryz.ntmps97
    go_wp2_with fail
    refine bodyPost_ret (v:=.agg #[.bool false,.slice A l.length cap]) (by simp [results,Tryz.results97,go_sem]) rfl ⟨?_,rfl⟩;exact (Below.refl _ _).alloc (Nat.le_refl _) _
  | true=>
    go_enter Tryz.func97,Tryz.ntmps97
    go_wp2_with fail
    refine bodyPost_ret (v:=.agg #[.bool (decide (0<l.length)),.slice A l.length cap]) (by simp [results,Tryz.results97,go_sem]) rfl ⟨?_,by rw [Bool.true_and]⟩;exact (Below.refl _ _).alloc (Nat.le_refl _) _
theorem jh3 (w:World) (n:Bool) (B:Nat) (v:Value) (l:List Nat) (h:Nums w B v l) (hl:l.length≤60000) :
    Calls Tryz.prog 74 #[.agg #[.bool n,v]] w fun e w'=>Below w.heap.size w w'∧RetZ w.heap.size (ival n (val W l)) e w':=by
  have h0:=h;obtain ⟨A,cap,rfl,-,-,-,hc⟩:=h;obtain ⟨W0,hW,hbx,hrs,hB0,hs⟩:=jgt w 26 26 (.bool n) (.slice A l.length cap) (.bool false) (.slice none 0 0);have h1:=h0.below (w':=W0) hB0;have HS:=hide hs;have hs2:w.heap.size+1<W0.heap.size:=by omega
  clear hs hc
  go_enter Tryz.func74,Tryz.ntmps74
  go_wp2_with fail
  rw [←hW];clear hW;obtain ⟨c0,c1,-,-⟩:=hbx.two
  go_region_held3 (fun w'=>w'.cell? ⟨w.heap.size,0,none⟩=some (.bool n)∧w'.cell? ⟨w.heap.size,1,none⟩=some (.slice A l.length cap)) (go_keep)
    (first
      | (go_at_call 98;refine (jc6 _ B _ l h1.drew hl).mono ?_;rintro e w1 ⟨hb1,u,d,rfl,hu,hd⟩
         obtain ⟨A1,cap1,rfl⟩:=hu.form;have hbx1:=hbx.drew.below hb1 (by simp;omega);have hrs1:=hrs.drew.below hb1 (by simp;omega);obtain ⟨e0,e1,-,-⟩:=hbx1.two)
      | (go_at_call 97;refine (jav _ n _ _ d hu).mono ?_;rintro e w2 ⟨hb2,rfl⟩
         have hbx2:=hbx1.below hb2 hbx1.lt;have hrs2:=hrs1.below hb2 hrs1.lt;obtain ⟨f0,f1,-,-⟩:=hbx2.two;obtain ⟨g0,g1,g2,g3⟩:=hrs2.two))
  go_wp2_with fail
  have s1:=hb1.size;have s2:=hb2.size;have s0:=HS.out;simp at s1;refine bodyPost_ret (jah rfl _ _ _ _ _ _ rfl ((hrs2.set_ 0 _).set_ 1 _)) rfl ⟨below2 ((hB0.drew.trans (hb1.mono (by simp;omega))).trans (hb2.mono (by omega))) (by omega) _ _,?_⟩;exact retZ (by simp;omega) (by simp;omega) (hu.below hb2) hd _ _
end
end
section
section
open Go.RowKit
open L (val dig nth)
theorem jev (w:World) (n:Bool) (B:Nat) (v:Value) (l:List Nat) (h:Nums w B v l) (hl:l.length≤60000) :
    Calls Tryz.prog 31 #[.agg #[.bool n,v]] w fun e w'=>Below w.heap.size w w'∧RetZ w.heap.size (-ival n (val W l)) e w':=by
  have h0:=h;obtain ⟨A,cap,rfl,-,-,-,hc⟩:=h;obtain ⟨W0,hW,hbx,hrs,hB0,hs⟩:=jgt w 26 26 (.bool n) (.slice A l.length cap) (.bool false) (.slice none 0 0);have h1:=h0.up hB0;have HS:=hide hs;have hs2:w.heap.size+1<W0.heap.size:=by omega
  clear hs hc
  go_enter Tryz.func31,Tryz.ntmps31
  go_wp2_with fail
  rw [←hW];clear hW;obtain ⟨c0,c1,-,-⟩:=hbx.two
  go_region_held3 (fun w'=>w'.cell? ⟨w.heap.size,0,none⟩=some (.bool n)∧w'.cell? ⟨w.heap.size,1,none⟩=some (.slice A l.length cap)) (go_keep)
    (first
      | (go_at_call 98;refine (jc6 _ B _ l h1.drew hl).mono ?_;rintro e w1 ⟨hb1,u,d,rfl,hu,hd⟩
         obtain ⟨A1,cap1,rfl⟩:=hu.form;have hbx1:=hbx.drew.below hb1 (by simp;omega);have hrs1:=hrs.drew.below hb1 (by simp;omega);obtain ⟨e0,e1,-,-⟩:=hbx1.two)
      | (go_at_call 97;refine (jav _ (!n) _ _ d hu).mono ?_;rintro e w2 ⟨hb2,rfl⟩
         have hbx2:=hbx1.below hb2 hbx1.lt;have hrs2:=hrs1.below hb2 hrs1.lt;obtain ⟨f0,f1,-,-⟩:=hbx2.two;obtain ⟨g0,g1,g2,g3⟩:=hrs2.two))
  go_wp2_with fail
  have s1:=hb1.size;have s2:=hb2.size;have s0:=HS.out;simp at s1;refine bodyPost_ret (jah rfl _ _ _ _ _ _ rfl ((hrs2.set_ 0 _).set_ 1 _)) rfl ⟨below2 ((hB0.drew.trans (hb1.mono (by simp;omega))).trans (hb2.mono (by omega))) (by omega) _ _,?_⟩;exact (retZ (by simp;omega) (by simp;omega) (hu.below hb2) hd _ _).of (jpp _ _)
theorem jqg (w:World) (n:Bool) (B:Nat) (v:Value) (l:List Nat) (k:Int) (h:Nums w B v l) (hl:l.length≤60000) (hk0 : -9223372036854775808≤k) (hk1:k≤9223372036854775807) :
    Calls Tryz.prog 69 #[.agg #[.bool n,v],.int .i64 k] w fun e w'=>Below w.heap.size w w'∧RetZ w.heap.size (ival n (val W l)*2^clampN k) e w':=by
  have h0:=h;obtain ⟨A,cap,rfl,-,-,-,hc⟩:=h;obtain ⟨W0,hW,hbx,hrs,hB0,hs⟩:=jgt w 26 26 (.bool n) (.slice A l.length cap) (.bool false) (.slice none 0 0);have h1:=h0.up hB0;have HS:=hide hs;have hs2:w.heap.size+1<W0.heap.size:=by omega
  clear hs hc
  go_enter Tryz.func69,Tryz.ntmps69
  go_wp2_with fail
  rw [←hW];clear hW;obtain ⟨c0,c1,-,-⟩:=hbx.two
  go_region_held3 (fun w'=>w'.cell? ⟨w.heap.size,0,none⟩=some (.bool n)∧w'.cell? ⟨w.heap.size,1,none⟩=some (.slice A l.length cap)) (go_keep)
    (first
      | (go_at_call 138;refine (jd6 _ B _ l k h1.drew hl hk0 hk1).mono ?_;rintro e w1 ⟨hb1,u,d,rfl,hu,hd⟩
         obtain ⟨A1,cap1,rfl⟩:=hu.form;have hbx1:=hbx.drew.below hb1 (by simp;omega);have hrs1:=hrs.drew.below hb1 (by simp;omega);obtain ⟨e0,e1,-,-⟩:=hbx1.two)
      | (go_at_call 97;refine (jav _ n _ _ d hu).mono ?_;rintro e w2 ⟨hb2,rfl⟩
         have hbx2:=hbx1.below hb2 hbx1.lt;have hrs2:=hrs1.below hb2 hrs1.lt;obtain ⟨f0,f1,-,-⟩:=hbx2.two;obtain ⟨g0,g1,g2,g3⟩:=hrs2.two))
  go_wp2_with fail
  have s1:=hb1.size;have s2:=hb2.size;have s0:=HS.out;simp at s1;refine bodyPost_ret (jah rfl _ _ _ _ _ _ rfl ((hrs2.set_ 0 _).set_ 1 _)) rfl ⟨below2 ((hB0.drew.trans (hb1.mono (by simp;omega))).trans (hb2.mono (by omega))) (by omega) _ _,?_⟩;exact (retZ (by simp;omega) (by simp;omega) (hu.below hb2) hd _ _).of (jwp _ _ _)
theorem jfr (w:World) (n:Bool) (B:Nat) (v:Value) (l:List Nat) (h:Nums w B v l) (hl:l.length≤60000) :
    Calls Tryz.prog 51 #[.agg #[.bool n,v]] w fun e w'=>Below w.heap.size w w'∧e=.returned (.int .i64 (nbits (val W l):Nat)):=by
  have h0:=h;obtain ⟨A,cap,rfl,-,-,-,hc⟩:=h;obtain ⟨W0,hW,hbx,hB0,hs⟩:=jpo w 26 (.bool n) (.slice A l.length cap);have h1:=h0.up hB0;obtain ⟨c0,c1,-,-⟩:=hbx.two;clear hs hc
  go_enter Tryz.func51,Tryz.ntmps51
  go_upto_region 1 with (fail)
  rw [←hW];clear hW
  go_wp2_with fail
  refine (jf5 _ B _ l h1 hl).mono ?_;rintro e w1 ⟨rfl,rfl⟩
  go_wp2_with fail
  go_ret
  exact ⟨hB0,rfl⟩
theorem jnh (w:World) (n:Bool) (B:Nat) (v:Value) (l:List Nat) (h:Nums w B v l) (hl:l.length≤60000) :
    Calls Tryz.prog 30 #[.agg #[.bool n,v]] w fun e w'=>Below w.heap.size w w'∧e=.returned (.int .i64 (ival n (val W l)).sign):=by
  have h0:=h;obtain ⟨A,cap,rfl,-,-,-,hc⟩:=h;obtain ⟨W0,hW,hbx,hB0,hs⟩:=jpo w 26 (.bool n) (.slice A l.length cap);have h1:=h0.up hB0;obtain ⟨c0,c1,-,-⟩:=hbx.two
  have hbl:nbits (val W l)=0↔val W l=0:=by
    constructor
    · intro h2
      have:=(jba (val W l) 0).1 (by omega)
      omega
    · intro h2;rw [h2];exact jik
  have HBL:=hide hbl;clear hs hc hbl
  go_enter Tryz.func30,Tryz.ntmps30
  go_upto_region 1 with (fail)
  rw [←hW];clear hW
  go_wp2_with fail
  refine (jf5 _ B _ l h1 hl).mono ?_;rintro e w1 ⟨rfl,rfl⟩
  by_cases hz:val W l=0
  · have HV:Hid ((ival n (val W l)).sign=0):=hide (by rw [hz,jej];rfl)
    have d0:((nbits (val W l):Int) == 0)=true:=beq_iff_eq.2 (by have:=HBL.out.2 hz;omega);clear hz
    go_wp2_with fail
    go_ret
    exact ⟨hB0,jb0 HV.out.symm⟩
  · have d0:((nbits (val W l):Int) == 0)=false:=beq_eq_false_iff_ne.2 (by intro h2;exact hz (HBL.out.1 (by omega)))
    cases n with
    | true=>
      have HV:Hid ((ival true (val W l)).sign = -1):=hide (by simp only [ival,if_true];exact Int.sign_eq_neg_one_of_neg (by omega));clear hz
      go_wp2_with fail
      go_ret
      exact ⟨hB0,jb0 HV.out.symm⟩
    | false=>
      have HV:Hid ((ival false (val W l)).sign=1):=hide (by simp only [ival];exact Int.sign_eq_one_of_pos (by simp;omega));clear hz
      go_wp2_with fail
      go_ret
      exact ⟨hB0,jb0 HV.out.symm⟩
end
end
section
section
open Go.RowKit
open L (val dig nth)
theorem jqh (w:World) (n m:Bool) (B C:Nat) (v u:Value) (p q:List Nat) (hp:Nums w B v p) (hq:Nums w C u q) (hpl:p.length≤60000) (hql:q.length≤60000) :
    Calls Tryz.prog 34 #[.agg #[.bool n,v],.agg #[.bool m,u]] w fun e w'=>Below w.heap.size w w'∧RetZ w.heap.size (ival n (val W p)*ival m (val W q)) e w':=by
  have hp0:=hp;have hq0:=hq;obtain ⟨A,cap,rfl,-,-,-,hcp⟩:=hp;obtain ⟨A',cap',rfl,-,-,-,hcq⟩:=hq;obtain ⟨W0,hW,hbx,hby,hrs,hB0,hs⟩:=jkd w 26 26 (.bool n) (.slice A p.length cap) (.bool m) (.slice A' q.length cap') (.bool false) (.slice none 0 0);have hp1:=hp0.up hB0;have hq1:=hq0.up hB0;have HS:=hide hs;have hs2:w.heap.size+2<W0.heap.size:=by omega
  have hn1:¬ (w.heap.size=w.heap.size+1+1):=by omega
  have hn2:¬ (w.heap.size+1+1=w.heap.size):=by omega
  clear hs hcp hcq
  go_enter Tryz.func34,Tryz.ntmps34
  go_wp2_with fail
  rw [←hW];clear hW;obtain ⟨c0,c1,-,-⟩:=hbx.two;obtain ⟨c2,c3,-,-⟩:=hby.two
  go_region_held3 (fun w'=>w'.cell? ⟨w.heap.size,0,none⟩=some (.bool n)∧w'.cell? ⟨w.heap.size,1,none⟩=some (.slice A p.length cap)∧w'.cell? ⟨w.heap.size+1,0,none⟩=some (.bool m)∧w'.cell? ⟨w.heap.size+1,1,none⟩=some (.slice A' q.length cap')) (go_keep)
    (first
      | (go_at_call 102;refine (jsw _ B C _ _ p q hp1.drew hq1.drew hpl hql).mono ?_;rintro e w1 ⟨hb1,uu,d,rfl,hu,hd⟩
         obtain ⟨A1,cap1,rfl⟩:=hu.form;have hbx1:=hbx.drew.below hb1 (by simp;omega);have hby1:=hby.drew.below hb1 (by simp;omega);have hrs1:=hrs.drew.below hb1 (by simp;omega);obtain ⟨e0,e1,-,-⟩:=hbx1.two;obtain ⟨e2,e3,-,-⟩:=hby1.two)
      | (go_at_call 97;refine (jav _ (n != m) _ _ d hu).mono ?_;rintro e w2 ⟨hb2,rfl⟩
         have hbx2:=hbx1.below hb2 hbx1.lt;have hby2:=hby1.below hb2 hby1.lt;have hrs2:=hrs1.below hb2 hrs1.lt;obtain ⟨f0,f1,-,-⟩:=hbx2.two;obtain ⟨f2,f3,-,-⟩:=hby2.two;obtain ⟨g0,g1,g2,g3⟩:=hrs2.two))
  go_wp2_with fail
  have s1:=hb1.size;have s2:=hb2.size;have s0:=HS.out;simp at s1;refine bodyPost_ret (jah rfl _ _ _ _ _ _ rfl ((hrs2.set_ 0 _).set_ 1 _)) rfl ⟨below2 ((hB0.drew.trans (hb1.mono (by simp;omega))).trans (hb2.mono (by omega))) (by omega) _ _,?_⟩;exact (retZ (by simp;omega) (by simp;omega) (hu.below hb2) hd _ _).of (jwo _ _ _ _)
theorem jiy (w:World) (n m:Bool) (B C:Nat) (v u:Value) (p q:List Nat) (hp:Nums w B v p) (hq:Nums w C u q) (hpl:p.length≤60000) (hql:q.length≤60000) :
    Calls Tryz.prog 33 #[.agg #[.bool n,v],.agg #[.bool m,u]] w fun e w'=>Below w.heap.size w w'∧RetZ w.heap.size (ival n (val W p)+ival m (val W q)) e w':=by
  have hp0:=hp;have hq0:=hq;obtain ⟨A,cap,rfl,-,-,-,hcp⟩:=hp;obtain ⟨A',cap',rfl,-,-,-,hcq⟩:=hq;obtain ⟨W0,hW,hbx,hby,hrs,hB0,hs⟩:=jkd w 26 26 (.bool n) (.slice A p.length cap) (.bool m) (.slice A' q.length cap') (.bool false) (.slice none 0 0);have hp1:=hp0.up hB0;have hq1:=hq0.up hB0;have HS:=hide hs;have hs2:w.heap.size+2<W0.heap.size:=by omega
  have hn1:¬ (w.heap.size=w.heap.size+1+1):=by omega
  have hn2:¬ (w.heap.size+1+1=w.heap.size):=by omega
  clear hs hcp hcq;obtain ⟨c0,c1,-,-⟩:=hbx.two;obtain ⟨c2,c3,-,-⟩:=hby.two
  by_cases hnm:n=m
  · subst hnm
    have d0:(n == n)=true:=by simp
    go_enter Tryz.func33,Tryz.ntmps33
    go_upto_region 1 with (fail)
    rw [←hW];clear hW
    go_wp2_with fail
    go_region_held3 (fun w'=>w'.cell? ⟨w.heap.size,0,none⟩=some (.bool n)∧w'.cell? ⟨w.heap.size,1,none⟩=some (.slice A p.length cap)∧w'.cell? ⟨w.heap.size+1,0,none⟩=some (.bool n)∧w'.cell? ⟨w.heap.size+1,1,none⟩=some (.slice A' q.length cap')) (go_keep)
      (first
        | (go_at_call 100;refine (jhm _ B C _ _ p q hp1.drew hq1.drew hpl hql).mono ?_;rintro e w1 ⟨hb1,uu,d,rfl,hu,hd⟩
           obtain ⟨A1,cap1,rfl⟩:=hu.form;have hbx1:=hbx.drew.below hb1 (by simp;omega);have hby1:=hby.drew.below hb1 (by simp;omega);have hrs1:=hrs.drew.below hb1 (by simp;omega);obtain ⟨e0,e1,-,-⟩:=hbx1.two;obtain ⟨e2,e3,-,-⟩:=hby1.two)
        | (go_at_call 97;refine (jav _ n _ _ d hu).mono ?_;rintro e w2 ⟨hb2,rfl⟩
           have hbx2:=hbx1.below hb2 hbx1.lt;have hby2:=hby1.below hb2 hby1.lt;have hrs2:=hrs1.below hb2 hrs1.lt;obtain ⟨f0,f1,-,-⟩:=hbx2.two;obtain ⟨f2,f3,-,-⟩:=hby2.two;obtain ⟨g0,g1,g2,g3⟩:=hrs2.two))
    go_wp2_with fail
    have s1:=hb1.size;have s2:=hb2.size;have s0:=HS.out;simp at s1;refine bodyPost_ret (jah rfl _ _ _ _ _ _ rfl ((hrs2.set_ 0 _).set_ 1 _)) rfl ⟨below2 ((hB0.drew.trans (hb1.mono (by simp;omega))).trans (hb2.mono (by omega))) (by omega) _ _,?_⟩;exact (retZ (by simp;omega) (by simp;omega) (hu.below hb2) hd _ _).of (jwn _ _ _)
  · have d0:(n == m)=false:=by simp [hnm]
    have HNM:=hide hnm;clear hnm
    by_cases hle:val W q≤val W p
    · go_enter Tryz.func33,Tryz.ntmps33
      go_upto_region 1 with (fail)
      rw [←hW];clear hW
      go_wp2_with fail
      refine (jhn _ B C _ _ p q hp1 hq1 hpl hle).mono ?_;rintro e w1 ⟨hb1,uu,d,rfl,hu,hd⟩;obtain ⟨A1,cap1,rfl⟩:=hu.form;have hbx1:=hbx.below hb1 hbx.lt;have hrs1:=hrs.below hb1 hrs.lt;obtain ⟨e0,e1,-,-⟩:=hbx1.two
      go_wp2_with fail
      refine (jav _ n _ _ d hu).mono ?_;rintro e w2 ⟨hb2,rfl⟩;have hrs2:=hrs1.below hb2 hrs1.lt;obtain ⟨g0,g1,g2,g3⟩:=hrs2.two
      go_wp2_with fail
      have s1:=hb1.size;have s2:=hb2.size;have s0:=HS.out;refine bodyPost_ret (jah rfl _ _ _ _ _ _ rfl ((hrs2.set_ 0 _).set_ 1 _)) rfl ⟨below2 ((hB0.trans (hb1.mono (by omega))).trans (hb2.mono (by omega))) (by omega) _ _,?_⟩;exact (retZ (by omega) (by omega) (hu.below hb2) hd _ _).of (juj n m _ _ HNM.out hle)
    · have hle':val W p≤val W q:=by omega
      have hlt:val W p<val W q:=by omega
      clear hle
      go_enter Tryz.func33,Tryz.ntmps33
      go_upto_region 1 with (fail)
      rw [←hW];clear hW
      go_wp2_with fail
      refine (jk8 _ B C _ _ p q hp1 hq1 hlt).mono ?_;rintro e w1 ⟨hb1,rfl⟩;have hbx1:=hbx.below hb1 hbx.lt;have hby1:=hby.below hb1 hby.lt;have hrs1:=hrs.below hb1 hrs.lt;have hp2:=hp1.below hb1;have hq2:=hq1.below hb1;obtain ⟨e0,e1,-,-⟩:=hbx1.two;obtain ⟨e2,e3,-,-⟩:=hby1.two
      go_wp2_with fail
      refine (jhn _ C B _ _ q p hq2 hp2 hql hle').mono ?_;rintro e w2 ⟨hb2,uu,d,rfl,hu,hd⟩;obtain ⟨A1,cap1,rfl⟩:=hu.form;have hby2:=hby1.below hb2 hby1.lt;have hrs2:=hrs1.below hb2 hrs1.lt;obtain ⟨f0,f1,-,-⟩:=hby2.two
      go_wp2_with fail
      refine (jav _ m _ _ d hu).mono ?_;rintro e w3 ⟨hb3,rfl⟩;have hrs3:=hrs2.below hb3 hrs2.lt;obtain ⟨g0,g1,g2,g3⟩:=hrs3.two
      go_wp2_with fail
      have s1:=hb1.size;have s2:=hb2.size;have s3:=hb3.size;have s0:=HS.out;refine bodyPost_ret (jah rfl _ _ _ _ _ _ rfl ((hrs3.set_ 0 _).set_ 1 _)) rfl ⟨below2 (((hB0.trans (hb1.mono (by omega))).trans (hb2.mono (by omega))).trans (hb3.mono (by omega))) (by omega) _ _,?_⟩;exact (retZ (by omega) (by omega) (hu.below hb3) hd _ _).of (juk n m _ _ HNM.out hle')
theorem jiz (w:World) (n m:Bool) (B C:Nat) (v u:Value) (p q:List Nat) (hp:Nums w B v p) (hq:Nums w C u q) (hpl:p.length≤60000) (hql:q.length≤60000) :
    Calls Tryz.prog 37 #[.agg #[.bool n,v],.agg #[.bool m,u]] w fun e w'=>Below w.heap.size w w'∧RetZ w.heap.size (ival n (val W p) - ival m (val W q)) e w':=by
  have hp0:=hp;have hq0:=hq;obtain ⟨A,cap,rfl,-,-,-,hcp⟩:=hp;obtain ⟨A',cap',rfl,-,-,-,hcq⟩:=hq;obtain ⟨W0,hW,hbx,hby,hrs,hB0,hs⟩:=jkd w 26 26 (.bool n) (.slice A p.length cap) (.bool m) (.slice A' q.length cap') (.bool false) (.slice none 0 0);have hp1:=hp0.up hB0;have hq1:=hq0.up hB0;have HS:=hide hs;have hs2:w.heap.size+2<W0.heap.size:=by omega
  have hn1:¬ (w.heap.size=w.heap.size+1+1):=by omega
  have hn2:¬ (w.heap.size+1+1=w.heap.size):=by omega
  clear hs hcp hcq;obtain ⟨c0,c1,-,-⟩:=hbx.two;obtain ⟨c2,c3,-,-⟩:=hby.two
  go_enter Tryz.func37,Tryz.ntmps37
  go_upto_region 1 with (fail)
  rw [←hW];clear hW
  go_wp2_with fail
  refine (jiy _ n (!m) B C _ _ p q hp1 hq1 hpl hql).mono ?_;rintro e w1 ⟨hb1,uu,d,rfl,hu,hd⟩;obtain ⟨A1,cap1,rfl⟩:=hu.form;have hrs1:=hrs.below hb1 hrs.lt;obtain ⟨g0,g1,g2,g3⟩:=hrs1.two
  go_wp2_with fail
  have s1:=hb1.size;have s0:=HS.out;refine bodyPost_ret (jah rfl _ _ _ _ _ _ rfl ((hrs1.set_ 0 _).set_ 1 _)) rfl ⟨below2 (hB0.trans (hb1.mono (by omega))) (by omega) _ _,?_⟩;have e1:ival n (val W p)+ival (!m) (val W q)=ival n (val W p) - ival m (val W q):=by rw [jpp];omega
  rw [←e1];exact ⟨_,d,rfl,((hu.set_low (p:=⟨w.heap.size+2,0,none⟩) (by simp;omega) _).set_low (p:=⟨w.heap.size+2,1,none⟩) (by simp;omega) _).mono (by omega),hd⟩
end
end
section
section
open Go.RowKit
open L (val dig nth)
theorem bdrewN {B:Nat} {a w:World} (h:Below B a w) (n:Nat):Below B a (w.drewN n):=⟨h.os,h.tape,h.output,h.size,h.block⟩
def cmpZ (x y:Int):Int:=if x<y then -1 else if y<x then 1 else 0
theorem jbu (x:Int):x.sign = -1∧x<0∨x.sign=0∧x=0∨x.sign=1∧0<x:=by
  rcases Int.lt_trichotomy x 0 with h | h | h
  · exact .inl ⟨Int.sign_eq_neg_one_of_neg h,h⟩
  · exact .inr (.inl ⟨by rw [h];rfl,h⟩)
  · exact .inr (.inr ⟨Int.sign_eq_one_of_pos h,h⟩)
theorem j09 {x y:Int} (h:x.sign<y.sign):cmpZ x y = -1:=by
  unfold cmpZ
  rcases jbu x with h1 | h1 | h1 <;> rcases jbu y with h2 | h2 | h2 <;> rw [if_pos] <;> omega
theorem j1a {x y:Int} (h:y.sign<x.sign):cmpZ x y=1:=by
  unfold cmpZ
  rcases jbu x with h1 | h1 | h1 <;> rcases jbu y with h2 | h2 | h2 <;> (try omega) <;> rw [if_neg (by omega),if_pos (by omega)]
theorem jul {x y:Int} (h:x.sign=y.sign):cmpZ x y=x.sign*cmpN x.natAbs y.natAbs:=by
  rcases jbu x with h1 | h1 | h1 <;> rcases jbu y with h2 | h2 | h2 <;> (try omega) <;> rw [h1.1] <;> unfold cmpZ cmpN <;>
    (repeat' split) <;> omega
theorem jfs (w:World) (n:Bool) (B:Nat) (v:Value) (l:List Nat) (s:Int) (hs:(ival n (val W l)).sign=s) (h:Nums w B v l) (hl:l.length≤60000) :
    Calls Tryz.prog 30 #[.agg #[.bool n,v]] w fun e w'=>Below w.heap.size w w'∧e=.returned (.int .i64 s):=by
  rw [←hs];exact jnh w n B v l h hl
theorem jqi (w:World) (n m:Bool) (B C:Nat) (v u:Value) (p q:List Nat) (hp:Nums w B v p) (hq:Nums w C u q) (hpl:p.length≤60000) (hql:q.length≤60000) :
    Calls Tryz.prog 36 #[.agg #[.bool n,v],.agg #[.bool m,u]] w fun e w'=>Below w.heap.size w w'∧e=.returned (.int .i64 (cmpZ (ival n (val W p)) (ival m (val W q)))):=by
  have hp0:=hp;have hq0:=hq;obtain ⟨A,cap,rfl,-,-,-,hcp⟩:=hp;obtain ⟨A',cap',rfl,-,-,-,hcq⟩:=hq;obtain ⟨W0,hW,hbx,hby,hB0,hs⟩:=jwm w 26 (.bool n) (.slice A p.length cap) (.bool m) (.slice A' q.length cap');have hp1:=hp0.up hB0;have hq1:=hq0.up hB0;have HS:=hide hs;have hs2:w.heap.size+1<W0.heap.size:=by omega
  obtain ⟨sx,HX⟩:∃sx,Hid ((ival n (val W p)).sign=sx):=⟨_,hide rfl⟩;obtain ⟨sy,HY⟩:∃sy,Hid ((ival m (val W q)).sign=sy):=⟨_,hide rfl⟩
  have hsx:sx = -1∨sx=0∨sx=1:=by
    have:=HX.out
    rcases jbu (ival n (val W p)) with h1 | h1 | h1 <;> omega
  clear hs hcp hcq;obtain ⟨c0,c1,-,-⟩:=hbx.two;obtain ⟨c2,c3,-,-⟩:=hby.two
  go_enter Tryz.func36,Tryz.ntmps36
  go_upto_region 1 with (fail)
  rw [←hW];clear hW
  go_region_held3 (fun w'=>w'.cell? ⟨w.heap.size,0,none⟩=some (.bool n)∧w'.cell? ⟨w.heap.size,1,none⟩=some (.slice A p.length cap)∧w'.cell? ⟨w.heap.size+1,0,none⟩=some (.bool m)∧w'.cell? ⟨w.heap.size+1,1,none⟩=some (.slice A' q.length cap')) (go_keep)
    (first
      | (go_at_call 30;(with_reducible refine (jfs _ n B _ p sx HX.out hp1.drew hpl).mono ?_);rintro e w1 ⟨hb1,rfl⟩
         have hbx1:=hbx.drew.below hb1 (by simp;omega);have hby1:=hby.drew.below hb1 (by simp;omega);have hq2:=hq1.drew.below hb1;have hp2:=hp1.drew.below hb1;obtain ⟨e0,e1,-,-⟩:=hbx1.two;obtain ⟨e2,e3,-,-⟩:=hby1.two)
      | (go_at_call 30;(with_reducible refine (jfs _ m C _ q sy HY.out hq2 hql).mono ?_);rintro e w2 ⟨hb2,rfl⟩
         have hbx2:=hbx1.below hb2 hbx1.lt;have hby2:=hby1.below hb2 hby1.lt;have hq3:=hq2.below hb2;have hp3:=hp2.below hb2;obtain ⟨f0,f1,-,-⟩:=hbx2.two;obtain ⟨f2,f3,-,-⟩:=hby2.two))
  have s1:=hb1.size;have s2:=hb2.size;simp at s1;have hBB:=((hB0.drew.trans (hb1.mono (by simp;omega))).trans (hb2.mono (B':=w.heap.size) (by omega)))
  by_cases h1:sx<sy
  · have HV:Hid (cmpZ (ival n (val W p)) (ival m (val W q)) = -1):=hide (j09 (by rw [HX.out,HY.out];exact h1))
    go_wp2_with fail
    go_ret
    exact ⟨hBB,jb0 HV.out.symm⟩
  · by_cases h2:sy<sx
    · have HV:Hid (cmpZ (ival n (val W p)) (ival m (val W q))=1):=hide (j1a (by rw [HX.out,HY.out];exact h2))
      go_wp2_with fail
      go_ret
      exact ⟨hBB,jb0 HV.out.symm⟩
    · have HV:Hid (cmpZ (ival n (val W p)) (ival m (val W q))=sx*cmpN (val W p) (val W q)):=hide (by
        rw [jul (by rw [HX.out,HY.out];omega),HX.out,jbe,jbe])
      go_wp2_with fail
      refine (jct _ B C _ _ p q hp3 hq3).mono ?_;rintro e w3 ⟨hd,rfl⟩;have hcb : -1≤cmpN (val W p) (val W q)∧cmpN (val W p) (val W q)≤1:=by unfold cmpN;(repeat' split) <;> omega
      obtain ⟨cc,HC⟩:∃cc,Hid (cmpN (val W p) (val W q)=cc):=⟨_,hide rfl⟩;rw [HC.out] at hcb ⊢;obtain ⟨hcb1,hcb2⟩:=hcb
      have hmul:IntKind.i64.wrap (sx*cc)=sx*cc:=by
        rcases hsx with rfl | rfl | rfl <;> exact IntWalk.i64_in _ (by omega)
      go_wp2_with fail
      go_ret
      refine ⟨hBB.trans (hd.below _),jb0 ?_⟩;rw [HV.out,HC.out]
theorem jbr (k:Nat):(0:Int)<2^k:=by rw [natpow];have:=Nat.two_pow_pos k;omega
theorem jum (N k:Nat):ival false (N / 2^k)=ival false N / 2^k:=by simp only [ival];rw [natpow];norm_cast
theorem jqj (N k:Nat) (h:N / 2^k*2^k=N):ival true (N / 2^k)=ival true N / 2^k:=by
  simp only [ival,if_true]
  generalize hq:N / 2^k=q at *
  rw [←h,natpow,Int.natCast_mul,←Int.neg_mul,Int.mul_ediv_cancel];have:=Nat.two_pow_pos k
  omega
theorem jqk (N k:Nat) (h:N / 2^k*2^k≠N):ival true (N / 2^k+1)=ival true N / 2^k:=by
  simp only [ival,if_true];rw [natpow];have hp:=Nat.two_pow_pos k;have e:=Nat.div_add_mod N (2^k);have hm:=Nat.mod_lt N hp
  generalize N / 2^k=q at *
  generalize N%2^k=r at *
  generalize 2^k=X at *
  have hr:0<r:=by
    rcases Nat.eq_zero_or_pos r with h0 | h0
    · subst h0;rw [Nat.add_zero,Nat.mul_comm] at e;omega
    · exact h0
  have e2:(N:Int)=X*q+r:=by rw [←e];norm_cast
  symm
  rw [e2];rw [Int.ediv_eq_iff_of_pos (by omega)]
  constructor <;> push_cast <;> grind
set_option maxHeartbeats 800000 in
theorem ji0 (w:World) (n:Bool) (B:Nat) (v:Value) (l:List Nat) (k:Int) (h:Nums w B v l) (hl:l.length≤50000) (hk0 : -9223372036854775808≤k) (hk1:k≤9223372036854775807) :
    Calls Tryz.prog 99 #[.agg #[.bool n,v],.int .i64 k] w fun e w'=>Below w.heap.size w w'∧RetZ w.heap.size (ival n (val W l) / 2^clampN k) e w':=by
  have h0:=h;obtain ⟨A,cap,rfl,-,-,-,hc⟩:=h;obtain ⟨W0,hW,hbx,hrs,hB0,hs⟩:=jgt w 26 26 (.bool n) (.slice A l.length cap) (.bool false) (.slice none 0 0);have h1:=h0.up hB0;have HS:=hide hs;have hs2:w.heap.size+1<W0.heap.size:=by omega
  clear hs hc;obtain ⟨c0,c1,-,-⟩:=hbx.two
  go_enter Tryz.func99,Tryz.ntmps99
  go_upto_region 1 with (fail)
  rw [←hW];clear hW
  go_wp2_with fail
  refine (jlb _ B _ l k h1 (by omega) hk0 hk1).mono ?_;rintro e w1 ⟨hb1,u,d,rfl,hu,hd⟩
  have hdl:d.length≤l.length:=by
    rw [hd.len];exact Nat.lt_of_le_of_lt (Nat.div_le_self _ _) (L.val_lt l h0.lt)
  obtain ⟨A1,cap1,rfl⟩:=hu.form;have hbx1:=hbx.below hb1 hbx.lt;have hrs1:=hrs.below hb1 hrs.lt;have h2:=h1.below hb1;have s1:=hb1.size
  cases n with
  | false=>
    obtain ⟨e0,e1,-,-⟩:=hbx1.two
    go_wp2_with fail
    go_quiet (fail)
    go_wp2_with fail
    refine (jav _ false _ _ d (hu.drewN _)).mono ?_;rintro e w2 ⟨hb2,rfl⟩;have hrs2:=(hrs1.drewN _).below hb2 hrs1.lt;obtain ⟨g0,g1,g2,g3⟩:=hrs2.two
    go_wp2_with fail
    have s2:=hb2.size;have s0:=HS.out;simp at s2;refine bodyPost_ret (jah rfl _ _ _ _ _ _ rfl ((hrs2.set_ 0 _).set_ 1 _)) rfl ⟨below2 ((bdrewN (hB0.trans (hb1.mono (by omega))) _).trans (hb2.mono (by simp;omega))) (by omega) _ _,?_⟩;exact (retZ (by omega) (by omega) ((hu.drewN _).below hb2) hd _ _).of (jum _ _)
  | true=>
    obtain ⟨e0,e1,-,-⟩:=hbx1.two
    by_cases heq:val W l / 2^clampN k*2^clampN k=val W l
    · have HQ:=hide heq
      have HC:Hid (cmpN (val W l / 2^clampN k*2^clampN k) (val W l)=0):=hide (jjx heq);clear heq
      go_wp2_with fail
      go_region_held3 (fun w'=>w'.cell? ⟨w.heap.size,0,none⟩=some (.bool true)∧w'.cell? ⟨w.heap.size,1,none⟩=some (.slice A l.length cap)) (go_keep)
        (first
          | (go_at_call 138;refine (jd6 _ _ _ d k hu.drew (by omega) hk0 hk1).mono ?_;rintro e w2 ⟨hb2,u2,d2,rfl,hu2,hd2⟩
             obtain ⟨A2,cap2,rfl⟩:=hu2.form;have hbx2:=hbx1.drew.below hb2 hbx1.lt;have hrs2:=hrs1.drew.below hb2 hrs1.lt;have hu1':=hu.drew.below hb2;have h3:=h2.drew.below hb2;obtain ⟨f0,f1,-,-⟩:=hbx2.two)
          | (go_at_call 103;refine (jct _ _ B _ _ d2 l hu2 h3).mono ?_;rintro e w3 ⟨hdr,rfl⟩
             have hb3:=hdr.below w2.heap.size;rw [hd2.val,hd.val,HC.out];have hbx3:=hbx2.below hb3 hbx2.lt;have hrs3:=hrs2.below hb3 hrs2.lt;have hu3:=hu1'.below hb3;obtain ⟨f2,f3,-,-⟩:=hbx3.two))
      go_wp2_with fail
      refine (jav _ true _ _ d hu3).mono ?_;rintro e w4 ⟨hb4,rfl⟩;have hrs4:=hrs3.below hb4 hrs3.lt;obtain ⟨g0,g1,g2,g3⟩:=hrs4.two
      go_wp2_with fail
      have s2:=hb2.size;have s3:=hb3.size;have s4:=hb4.size;have s0:=HS.out;simp at s2;refine bodyPost_ret (jah rfl _ _ _ _ _ _ rfl ((hrs4.set_ 0 _).set_ 1 _)) rfl ⟨below2 ((((hB0.trans (hb1.mono (by omega))).drew.trans (hb2.mono (by simp;omega))).trans (hb3.mono (by omega))).trans (hb4.mono (by omega))) (by omega) _ _,?_⟩;exact (retZ (by omega) (by omega) (hu3.below hb4) hd _ _).of (jqj _ _ HQ.out)
    · have HQ:=hide heq
      obtain ⟨cc,HC,hcc⟩:∃cc,Hid (cmpN (val W l / 2^clampN k*2^clampN k) (val W l)=cc)∧(cc != 0)=true:=by
        refine ⟨_,hide rfl,?_⟩;rw [bne_iff_ne];unfold cmpN
        (repeat' split) <;> omega
      clear heq
      go_wp2_with fail
      go_region_held3 (fun w'=>w'.cell? ⟨w.heap.size,0,none⟩=some (.bool true)∧w'.cell? ⟨w.heap.size,1,none⟩=some (.slice A l.length cap)) (go_keep)
        (first
          | (go_at_call 138;refine (jd6 _ _ _ d k hu.drew (by omega) hk0 hk1).mono ?_;rintro e w2 ⟨hb2,u2,d2,rfl,hu2,hd2⟩
             obtain ⟨A2,cap2,rfl⟩:=hu2.form;have hbx2:=hbx1.drew.below hb2 hbx1.lt;have hrs2:=hrs1.drew.below hb2 hrs1.lt;have hu1':=hu.drew.below hb2;have h3:=h2.drew.below hb2;obtain ⟨f0,f1,-,-⟩:=hbx2.two)
          | (go_at_call 103;refine (jct _ _ B _ _ d2 l hu2 h3).mono ?_;rintro e w3 ⟨hdr,rfl⟩
             have hb3:=hdr.below w2.heap.size;rw [hd2.val,hd.val,HC.out];have hbx3:=hbx2.below hb3 hbx2.lt;have hrs3:=hrs2.below hb3 hrs2.lt;have hu3:=hu1'.below hb3;obtain ⟨f2,f3,-,-⟩:=hbx3.two))
      go_wp2_with fail
      refine (jhm _ _ 0 _ _ d [1] (hu3.alloc _) (Nums.one w3 1 1 rfl (by unfold W;omega)) (by omega) (by simp)).mono ?_;rintro e w4 ⟨hb4,u4,d4,rfl,hu4,hd4⟩;obtain ⟨A4,cap4,rfl⟩:=hu4.form;have hbx4:=(hbx3.alloc (.cells #[.int .u64 1] 22)).below hb4 (by have:=hbx3.lt;simp;omega);have hrs4:=(hrs3.alloc (.cells #[.int .u64 1] 22)).below hb4 (by have:=hrs3.lt;simp;omega);obtain ⟨k0,k1,-,-⟩:=hbx4.two;have e1v:L.val W [1]=1:=by simp [L.val]
      rw [hd.val,e1v] at hd4
      go_wp2_with fail
      refine (jav _ true _ _ d4 hu4).mono ?_;rintro e w5 ⟨hb5,rfl⟩;have hrs5:=hrs4.below hb5 hrs4.lt;obtain ⟨g0,g1,g2,g3⟩:=hrs5.two
      go_wp2_with fail
      have s2:=hb2.size;have s3:=hb3.size;have s4:=hb4.size;have s5:=hb5.size;have s0:=HS.out;simp at s2 s4;refine bodyPost_ret (jah rfl _ _ _ _ _ _ rfl ((hrs5.set_ 0 _).set_ 1 _)) rfl ⟨below2 ((((((hB0.trans (hb1.mono (by omega))).drew.trans (hb2.mono (by simp;omega))).trans (hb3.mono (by omega))).alloc (by omega) _).trans (hb4.mono (by simp;omega))).trans (hb5.mono (by omega))) (by omega) _ _,?_⟩;exact (retZ (by simp;omega) (by simp;omega) (hu4.below hb5) hd4 _ _).of (jqk _ _ HQ.out)
theorem jun (w:World) (n:Int) (hn0 : -9223372036854775808≤n) (hn1:n≤9223372036854775807) :
    Calls Tryz.prog 35 #[.int .i64 n] w fun e w'=>Below w.heap.size w w'∧RetZ w.heap.size n e w':=by
  obtain ⟨W0,hW⟩:∃W0,W0=w.alloc (.cells #[.bool false,.slice none 0 0] 26):=⟨_,rfl⟩;have hrs:Blk W0 w.heap.size 26 #[.bool false,.slice none 0 0]:=by rw [hW];exact Blk.new _ _ _
  have hB0:Below w.heap.size w W0:=by rw [hW];exact (Below.refl _ _).alloc (Nat.le_refl _) _
  have HS:Hid (W0.heap.size=w.heap.size+1):=hide (by rw [hW];simp)
  by_cases hneg:n<0
  · have e1:IntKind.u64.wrap (-(IntKind.u64.wrap n))=((n.natAbs:Nat):Int):=by
      rw [IntKind.wrap_u64,IntKind.wrap_u64];omega
    have E1:=hide e1;have hw:n.natAbs<W:=by unfold W;omega
    have HD:Hid (decide (n<0)=true):=hide (by simp [hneg]);clear e1
    go_enter Tryz.func35,Tryz.ntmps35
    go_upto_region 1 with (fail)
    rw [←hW];clear hW
    go_wp2_with fail
    refine (jc6 _ 0 _ [n.natAbs] (Nums.one W0 _ _ E1.out hw) (by simp)).mono ?_;rintro e w1 ⟨hb1,u,d,rfl,hu,hd⟩;obtain ⟨A1,cap1,rfl⟩:=hu.form;have hrs1:=(hrs.alloc _).below hb1 (by have:=hrs.lt;simp;omega);have e1v:L.val W [n.natAbs]=n.natAbs:=by simp [L.val]
    rw [e1v] at hd
    go_wp2_with fail
    refine (jav _ true _ _ d hu).mono ?_;rintro e w2 ⟨hb2,rfl⟩;have hrs2:=hrs1.below hb2 hrs1.lt;obtain ⟨g0,g1,g2,g3⟩:=hrs2.two
    go_wp2_with fail
    have s1:=hb1.size;have s2:=hb2.size;have s0:=HS.out;simp at s1;refine bodyPost_ret (jah rfl _ _ _ _ _ _ rfl ((hrs2.set_ 0 _).set_ 1 _)) rfl ⟨below2 (((hB0.alloc (by omega) _).trans (hb1.mono (by simp;omega))).trans (hb2.mono (by omega))) (by omega) _ _,?_⟩;refine RetZ.of (z:=ival true n.natAbs) (retZ (by simp;omega) (by simp;omega) (hu.below hb2) hd _ _) ?_;simp only [ival,if_true];omega
  · have e1:IntKind.u64.wrap n=((n.natAbs:Nat):Int):=by
      rw [IntKind.wrap_u64];omega
    have E1:=hide e1;have e2:n=((n.natAbs:Nat):Int):=by omega
    have E2:=hide e2;have hw:n.natAbs<W:=by unfold W;omega
    clear e1 e2
    go_enter Tryz.func35,Tryz.ntmps35
    go_upto_region 1 with (fail)
    rw [←hW];clear hW
    go_wp2_with fail
    refine (jc6 _ 0 _ [n.natAbs] (Nums.one W0 _ _ E2.out hw) (by simp)).mono ?_;rintro e w1 ⟨hb1,u,d,rfl,hu,hd⟩;obtain ⟨A1,cap1,rfl⟩:=hu.form;have hrs1:=(hrs.alloc _).below hb1 (by have:=hrs.lt;simp;omega);have e1v:L.val W [n.natAbs]=n.natAbs:=by simp [L.val]
    rw [e1v] at hd
    go_wp2_with fail
    refine (jav _ false _ _ d hu).mono ?_;rintro e w2 ⟨hb2,rfl⟩;have hrs2:=hrs1.below hb2 hrs1.lt;obtain ⟨g0,g1,g2,g3⟩:=hrs2.two
    go_wp2_with fail
    have s1:=hb1.size;have s2:=hb2.size;have s0:=HS.out;simp at s1;refine bodyPost_ret (jah rfl _ _ _ _ _ _ rfl ((hrs2.set_ 0 _).set_ 1 _)) rfl ⟨below2 (((hB0.alloc (by omega) _).trans (hb1.mono (by simp;omega))).trans (hb2.mono (by omega))) (by omega) _ _,?_⟩;refine RetZ.of (z:=ival false n.natAbs) (retZ (by simp;omega) (by simp;omega) (hu.below hb2) hd _ _) ?_;simp [ival];omega
end
end
end Go.Proofs.YtllgjggkchgpbaaGreat