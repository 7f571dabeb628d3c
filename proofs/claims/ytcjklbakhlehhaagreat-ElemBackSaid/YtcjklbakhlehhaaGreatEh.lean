/- V: hairlinelaw08: what must be in any case: reckoned. -/
import Derived.Test.YtcjklbakhlehhaaGreatEc
import Derived.Test.YtcjklbakhlehhaaGreatVx
import Derived.Test.YtcjklbakhlehhaaGreatEv
set_option linter.unusedVariables false
set_option linter.unusedSimpArgs false
namespace Go.Proofs.YtcjklbakhlehhaaGreat
open Go.RowKit Go.Shelf
namespace An
theorem tu0 {a b:Nat→Int} (ha:∀k,a k=0) (hb:∀k,b k=0):∀n,tu a b n=0
  | 0=>rfl
  | n+1=>by
    show (if n%2=1 then tu a b n - b n else tu a b n+a n)=0
    rw [tu0 ha hb n,ha,hb]
    split <;> rfl
theorem jjy (q:Int) (k:Nat):0<dSin q (k+1):=by
  unfold dSin;exact Int.mul_pos (Int.mul_pos (by omega) (by omega)) (Int.pow_pos (by omega))
theorem jp7 (K:Nat) (p:Int):vFloor K 0 p=0:=by unfold vFloor;split <;> simp
theorem jy8 (K:Nat):av K 0 0=0:=by
  have c:cM 0 0=0:=by unfold cM;rw [if_pos (.inr (.inr rfl))]
  unfold av sv;rw [c];exact Int.zero_mul _
theorem sin0:atLo 4 0 0 8=0∧atHi 4 0 0 8=0∧atK 4 0 0 8=0:=by
  have m0:nM 0 0=0:=by unfold nM cM;rw [if_pos (by omega)];exact je6
  have e0:nE 0 0=0:=by unfold nE cM cE;rw [if_pos (by omega)];exact jce _
  have a0:av 4000 0 0=0:=jy8 4000;have x0:xV 0 0=0:=by unfold xV;rw [m0,e0,a0]
  have v0:wV 0 0=0:=by unfold wV;rw [x0,if_neg (by omega)]
  have f0:∀p,vFloor 4000 0 p=0:=fun p=>jp7 4000 p
  have l0:wL 0 0 8=0:=by unfold wL;rw [v0,f0]
  have h0:wH 0 0 8=0:=by unfold wH vCeil;rw [v0,Int.neg_zero,f0];rfl
  have k0:wK 0 0 8=0:=by unfold wK;rw [l0,Int.zero_ediv]
  have t0:wT 0 0 8=0:=by unfold wT;rw [l0,k0,Int.mul_zero];rfl
  have g0:wG 0 0 8=0:=by unfold wG;rw [h0,k0,t0,Int.mul_zero];rfl
  have od:wOdd 0 0 0 8=false:=by unfold wOdd;rw [k0];rfl
  have fl:wFl 0 0 0 8=false:=by unfold wFl;rw [k0,x0];rfl
  have s1:sinLo 0 (8+40) (n8 8)=0:=by
    unfold sinLo;rw [Int.zero_mul];exact tu0 (fun k=>Px.rA0 _ _ k) (fun k=>Px.rB0 (fun k=>jjy _ k) _ k) _
  have s2:sinHi 0 (8+40) (n8 8)=0:=by
    unfold sinHi;rw [Int.zero_mul,tu0 (fun k=>Px.rB0 (fun k=>jjy _ k) _ k) (fun k=>Px.rA0 _ _ k),Px.rB0 (fun k=>jjy _ k)]
    rfl
  have wl:wLo 0 0 0 8=0:=by unfold wLo;rw [od,t0,g0,if_neg (by decide),s1];rfl
  have wh:wHi 0 0 0 8=0:=by unfold wHi;rw [od,t0,g0,if_neg (by decide),s2];rfl
  refine ⟨?_,?_,?_⟩
  · unfold atLo
    rw [if_neg (by omega),if_neg (by omega),if_neg (by omega),if_neg (by omega),show (4:Int) - 4=0 from rfl];unfold wA cutL;rw [fl,wl,if_neg (by decide),Int.zero_ediv]
  · unfold atHi
    rw [if_neg (by omega),if_neg (by omega),if_neg (by omega),if_neg (by omega),show (4:Int) - 4=0 from rfl];unfold wB cutH;rw [fl,wh,if_neg (by decide),Int.sub_zero,Int.zero_ediv]
    rfl
  · unfold atK
    rw [if_neg (by omega),if_neg (by omega)]
end An
namespace V
section
variable (h:Nat→List Int→Int)
def evX (f:Nat) (l:List Int):Option Int:=match f,l with
  | 80,[4,0,0,8]=>some 0
  | 81,[4,0,0,8]=>some 0
  | 82,[4,0,0,8]=>some 0
  | f,l=>evT f l
theorem j1v:EvOK (FS h) evX:=by
  intro f l z e;unfold evX at e
  split at e
  · cases e;exact An.sin0.1
  · cases e;exact An.sin0.2.1
  · cases e;exact An.sin0.2.2
  · exact joc (hB h) _ _ _ e
noncomputable def sh8B:List (Ctr Tryz.prog (FS h)):=andC (An.hS h)::cText (gR (hC (hD (hB h))))::(dy1 (hB h)).map (Ctr.fold (joc (hB h)))
noncomputable def sh8T:List (Ctr Tryz.prog (FS h)):=
  inl (el5 (hB h) (sh8B h)) 26 (by kernel_rfl) ::
  inl (el5 (hB h) (sh8B h)) 30 (by kernel_rfl) ::
  Ctr.fold (j1v h) (Ctr.lem (jae (by kernel_rfl)) (at4 (An.hS h))) ::
  el5 (hB h) (sh8B h)
def sh8S (f:FuncId):Spec:=dsp f [] 0 [] (.one (.sc (.b (.n 1))))
theorem sh08:checkF (P:=Tryz.prog) (sh8T h) R0 [] (drawX (sh8T h)) (sh8S 8)=true:=by kernel_rfl
noncomputable def c08:Ctr Tryz.prog (FS h):=Ctr.of (jvy _) follows_any (sh08 h)
end
end V
end Go.Proofs.YtcjklbakhlehhaaGreat
