/- Texts of the proof, joined (5). -/
import Derived.Test.YtmfcloapbgfhaaaGreatDoorA4
import Derived.Test.YtmfcloapbgfhaaaGreatDoorA1
import Derived.Test.YtmfcloapbgfhaaaGreatDoorA2
import Derived.Shelf.SlSortCmp.WholeK
import Derived.Test.YtmfcloapbgfhaaaGreatDoorProg
import Derived.Test.YtmfcloapbgfhaaaGreatDoorA0
import Derived.Deep.RegionHeld3
import Derived.Test.YtmfcloapbgfhaaaGreatDoorA3
import Derived.Shelf.SlSortCmp.NoneTotal
import Derived.Lib.RowBridge
set_option linter.unusedVariables false
set_option linter.unusedSimpArgs false
set_option linter.unusedSectionVars false
namespace Go.Proofs.YtmfcloapbgfhaaaGreatDoor
section
open Go.RowKit
open Go.Lib hiding intOf
theorem zV {n:Nat} (h:n<65536):(cZ (n:Int)).size≤1000:=by
 have h1:(cZ n).size=(itoa n).length:=by simp [cZ,ByteArray.size]
 have:=y5 n 9 (by omega);rw [h1,ol]; omega
section
variable {l:List aW} {V:Nat→ByteArray} {b0:aj} {x y z:aJ}
structure Ran (l:List aW) (V:Nat→ByteArray) (b0:aj) (x:aJ) (k:ah) (x':aJ):Prop where
 ok:Hf l V b0 x'
 ver:nN x.B x'.B
 busy:∀ k,dQ x'.Busy k=dQ x.Busy k
 psi:(x'.E=0∧psi l x'≤psi l x+1∧iA x'.B k=true)∨(x'.E≠0∧psi l x'≤psi l x)
def OY (l:List aW) (V:Nat→ByteArray) (b0:aj) (x:aJ) (N k:Nat):(List ah)×(List ByteArray)×Int×(List aN)×(List aw)×(List (ah×Bool))×(List ah)×Int×(List aW)×Int×(List aN)×(List aw)×(List (ah×ByteArray))×(List (ah×(List ah)))→Prop
 | (rd,ws,rev,ins,recs,busy,ran,e,rules,srev,sins,srecs,memo,seen)=>oZ l V b0 x (Ki rev ins recs busy ran e rules srev sins srecs memo seen)∧ws.length=rd.length∧(∀ q∈rd,o9 l q)∧rd.length≤N∧(e=0→rd.length=k)
def O6 (l:List aW) (V:Nat→ByteArray) (b0:aj) (x:aJ) (k:ah):Fl (Int×(List aN)×(List aw)×(List (ah×Bool))×(List ah)×Int×(List aW)×Int×(List aN)×(List aw)×(List (ah×ByteArray))×(List (ah×(List ah)))) aJ→Prop
 | .go (rev,ins,recs,busy,ran,e,rules,srev,sins,srecs,memo,seen)=>oZ l V b0 x (Ki rev ins recs busy ran e rules srev sins srecs memo seen)∧e≠0
 | .out x'=>Ran l V b0 x k x'
section
variable {urec:aJ→ah→Option aJ} {f n:Nat} {r:aW} (hR:bX l) (hD:Fh l (uB b0) V) (hb0:Rm b0.Inputs.length) (hu:OZ l V b0 urec f) (hn:l[n]? = some r) (hp:psi l x≤8) (hf:Jh l x.Busy<f)
include hR hD hb0 hu hn hp hf
theorem IL {k:Nat}:∀ s,OY l V b0 x r.Asks.length k s→Ok (gk urec vv (rk l n) s.1 s.2.1 s.2.2.1 s.2.2.2.1 s.2.2.2.2.1 s.2.2.2.2.2.1 s.2.2.2.2.2.2.1 s.2.2.2.2.2.2.2.1 s.2.2.2.2.2.2.2.2.1 s.2.2.2.2.2.2.2.2.2.1 s.2.2.2.2.2.2.2.2.2.2.1 s.2.2.2.2.2.2.2.2.2.2.2.1 s.2.2.2.2.2.2.2.2.2.2.2.2.1 s.2.2.2.2.2.2.2.2.2.2.2.2.2) fun y=>match y with
   | .go s'=>k<r.Asks.length∧OY l V b0 x r.Asks.length (k+1) s'
   | .out y=>O6 l V b0 x (rk l n) y:=by
 rintro⟨rd,ws,rev,ins,recs,busy,ran,e,rules,srev,sins,srecs,memo,seen⟩ ⟨h1,h2,h3,h4,h5⟩;dsimp only;have hl:=hR.high;have h3l:=(hR.each n r hn).asks;have hnl:=bc hn;have hE:=h1.ok;have hB:ki l (aj.mk rev ins recs):=hE.base;have hru:rules=l:=hE.sol.rules;unfold gk;refine aF (fun he=>?_) (fun he=>ar ⟨h1,by simpa using he⟩);obtain rfl:e=0:=by simpa using he
 have h5:=h5 rfl;obtain⟨t,ht,hcase⟩:=vF hR hn (ws:=ws) (by omega);refine aM (by rw [hru]; exact ht) ?_;unfold jp;rcases hcase with⟨e1,rfl⟩|⟨w,hw,rfl⟩
 ·simp only [cond_true];refine aM (hB.find hl _) ?_;obtain⟨m,hm1,hm2⟩:=wu hR hn (ls:=ws) (by omega);obtain⟨q,q1,q2,q3,q4⟩:=FM hB hl hnl (v:=cZ (uH r ws)) (by rw [hm1]; exact zV hm2) (reads:=rd) (by omega) h3;have hran:ran.length≤8:=by have h:=h1.psi; unfold psi at h hp; have h:ran.length+_≤x.Ran.length+_:=h; omega
  have hput:me recs q=some (qK recs q):=BN hB.recsA (hB.rm hl).1.1 (by have:=q2.reads; unfold Rm; omega);have hj2:Ok (eZ (rk l n) rd rev ins recs busy ran 0 rules srev sins srecs memo seen (cZ (uH r ws)) false) fun y=>match y with
   | .go s'=>k<r.Asks.length∧OY l V b0 x r.Asks.length (k+1) s'
   | .out y=>O6 l V b0 x (rk l n) y:=by
   unfold eZ;simp only [cond_false];refine aM q1 (aM hput (dM (dX (by simp; omega)) (ar ?_)));obtain⟨v1,v2⟩:=Kz hB q4;rw [q3] at v2;refine⟨⟨hE.sol,hB.put q2,hE.rev,hE.ins,hE.nd⟩,h1.ver.trans v1,h1.busy,.inl ⟨rfl,?_,v2⟩⟩;have hc:=Dh (l:=l) (m:=busy) v1 (fun _ e=>e) l.length;have hpp:=h1.psi;have hpp:ran.length+yD (fun n=>!iA (aj.mk rev ins recs) (rk l n)||dQ busy (rk l n)) l.length≤Go.Proofs.YtmfcloapbgfhaaaGreatDoor.psi l x:=hpp;show (ran++[rk l n]).length+yD (fun n=>!iA (aj.mk rev ins (qK recs q)) (rk l n)||dQ busy (rk l n)) l.length≤Go.Proofs.YtmfcloapbgfhaaaGreatDoor.psi l x+1;have hc:yD (fun n=>!iA (aj.mk rev ins (qK recs q)) (rk l n)||dQ busy (rk l n)) l.length≤yD (fun n=>!iA (aj.mk rev ins recs) (rk l n)||dQ busy (rk l n)) l.length:=hc;rw [cS];simp only [gH,sH];omega
  unfold jo;have hrl:=hB.nrec;have hrl:recs.length≤l.length:=hrl;refine aF (fun _=>?_) (fun _=>hj2);rw [decide_eq_false (by omega)];exact hj2
 ·simp only [cond_false];have hlt:=bc hw;obtain⟨_,hg⟩:=p8 hR hn hw ws;have hgood:o9 l (tf l w ws):=by
   rcases hg with⟨_,c,hc,_,e4⟩|⟨_,j,hj,_,e4⟩
   ·exact .inl ⟨c,hc,e4⟩
   ·exact .inr ⟨j,by have:=z8 hnl; omega,e4⟩
  refine aQ (hu _ (tf l w ws) h1.ok (fB h1.psi hp) hgood (by rw [ye h1.busy]; exact hf)) fun x' ⟨g1,g2⟩=>?_;refine aF (fun he=>?_) (fun he=>?_)
  ·have he:x'.E=0:=by simpa using he
   refine dM (dX (by simp; omega)) (aQ (Bo hR hD hb0 g1.ok.sol g1.ok.base hgood) fun y hy=>dM (dX (by simp; omega)) (ar ⟨by omega,(h1.trans g1).trans (oZ.base g1.ok g1.ok.base rfl rfl (nN.refl _) hy),?_,?_,?_,fun _=>?_⟩))
   ·rw [cS,cS,h2]; rfl
   ·intro q hq;rcases dz.1 hq with hq | hq
    ·exact h3 q hq
    ·rw [eG.1 hq]; exact hgood
   ·rw [cS]; simp; omega
   ·rw [cS,h5]; rfl
  ·have he:x'.E≠0:=by simpa using he
   exact ar ⟨by omega,h1.trans g1,h2,h3,h4,fun e0=>absurd e0 he⟩
theorem MZ (hx:Hf l V b0 x):Ok (gP urec vv x (rk l n)) (Ran l V b0 x (rk l n)):=by
 unfold gP;refine cc (OY l V b0 x r.Asks.length) (O6 l V b0 x (rk l n)) r.Asks.length ⟨oZ.refl hx,rfl,fun q hq=>absurd hq gn,cR _,fun _=>rfl⟩ (fun k s hk hI=>(IL hR hD hb0 hu hn hp hf s hI).mono fun y hy=>by cases y <;> exact hy) ?_;rintro (⟨rev,ins,recs,busy,ran,e,rules,srev,sins,srecs,memo,seen⟩ | x') hr
 ·exact ar ⟨hr.1.ok,hr.1.ver,hr.1.busy,.inr ⟨hr.2,hr.1.psi⟩⟩
 ·exact ar hr
end
theorem wU (m:List (ah×Bool)) (k j:ah):dQ (eH aL k true m) j=(decide (j=k)||dQ m j):=by
 unfold dQ;by_cases e:j=k
 ·subst e;rw [gB]; simp
 ·rw [lA e]; simp [e]
theorem Dd {m:List (ah×Bool)} (h:Nd m) (k j:ah):dQ (sN aL k m) j=(!decide (j=k)&&dQ m j):=by
 unfold dQ;rw [If jk j k h];by_cases e:j=k
 ·subst e;rw [Dy]; simp
 ·rw [H4 e]; simp [e]
section
variable {urec:aJ→ah→Option aJ} {f n:Nat} (hR:bX l) (hD:Fh l (uB b0) V) (hb0:Rm b0.Inputs.length) (hu:OZ l V b0 urec f) (hn:n<l.length) (hx:Hf l V b0 x) (hp:psi l x≤8) (hf:Jh l x.Busy<f+1)
include hR hD hb0 hu hn hx hp hf
theorem M6 (hv:iA x.B (rk l n)=false) (hbu:dQ x.Busy (rk l n)=false):Ok ((fv urec vv (aJ.mk x.S x.B (eH aL (rk l n) true x.Busy) x.Ran x.E) (rk l n)).bind fun u116=>cond u116.1 ((gP urec vv (aJ.mk (ap.mk u116.2.S.Rules (aj.mk u116.2.S.Base.Revision u116.2.S.Base.Inputs u116.2.S.Base.Records) u116.2.S.Memo u116.2.S.Seen) (aj.mk u116.2.B.Revision u116.2.B.Inputs u116.2.B.Records) u116.2.Busy u116.2.Ran u116.2.E) (rk l n)).bind fun u117=>fw (rk l n) u117.B.Revision u117.B.Inputs u117.B.Records u117.Busy u117.Ran u117.E u117.S.Rules u117.S.Base.Revision u117.S.Base.Inputs u117.S.Base.Records u117.S.Memo u117.S.Seen) (fw (rk l n) u116.2.B.Revision u116.2.B.Inputs u116.2.B.Records u116.2.Busy u116.2.Ran u116.2.E u116.2.S.Rules u116.2.S.Base.Revision u116.2.S.Base.Inputs u116.2.S.Base.Records u116.2.S.Memo u116.2.S.Seen))
  fun x'=>oZ l V b0 x x'∧(x'.E=0→pG x' (rk l n)=true):=by
 have hl:=hR.high;have hi:=bS hn;have hx1:Hf l V b0 (aJ.mk x.S x.B (eH aL (rk l n) true x.Busy) x.Ran x.E):=⟨hx.sol,hx.base,hx.rev,hx.ins,Nd.put jk hx.nd _ _⟩;have hp1:psi l (aJ.mk x.S x.B (eH aL (rk l n) true x.Busy) x.Ran x.E)≤psi l x:=by
  refine Nat.add_le_add_left (zy (fun m hm=>?_) _) _;rw [xI] at hm ⊢;rcases hm with hm | hm
  ·exact .inl hm
  ·rw [wU,xI,decide_eq_true_eq] at hm;rcases hm with hm | hm
   ·left; rw [hm,hv]; rfl
   ·exact .inr hm
 have hf1:Jh l (eH aL (rk l n) true x.Busy)<f:=by
  have:Jh l (eH aL (rk l n) true x.Busy)<Jh l x.Busy:=by
   refine B8 (i:=n) (fun m hm=>?_) (by rw [wU]; simp) (by rw [hbu]; rfl) _ hn;rw [wU,tF,BX] at hm;rw [hm.2]; rfl
  omega
 have fin:∀ {x2:aJ},Hf l V b0 x2→nN x.B x2.B→(∀ k,dQ x2.Busy k=(decide (k=rk l n)||dQ x.Busy k))→(psi l x2≤psi l x∨(psi l x2≤psi l x+1∧iA x2.B (rk l n)=true))→(x2.E=0→iA x2.B (rk l n)=true) →
   oZ l V b0 x ⟨x2.S,x2.B,sN aL (rk l n) x2.Busy,x2.Ran,x2.E⟩∧(x2.E=0→pG ⟨x2.S,x2.B,sN aL (rk l n) x2.Busy,x2.Ran,x2.E⟩ (rk l n)=true):=by
  intro x2 q1 q2 q3 q4 q5;have hbz:∀ k,dQ (sN aL (rk l n) x2.Busy) k=dQ x.Busy k:=fun k=>by
   rw [Dd q1.nd,q3];by_cases e:k=rk l n
   ·rw [e,hbu]; simp
   ·simp [e]
  have hm:∀ m,(!iA x2.B (rk l m)||dQ (sN aL (rk l n) x2.Busy) (rk l m))=true→(!iA x2.B (rk l m)||dQ x2.Busy (rk l m))=true:=fun m hm=>by
   rw [xI] at hm ⊢;rcases hm with hm | hm
   ·exact .inl hm
   ·rw [Dd q1.nd,so] at hm;exact .inr hm.2
  refine⟨⟨⟨q1.sol,q1.base,q1.rev,q1.ins,Nd.del jk q1.nd _⟩,q2,hbz,?_⟩,fun e0=>?_⟩
  ·rcases q4 with q4 | ⟨q4,q6⟩
   ·exact fB (Nat.add_le_add_left (zy hm _) _) q4
   ·have hlt:yD (fun m=>!iA x2.B (rk l m)||dQ (sN aL (rk l n) x2.Busy) (rk l m)) l.length<yD (fun m=>!iA x2.B (rk l m)||dQ x2.Busy (rk l m)) l.length:=B8 (i:=n) hm (by rw [q6,hbz,hbu]; rfl) (by rw [q3]; simp) l.length hn;have q4:x2.Ran.length+yD (fun m=>!iA x2.B (rk l m)||dQ x2.Busy (rk l m)) l.length≤Go.Proofs.YtmfcloapbgfhaaaGreatDoor.psi l x+1:=q4;show x2.Ran.length+yD (fun m=>!iA x2.B (rk l m)||dQ (sN aL (rk l n) x2.Busy) (rk l m)) l.length≤Go.Proofs.YtmfcloapbgfhaaaGreatDoor.psi l x;omega
  ·unfold pG;have:iA x2.B (rk l n)=true:=q5 e0;show (_||iA x2.B (rk l n))=true;rw [this,Bool.or_true]
 refine aQ (Ht hR hD hb0 hu hx1 (fB hp1 hp) hf1) fun u ⟨g1,g2⟩=>?_;have hbu2:∀ k,dQ u.2.Busy k=(decide (k=rk l n)||dQ x.Busy k):=fun k=>by rw [g1.busy,wU]
 refine aF (fun hc=>?_) (fun hc=>?_)
 ·refine aQ (MZ hR hD hb0 hu hi (x:=u.2) (fB g1.psi (fB hp1 hp)) (by rw [ye g1.busy]; exact hf1) g1.ok) fun x3 h3=>?_;refine ar (fin h3.ok (nN.trans g1.ver h3.ver) (fun k=>(h3.busy k).trans (hbu2 k)) ?_ fun e0=>?_)
  ·have:=fB g1.psi hp1;rcases h3.psi with⟨_,h,h'⟩|⟨_,h⟩
   ·exact .inr ⟨by omega,h'⟩
   ·exact .inl (by omega)
  ·rcases h3.psi with⟨_,_,h'⟩|⟨h,_⟩
   ·exact h'
   ·exact absurd e0 h
 ·exact ar (fin g1.ok g1.ver hbu2 (.inl (fB g1.psi hp1)) (g2 hc))
end
theorem Ln (hR:bX l) (hD:Fh l (uB b0) V) (hb0:Rm b0.Inputs.length):∀ f,OZ l V b0 (G8 f) f
 | 0=>fun x k _ _ _ h=>absurd h (by omega)
 | f+1=>by
  intro x k hx hp hk hf;have ih:=Ln hR hD hb0 f;have hl:=hR.high;show Ok (kN (G8 f) vv x k) _;unfold kN;refine aF (fun he=>ar ⟨oZ.refl hx,fun e0=>by rw [e0] at he; cases he⟩) (fun he=>?_);refine aM (oh k) (aF (fun hi=>ar ⟨oZ.refl hx,fun _=>?_⟩) (fun hi=>?_))
  ·unfold pG;rw [hi]; rfl
  ·obtain⟨n,hn,rfl⟩:∃ n,n<l.length∧k=rk l n:=by
    rcases hk with⟨c,_,rfl⟩ | h
    ·rw [wv] at hi; cases hi
    ·exact h
   refine aM (hx.base.find hl _) ?_;have hj3:iA x.B (rk l n)=false→Ok (fx (G8 f) vv x (rk l n) false) fun x'=>oZ l V b0 x x'∧(x'.E=0→pG x' (rk l n)=true):=fun hv=>by
    unfold fx;simp only [cond_false,ax];refine aF (fun hbu=>?_) (fun hbu=>M6 hR hD hb0 ih hn hx hp hf hv hbu);refine aM (gR _) (aF (fun hcy=>?_) (fun hcy=>?_))
    ·exact ar ⟨⟨⟨hx.sol,hx.base,hx.rev,hx.ins,hx.nd⟩,nN.refl _,fun _=>rfl,cX _⟩,fun e0=>by cases e0⟩
    ·refine ar ⟨⟨⟨hx.sol,hx.base,hx.rev,hx.ins,hx.nd⟩,nN.refl _,fun _=>rfl,cX _⟩,fun e0=>?_⟩;have hc:rJ (rk l n)=true:=by simpa using hcy
     have hbu:dQ x.Busy (rk l n)=true:=hbu;unfold pG;show (_||(dQ x.Busy (rk l n)&&rJ (rk l n))||_)=true;rw [hc,hbu]; simp
   unfold ku;refine aF (fun hf2=>?_) (fun hf2=>hj3 (by unfold iA; rw [hf2]; rfl));cases hver:((cM x.B.Records (rk l n)).1.Verified==x.B.Revision) with
   | true =>
    refine ar ⟨oZ.refl hx,fun _=>?_⟩;unfold pG iA;rw [hf2,show (cM x.B.Records (rk l n)).1.Verified=x.B.Revision by simpa using hver];simp
   | false=>exact hj3 (by unfold iA; rw [show decide ((cM x.B.Records (rk l n)).1.Verified=x.B.Revision)=false by simpa using hver,Bool.and_false])
end
end
section
open Go.RowKit
open Go.Lib hiding intOf
theorem fX {ρ:Type} {B:Int→Option (Fl Int ρ)} {r:ρ} (n:Nat) (hgo:∀ k,k<n→B (k:Int)=some (.go ((k+1:Nat):Int))) (hn:B (n:Int)=some (.out r)):loop B 0=some r :=
 vu (B:=B) (fun k=>(k:Int)) n rfl hgo hn
section
variable {l:List aW} {b:aj}
theorem GS (hl:l.length≤8) {rev:Int} (hrev:rev≤1000000) {r:aw} (h:ui l rev r):qo r=some true:=by
 obtain⟨n,hn,hk⟩:=h.key;have h3:=h.reads;have h4:=h.value;have h5:=h.low;have h6:=h.mid;have h7:=h.high;have h8:=h.cost;unfold qo;refine gr (fX (r:=Fl.go ()) r.Reads.length (fun k hk=>?_) ?_) ?_
 ·unfold lL;rw [dlt hk,cond_true,bW hk,ax,(h.good _ (m7 hk)).valid hl,ax,cJ (by omega)];rfl
 ·unfold lL;rw [bA]; rfl
 ·show lK r=some true;unfold lK;rw [hk,DR (by omega),ax,cond_true,xv,ax,decide_eq_true (by omega),decide_eq_true (by omega),decide_eq_true (by omega),decide_eq_true (by omega),decide_eq_true (by omega),decide_eq_true (by omega),decide_eq_true (by omega)];simp only [my,cond_true];rw [gR,ax];unfold cO;cases hd:r.Dirty with
  | false=>rfl
  | true =>
   have:=h.dirty hd;rw [hk] at this;rw [this]; rfl
theorem DZ (h:ki l b) (hl:l.length≤8):kK b.Records=some true:=by
 have hn:=h.nrec;unfold kK;refine gr (fX (r:=Fl.go ()) b.Records.length (fun k hk=>?_) ?_) ?_
 ·unfold ia;rw [dlt hk,cond_true,bW hk,ax,GS hl h.rev.2 (h.recs _ (m7 hk)),ax];have hj:eu (k:Int) false=some (.go ((k+1:Nat):Int)):=by unfold eu; rw [cJ (by omega)]; rfl
  simp only [dh,cond_false];rcases yr k with h0 | h0
  ·subst h0;exact hj
  ·rw [decide_eq_true (by omega),cond_true,show IntKind.i64.wrap ((k:Int)-1)=((k-1:Nat):Int) by rw [pX (by omega) (by omega)]; omega,bW (show k-1<b.Records.length by omega),ax,mm,ax];have:=gG.1 h.recsA (k-1) k (by omega) hk (by omega);rw [decide_eq_false (by omega)];exact hj
 ·unfold ia;rw [bA]; rfl
 ·show some (decide ((b.Records.length:Int)≤4000))=some true;rw [decide_eq_true (by omega)]
theorem CO (h:ki l b) (hl:l.length≤8):fc b=some true:=by
 have hn:=h.nrec;have hi:=h.nin;have hrev:=h.rev;unfold fc;refine gr (fX (r:=Fl.go ()) b.Inputs.length (fun k hk=>?_) ?_) ?_
 ·have hx:=h.ins _ (m7 hk);obtain⟨c,hc,hkey⟩:=hx.key;have h1:=hx.value;have h2:=hx.low;have h3:=hx.high;unfold eN;rw [dlt hk,cond_true,bW hk,ax,hkey,rF (by omega),ax];have hj:cH (k:Int) false=some (.go ((k+1:Nat):Int)):=by unfold cH; rw [cJ (by omega)]; rfl
  simp only [dh,cond_false];rw [nA,ax];simp only [dh,cond_false];rw [decide_eq_false (show ¬ (1073741824:Int)<(b.Inputs[k].Value.size:Int) by omega),decide_eq_false (show ¬ (b.Inputs[k].Changed:Int)<0 by omega),decide_eq_false (show ¬ (b.Revision:Int)<b.Inputs[k].Changed by omega)];rcases yr k with h0 | h0
  ·subst h0;exact hj
  ·rw [decide_eq_true (by omega),cond_true,show IntKind.i64.wrap ((k:Int)-1)=((k-1:Nat):Int) by rw [pX (by omega) (by omega)]; omega,bW (show k-1<b.Inputs.length by omega),ax,mm,ax];have:=gG.1 h.insA (k-1) k (by omega) hk (by omega);rw [hkey] at this;rw [decide_eq_false (by omega)];exact hj
 ·unfold eN;rw [bA]; rfl
 ·show ie b=some true;unfold ie;refine gr (fX (r:=Fl.go ()) b.Records.length (fun k hk=>?_) ?_) ?_
  ·have:=(h.recs _ (m7 hk)).high;unfold eM;rw [dlt hk,cond_true,bW hk,ax,decide_eq_false (by omega),cJ (by omega)]; rfl
  ·unfold eM;rw [bA]; rfl
  ·show ic b=some true;unfold ic;rw [decide_eq_true hrev.1,decide_eq_true (by omega),decide_eq_true (by omega),DZ h hl]; rfl
theorem IF (hl:l.length≤8) {k:ah} (hk:o9 l k):nV l k=some true:=by
 unfold nV;rw [hk.valid hl,ax,cond_true];rcases hk with⟨c,hc,rfl⟩|⟨n,hn,rfl⟩
 ·rfl
 ·have h1:∀ q,fT ((q:ah).Kind==q.Kind&&q.Text.toList==q.Text.toList)=some true:=fun q=>by unfold fT; simp
  rcases rh (l:=l) (n:=n) with⟨h,_⟩|⟨h,_⟩
  ·rw [show ((rk l n).Kind != 31)=false by rw [h]; rfl,cond_false,pD,ax,Aq (by omega),Ar hn (by omega),ax];exact h1 _
  ·rw [show ((rk l n).Kind != 31)=true by rw [h]; rfl,cond_true,show ((rk l n).Kind != 32)=false by rw [h]; rfl,cond_false,pD,ax,Aq (by omega),Ar hn (by omega),ax];exact h1 _
theorem B7 (hR:bX l) (h:ki l b) {goals:List ah} (hg:∀ k∈goals,o9 l k) (hn:goals.length≤32):lQ l b goals=some 0:=by
 have hl:=hR.high;unfold lQ;rw [GU hR.bnd,EL hR,ax];simp only [dh,cond_false];rw [CO h hl,ax,decide_eq_false (by omega)];simp only [dh,cond_false];refine gr (fX (r:=Fl.go ()) goals.length (fun k hk=>?_) ?_) rfl
 ·unfold lR;rw [dlt hk,cond_true,bW hk,ax,IF hl (hg _ (m7 hk)),ax,cJ (by omega)]; rfl
 ·unfold lR;rw [bA]; rfl
def QA (l:List aW) (V:Nat→ByteArray) (b0:aj) (k:Nat):Int×Int×(List aN)×(List aw)×(List (ah×Bool))×(List ah)×Int×(List aW)×Int×(List aN)×(List aw)×(List (ah×ByteArray))×(List (ah×(List ah)))→Prop
 | (i,rev,ins,recs,busy,ran,e,rules,srev,sins,srecs,memo,seen)=>i=(k:Int)∧Hf l V b0 (Ki rev ins recs busy ran e rules srev sins srecs memo seen)∧psi l (Ki rev ins recs busy ran e rules srev sins srecs memo seen)≤8
def QC (l:List aW) (V:Nat→ByteArray) (b0:aj):Int×(List aN)×(List aw)×(List (ah×Bool))×(List ah)×Int×(List aW)×Int×(List aN)×(List aw)×(List (ah×ByteArray))×(List (ah×(List ah)))→Prop
 | (rev,ins,recs,busy,ran,e,rules,srev,sins,srecs,memo,seen)=>Hf l V b0 (Ki rev ins recs busy ran e rules srev sins srecs memo seen)∧psi l (Ki rev ins recs busy ran e rules srev sins srecs memo seen)≤8
structure wi (l:List aW) (b b':aj):Prop where
 ok:ki l b'
 rev:b'.Revision=b.Revision
 ins:b'.Inputs=b.Inputs
theorem EU (hR:bX l) (h:ki l b) {goals:List ah} (hg:∀ k∈goals,o9 l k) (hn:goals.length≤32):Ok (mW uu l b goals) fun y=>wi l b y.1:=by
 have hl:=hR.high;have hb0:=(h.rm hl).2.1;have hD:=HK (uB b) hR;have hcp:=uF (h.rm hl).1 hb0;unfold mW;rw [hcp,ax,B7 hR h hg hn,ax];simp only [show ((0:Int) != 0)=false from rfl,cond_false];refine aM (v:=ap.mk l b [] []) rfl ?_;rw [hcp,ax];unfold mg;refine cc (QA l (Vd l (uB b)) b) (QC l (Vd l (uB b)) b) goals.length ?_ ?_ ?_
 ·refine⟨rfl,⟨⟨rfl,rfl,fun n _ v e=>(by cases e),fun c=>rfl⟩,h,rfl,rfl,tD⟩,?_⟩;have:=vj (fun n=>!iA b (rk l n)||dQ [] (rk l n)) l.length;show 0+yD (fun n=>!iA b (rk l n)||dQ [] (rk l n)) l.length≤8;omega
 ·rintro k ⟨i,rev,ins,recs,busy,ran,e,rules,srev,sins,srecs,memo,seen⟩ hk ⟨rfl,h1,h2⟩;dsimp only;unfold mh;refine aF (fun hlt=>?_) (fun _=>ar ⟨h1,h2⟩);have hlt:k<goals.length:=by have:=of_decide_eq_true hlt; omega
  have hnb:=vj (fun n=>!dQ busy (rk l n)) l.length;refine aM (bW hlt) (aQ (Ln hR hD hb0 40 _ _ h1 h2 (hg _ (m7 hlt)) (show yD (fun n=>!dQ busy (rk l n)) l.length<40 by omega)) fun x' ⟨g1,_⟩=>?_);exact ar ⟨hlt,cJ (by omega),g1.ok,fB g1.psi h2⟩
 ·rintro⟨rev,ins,recs,busy,ran,e,rules,srev,sins,srecs,memo,seen⟩ ⟨h1,h2⟩;dsimp only;unfold jP;refine aF (fun _=>ar ⟨h,rfl,rfl⟩) (fun _=>?_);have hr:ran.length≤8:=by
   have h2:ran.length+_≤8:=h2;omega
  obtain⟨m,hm,_⟩:=s6 (l:=ran) (by unfold Rm; omega);exact aM hm (ar ⟨h1.base,h1.rev,h1.ins⟩)
theorem J8 (hR:bX l) {d:List Int} {i:Int} (hd:cp d i):Ok (tv ⟨d,i⟩ l) fun y=>o9 l y.1∧cp y.2.L y.2.At:=by
 have hl:=hR.high;have h2l:=hR.low;unfold tv;refine aQ (dN hd (by omega) (by omega)) fun y ⟨_,_,d1⟩=>aF (fun _=>?_) (fun _=>?_)
 ·refine aQ (dN d1 (by omega) (by omega)) fun z ⟨z1,z2,d2⟩=>?_;obtain⟨c,hc⟩:∃ c:Nat,z.1=c:=⟨z.1.toNat,by omega⟩;rw [hc];exact aM (kq (by omega)) (ar ⟨.inl ⟨c,by omega,rfl⟩,d2⟩)
 ·refine aQ (dN d1 (by omega) (by omega)) fun z ⟨z1,z2,d2⟩=>aF (fun _=>?_) (fun _=>?_)
  ·refine aQ (dN d2 (by omega) (by omega)) fun w ⟨w1,w2,d3⟩=>?_;have e1:IntKind.i64.wrap ((l.length:Int)-1)=(l.length:Int)-1:=pX (by omega) (by omega);rw [e1,pX (by omega) (by omega)];obtain⟨c,hc⟩:∃ c:Nat,(l.length:Int)-1-w.1=c:=⟨((l.length:Int)-1-w.1).toNat,by omega⟩;rw [hc];exact aM (Ar (by omega) (by omega)) (ar ⟨.inr ⟨c,by omega,rfl⟩,d3⟩)
  ·refine aQ (dN d2 (by omega) (by omega)) fun w ⟨w1,w2,d3⟩=>?_;obtain⟨c,hc⟩:∃ c:Nat,w.1=c:=⟨w.1.toNat,by omega⟩;rw [hc];exact aM (Ar (by omega) (by omega)) (ar ⟨.inr ⟨c,by omega,rfl⟩,d3⟩)
theorem Do (hR:bX l) {d:List Int} {i:Int} (hd:cp d i) {most:Int} (h1:1≤most) (h2:most≤30):Ok (po ⟨d,i⟩ l most) fun y=>(∀ k∈y.1,o9 l k)∧y.1.length≤32∧cp y.2.L y.2.At:=by
 unfold po;refine aQ (dN hd h1 (by omega)) fun y ⟨y1,y2,d1⟩=>?_;rw [pX (by omega) (by omega)];refine cc (fun (k:Nat) (s:(List ah)×Int×(List Int)×Int)=>(∀ q∈s.1,o9 l q)∧s.1.length=k∧s.2.1=y.1+1-k∧cp s.2.2.1 s.2.2.2) (fun r=>(∀ q∈r.1,o9 l q)∧r.1.length≤32∧cp r.2.1 r.2.2) 31 ⟨fun q hq=>absurd hq gn,rfl,by simp,d1⟩ ?_ (fun r hr=>ar hr);rintro k ⟨gs,c,d,i⟩ hk ⟨g1,g2,g3,g4⟩;dsimp only at g1 g2 g3 g4 ⊢;unfold pK;refine aF (fun hc=>?_) (fun _=>ar ⟨g1,by show gs.length≤32; omega,g4⟩);have hc:=of_decide_eq_true hc;refine aQ (J8 hR g4) fun z ⟨z1,z2⟩=>dM (dX (by simp; omega)) (ar ⟨by omega,?_,by rw [cS,g2]; rfl,?_,z2⟩)
 ·intro q hq;rcases dz.1 hq with hq | hq
  ·exact g1 q hq
  ·rw [eG.1 hq]; exact z1
 ·show IntKind.i64.wrap (c-1)=_;rw [pX (by omega) (by omega)]; omega
end
end
section
open Go.RowKit
open Go.Lib hiding intOf
section
variable {l:List aW} {V:Nat→ByteArray} {b0 b:aj}
theorem B9 (hR:bX l):kO l=some l:=by
 have h8:=hR.high;unfold kO kw;refine gr (cD (xs:=l) (fun k=>(l.take k,(k:Int))) rfl (r:=l) (fun k x hx=>?_) ?_) rfl
 ·have hlt:=bc hx;have:=(hR.each k x hx).asks;unfold il;dsimp only;rw [dlt hlt,cond_true,aZ,hx,ax,dX (by simp; omega),dX (by rw [fe]; simp; omega),cJ (by omega),b7 hx];rfl
 ·unfold il;dsimp only;rw [bA,i6]; rfl
structure C0 (l:List aW) (f:bB):Prop where
 key:∃ n,n<l.length∧f.Key=rk l n
 at0:0≤f.At
 at1:f.At≤1000000
 reads:f.Reads.length≤3
 same:f.Answers.length=f.Reads.length
 good:∀ k∈f.Reads,o9 l k
theorem vP {fs:List bB} (h:∀ f∈fs,C0 l f) (hl:fs.length≤1000):eB fs=some fs:=by
 unfold eB cY;refine gr (cD (xs:=fs) (fun k=>(fs.take k,(k:Int))) rfl (r:=fs) (fun k x hx=>?_) ?_) rfl
 ·have hlt:=bc hx;have hf:=h x (a6 hx);have h1:=hf.reads;have h2:=hf.same;unfold ci;dsimp only;rw [dlt hlt,cond_true,aZ,hx,ax,dX (by simp; omega),dX (by simp; omega),dX (by rw [fe]; simp; omega),cJ (by omega),b7 hx];rfl
 ·unfold ci;dsimp only;rw [bA,i6]; rfl
theorem Il {fs:List bB} (hl:fs.length≤1000) (k:ah):Ok (r7 fs k) fun _=>True:=by
 unfold r7;refine cc (fun (i:Nat) (s:Int)=>s=i∧i≤fs.length) (fun _=>True) fs.length ⟨rfl,cR _⟩ ?_ ?_
 ·rintro i _ hi ⟨rfl,_⟩;unfold sF;refine aF (fun hlt=>?_) (fun _=>ar trivial);have hlt:i<fs.length:=by have:=of_decide_eq_true hlt; omega
  refine aM (bW hlt) (aF (fun _=>ar trivial) (fun _=>ar ⟨hlt,cJ (by omega),hlt⟩))
 ·rintro (_ | _) _ <;> exact ar trivial
theorem BF (hl:l.length≤8) (hb:ki l b) {fs:List bB} (hf:fs.length≤1000) {k:ah} (hk:o9 l k):Ok (mi b fs k) fun y=>y=true→∃ n,n<l.length∧k=rk l n:=by
 unfold mi;refine aM (oh k) (aF (fun _=>ar fun e=>by cases e) (fun hi=>?_));have hn:∃ n,n<l.length∧k=rk l n:=by
  rcases hk with⟨c,_,rfl⟩ | h
  ·rw [wv] at hi; cases hi
  ·exact h
 refine aQ (Il hf k) fun _ _=>aF (fun _=>ar fun _=>hn) (fun _=>aM (hb.find hl k) (aF (fun _=>ar fun _=>hn) (fun _=>ar fun _=>hn)))
theorem FL (hl:l.length≤8) (hb:ki l b) {fs:List bB} (hf:fs.length≤1000) {k:ah} (hk:o9 l k):Ok (pB b fs [] k) fun y=>y=1→∃ n,n<l.length∧k=rk l n:=by
 have hj:∀ g,Ok (k8 b fs [] k g) fun y=>y=1→∃ n,n<l.length∧k=rk l n:=fun g=>by
  unfold k8;refine aF (fun _=>ar fun e=>by cases e) (fun _=>aQ (BF hl hb hf hk) fun y hy=>aF (fun _=>ar fun e=>by cases e) (fun hn=>?_));have hn:=hy (by simpa using hn);refine aQ (Il (by simp) k) fun _ _=>aF (fun _=>ar fun _=>hn) (fun _=>aM (gR _) (aF (fun _=>ar fun _=>hn) (fun _=>ar fun _=>hn)))
 unfold pB;exact aM (gR _) (aF (fun _=>aQ (Il hf k) fun _ _=>hj _) (fun _=>hj _))
structure Fi (l:List aW) (V:Nat→ByteArray) (b0 b:aj) (N:Nat) (y:aj×(List bB)×(List ah)×Bool×Int×ap):Prop where
 lv:wi l b y.1
 fr:∀ f∈y.2.1,C0 l f
 len:y.2.1.length≤N+1
 wk:y.2.2.1.length≤1
 sol:tc l V b0 y.2.2.2.2.2
theorem IP {fs:List bB} (h:∀ f∈fs,C0 l f) {f:bB} (hf:C0 l f) (i:Nat):∀ g∈fs.set i f,C0 l g:=fun g hg=>by
 rcases List.mem_or_eq_of_mem_set hg with hg | rfl
 ·exact h g hg
 ·exact hf
theorem Eu {fs:List bB} (h:∀ f∈fs,C0 l f) {n:Nat} (hn:n<l.length):∀ g∈fs++[bB.mk (rk l n) false 0 [] []],C0 l g:=fun g hg=>by
 rcases dz.1 hg with hg | hg
 ·exact h g hg
 ·rw [eG.1 hg];exact⟨⟨n,hn,rfl⟩,nM _,by show (0:Int)≤1000000; omega,cR _,rfl,fun k hk=>absurd hk gn⟩
theorem GF (hR:bX l) (hD:Fh l (uB b0) V) (hb0:Rm b0.Inputs.length) {s:ap} (hs:tc l V b0 s) (hb:ki l b) {fs:List bB} (hf:∀ f∈fs,C0 l f) (h0:0<fs.length) (hlen:fs.length≤900) :
  Ok (oG vv s b fs []) (Fi l V b0 b fs.length):=by
 have hl:=hR.high;have hS:Gh b.Records:=(hb.rm hl).2.2;have hw:IntKind.i64.wrap ((fs.length:Int)-1)=((fs.length-1:Nat):Int):=by rw [pX (by omega) (by omega)]; omega
 have hlast:=bS (l:=fs) (i:=fs.length-1) (by omega);have hmem:=a6 hlast;generalize fs[fs.length-1]=f at hlast hmem;have hF:=hf f hmem;obtain⟨n,hn,hkey⟩:=hF.key;have hi:=bS hn;generalize l[n]=r at hi;have lv0:wi l b b:=⟨hb,rfl,rfl⟩;have htake:∀ g∈fs.take (fs.length-1),C0 l g:=fun g hg=>hf g (List.mem_of_mem_take hg);have hru:=hs.rules;have hr3:=hF.reads;have hsm:=hF.same;unfold oG;refine aM (uF (hb.rm hl).1 (hb.rm hl).2.1) (aM (vP hf (by omega)) ?_);rw [hw];refine aM (by rw [aZ]; exact hlast) (aM (pF (by omega)) (aM (hb.find hl _) ?_));unfold nv;refine aF (fun hrun=>?_) (fun hrun=>?_)
 ·obtain⟨t,ht,hcase⟩:∃ t,ey l (rk l n) f.Answers=some t∧((r.Asks.length≤f.Answers.length∧t=⟨true,cZ (uH r (f.Answers.take r.Asks.length)),⟨0,⟨#[]⟩⟩⟩)∨∃ x,r.Asks[f.Answers.length]? = some x∧t=⟨false,⟨#[]⟩,tf l x f.Answers⟩):=by
   rcases kP f.Answers.length r.Asks.length with h1 | h1
   ·exact⟨_,Ay hR hi (bS h1),.inr ⟨_,bS h1,rfl⟩⟩
   ·exact⟨_,ym hR hi h1,.inl ⟨h1,rfl⟩⟩
  refine aM (by rw [hru,hkey]; exact ht) ?_;unfold nr;rcases hcase with⟨_,rfl⟩|⟨x,hx,rfl⟩
  ·simp only [cond_true];obtain⟨m,hm1,hm2⟩:=wu hR hi (ls:=f.Answers.take r.Asks.length) (by rw [fe]; omega);obtain⟨q,q1,q2,q3,q4⟩:=FM hb hl hn (v:=cZ (uH r (f.Answers.take r.Asks.length))) (by rw [hm1]; exact zV hm2) hr3 hF.good;have hput:me b.Records q=some (qK b.Records q):=BN hb.recsA (hb.rm hl).1.1 (by have:=q2.reads; unfold Rm; omega);have hj2:Ok (iJ s b fs f (fs.take (fs.length-1)) (cZ (uH r (f.Answers.take r.Asks.length))) false) (Fi l V b0 b fs.length):=by
    unfold iJ;simp only [cond_false];refine aM (by rw [hkey]; exact q1) (aM hput (ar ⟨⟨hb.put q2,rfl,rfl⟩,htake,?_,cX _,hs⟩));show (fs.take (fs.length-1)).length≤fs.length+1;rw [fe]; omega
   have hrl:=hb.nrec;rw [decide_eq_false (by omega)];exact aF (fun _=>hj2) (fun _=>hj2)
  ·simp only [cond_false];have hlt:=bc hx;have h3:=(hR.each n r hi).asks;obtain⟨_,hg⟩:=p8 hR hi hx f.Answers;have hgood:o9 l (tf l x f.Answers):=by
    rcases hg with⟨_,c,hc,_,e4⟩|⟨_,j,hj,_,e4⟩
    ·exact .inl ⟨c,hc,e4⟩
    ·exact .inr ⟨j,by have:=z8 hn; omega,e4⟩
   refine aQ (FL hl hb (by omega) hgood) fun y hy=>?_;refine aF (fun h1=>?_) (fun _=>aF (fun _=>?_) (fun _=>aF (fun _=>?_) (fun _=>?_)))
   ·obtain⟨m,hm,e⟩:=hy (by simpa using h1);refine dM (dX (by simp; omega)) (ar ⟨lv0,?_,?_,cR _,hs⟩)
    ·have e:tf l x f.Answers=rk l m:=e;show ∀ g∈fs++[bB.mk (tf l x f.Answers) false 0 [] []],C0 l g;rw [e]; exact Eu hf hm
    ·show (fs++[_]).length≤_;rw [cS]; exact cX _
   ·exact ar ⟨lv0,hf,Nat.le_succ _,cR _,hs⟩
   ·exact ar ⟨lv0,hf,Nat.le_succ _,cR _,hs⟩
   ·refine dM (dX (by simp; omega)) (aQ (Bo hR hD hb0 hs hb hgood) fun z hz=>dM (dX (by simp; omega)) ?_);have hnew:C0 l (bB.mk f.Key f.Running f.At (f.Reads++[tf l x f.Answers]) (f.Answers++[z.1])):=by
     refine⟨hF.key,hF.at0,hF.at1,?_,?_,?_⟩
     ·show (f.Reads++[_]).length≤3;rw [cS]; simp; omega
     ·show (f.Answers++[_]).length=(f.Reads++[_]).length;rw [cS,cS,hsm]; rfl
     ·intro k hk;rcases dz.1 hk with hk | hk
      ·exact hF.good k hk
      ·rw [eG.1 hk]; exact hgood
    exact ar ⟨lv0,IP hf hnew _,by show (fs.set _ _).length≤_; rw [Ef]; exact Nat.le_succ _,cR _,hz⟩
 ·refine aQ (Lj hS b.Revision f.Key) fun g ⟨hg1,hg2,hg3⟩=>aM (Bt hS (by omega)) ?_;have hclen:(fV b.Records g g).length≤1000000:=by have:=sv hS g g; omega
  have hgm:Rm g.length:=by unfold Rm; omega
  have qd:∀ i f',C0 l f'→(∀ g∈fs.set i f',C0 l g)∧(fs.set i f').length≤fs.length+1:=fun i f' hf'=>⟨IP hf hf' i,by rw [Ef]; exact Nat.le_succ _⟩;have hrun1:C0 l (bB.mk f.Key true 0 f.Reads f.Answers):=⟨hF.key,nM _,by show (0:Int)≤1000000; omega,hF.reads,hF.same,hF.good⟩;have hj5:∀ q:Bool,(q=false→(cM b.Records f.Key).2=true)→Ok (iK vv s [] b fs f (fs.take (fs.length-1)) g (fV b.Records g g) q) (Fi l V b0 b fs.length):=fun q hq=>by
   unfold iK;refine aF (fun _=>ar ⟨lv0,(qd _ _ hrun1).1,(qd _ _ hrun1).2,cR _,hs⟩) (fun _=>?_);refine aF (fun _=>?_) (fun hat=>?_)
   ·refine aM (zb (hb.rm hl).1 (hb.rm hl).2.1 hgm false) (ar ⟨⟨hb.mark g false (fun e=>by cases e),rfl,rfl⟩,htake,?_,cR _,hs⟩);show (fs.take (fs.length-1)).length≤fs.length+1;rw [fe]; omega
   ·have hat:=of_decide_eq_false hat;have hat0:=hF.at0;obtain⟨a,ha⟩:∃ a:Nat,f.At=a:=⟨f.At.toNat,by omega⟩;have hlt:a<(fV b.Records g g).length:=by omega
    have hc:=bS hlt;generalize (fV b.Records g g)[a]=c at hc;have hgood:=hb.rdGood (yB (a6 hc));refine aM (by rw [ha,aZ]; exact hc) (aQ (FL hl hb (by omega) hgood) fun y hy=>?_);refine aF (fun h1=>?_) (fun _=>aF (fun _=>?_) (fun _=>aF (fun _=>?_) (fun _=>?_)))
    ·obtain⟨m,hm,e⟩:=hy (by simpa using h1);refine dM (dX (by simp; omega)) (ar ⟨lv0,?_,?_,cR _,hs⟩)
     ·show ∀ g∈fs++[bB.mk c.Read false 0 [] []],C0 l g;rw [e]; exact Eu hf hm
     ·show (fs++[_]).length≤_;rw [cS]; exact cX _
    ·exact ar ⟨lv0,hf,Nat.le_succ _,cR _,hs⟩
    ·exact ar ⟨lv0,hf,Nat.le_succ _,cR _,hs⟩
    ·refine aM (hb.find hl _) (aQ (Q:=fun z:Int×ap=>tc l V b0 z.2) (by unfold tY; exact aQ (zt hR hD hb0 hs hb hgood) fun z hz=>ar hz) fun z hz=>?_);refine aF (fun _=>?_) (fun _=>?_)
     ·have hw1:IntKind.i64.wrap (f.At+1)=f.At+1:=pX (by omega) (by omega);have hf':C0 l (bB.mk f.Key f.Running (IntKind.i64.wrap (f.At+1)) f.Reads f.Answers):=⟨hF.key,by show 0≤IntKind.i64.wrap (f.At+1); rw [hw1]; omega,by show IntKind.i64.wrap (f.At+1)≤_; rw [hw1]; omega,hF.reads,hF.same,hF.good⟩;exact ar ⟨lv0,(qd _ _ hf').1,(qd _ _ hf').2,cR _,hz⟩
     ·refine aM (gR _) (aF (fun hcy=>?_) (fun _=>?_))
      ·have hd:true=true→∀ q∈g,rJ q=true:=fun _ q hq=>by
        rcases hg3 with⟨_,rfl⟩|⟨_,h⟩
        ·rw [eG.1 hq]; exact hcy
        ·exact (Im (h q hq)).1
       exact aM (zb (hb.rm hl).1 (hb.rm hl).2.1 hgm true) (ar ⟨⟨hb.mark g true hd,rfl,rfl⟩,(qd _ _ hrun1).1,(qd _ _ hrun1).2,cR _,hz⟩)
      ·exact ar ⟨lv0,(qd _ _ hrun1).1,(qd _ _ hrun1).2,cR _,hz⟩
  have hj6:∀ q:Bool,Ok (iL vv s [] b fs f (fs.take (fs.length-1)) (cM b.Records f.Key).2 (cM b.Records f.Key).1.Dirty g (fV b.Records g g) q) (Fi l V b0 b fs.length):=fun q=>by
   unfold iL;refine aF (fun _=>ar ⟨lv0,htake,?_,cR _,hs⟩) (fun _=>aF (fun _=>hj5 true (fun e=>by cases e)) (fun hh=>hj5 _ (fun _=>by simpa using hh)));show (fs.take (fs.length-1)).length≤fs.length+1;rw [fe]; omega
  exact aF (fun _=>hj6 _) (fun _=>hj6 _)
end
end
section
set_option maxRecDepth 100000
set_option maxHeartbeats 4000000
open Go.RowKit
noncomputable section
def pR (b:LR):Option LR:=some (b)
def mL (b:Int) (c:LR):Option (Fl (LR×Int) (LR)):=some (.go (c,IntKind.i64.wrap (b+1)))
def mM (f:LR) (e:ah) (d:LR) (c:Int):Option (Fl (LR×Int) (LR)):=cond (decide (c<(f.length:Int))) ((bu f c).bind fun b=>cond (!(b.Key.Kind==e.Kind&&b.Key.Text.toList==e.Text.toList)) (gd (bH (d.length+([b]).length)) <| mL c (d++([b]))) (mL c d)) (some (.out d))
def pv (c:LR) (b:ah):Option LR:=(loop (fun s:LR×Int=>mM c b s.1 s.2) (([]:List aw),0)).bind fun r=>pR r
theorem xh (T:Nat→Prop) (W0:World) (hT:TW T W0) (e:LR) (d:ah) (r:Value) (G:aE aa T W0 r e) (y:LR) (hM:pv e d=some y):bj aP No 91 [r,.agg (aV d).toArray] W0 (fun v w'=>∃ (D:Value) (qE:bv),v=D∧gg aa T W0 w' [aS D qE] 84 D qE y):=by
 refine en Tryz.func91 Tryz.ntmps91 hT fun a hS=>?_;replace hS:=hS.fS (aE.dn G);unfold pv at hM;refine ai hS fun a hS=>?_;refine kb hS fun g N a w hk hS=>?_;refine ai hS fun a hS=>?_;refine aK (J:=fun a w=>∃ (m:LR) (j:Value) (h:LV),St W0 No T 24 [(5,j)] [aS j h] [an aa h m] a w∧pR m=some y) ?_ ?_
 ·skip;refine ai hS fun a hS=>?_;replace hS:=hS.nilRow aa 84 (by decide);obtain⟨S,F,hMo1⟩:=bd hM;refine bF _ (fun s a w=>∃ (f:LR) (c:Int) (o:Value) (k:LV),(f,c)=s∧St W0 No T 24 [(3,pt g 0),(5,o),(8,r),(9,al (e.length:Int)),(10,al c)] [aS o k,.box g (aV d) 44] [an aa k f,aR aa r e] a w) F ⟨_,_,_,_,rfl,hS.mt [0,1] [0,1]⟩ ?_;rintro s a w E ⟨f,c,o,k,rfl,hS⟩ hM hf1;have hM:mM e d f c=some E:=hM;unfold mM at hM;refine ai hS fun a hS=>?_;refine aD ?_;rcases cd hM with⟨z,hM⟩|⟨z,hM⟩
  ·refine ai hS fun a hS=>?_;refine aK (J:=fun a w=>∃ (n:LR) (p:Value) (l:LV),St W0 No T 24 [(3,pt g 0),(5,p),(8,r),(9,al (e.length:Int)),(10,al c)] [aS p l,.box g (aV d) 44] [an aa l n,aR aa r e] a w∧mL c n=some E) ?_ ?_
   ·skip;refine ai hS fun a hS=>?_;obtain⟨b,t,hM⟩:=bd hM;refine wl rfl (bm (R:=aa) hS qB m5 rfl rfl 1 rfl t rfl fun H P L A a hS=>?_);obtain⟨q,rfl,u⟩:=A;replace hS:=hS.fS u;refine ai hS fun a hS=>?_;refine ka hS gV fun I O a w hk hS=>?_;refine go hS fun a w hS=>?_;refine wl rfl (ky (v:=.bool (!(b.Key.Kind==d.Kind&&b.Key.Text.toList==d.Text.toList))) hS (zM hS rfl rfl) rfl rfl fun a hS=>?_);refine ai hS fun a hS=>?_;rcases cd hM with⟨B,hM⟩|⟨B,hM⟩
    ·refine ai hS fun a hS=>?_;refine wl rfl (a8 (ps:=[(0,.tmp 19)]) hS tp gV (zl:=[al 0,aO bI,aO bI,.slice none 0 0,al 0,al 0,al 0,.bool false]) (by kernel_rfl) rfl (us:=[(br b q)]) ⟨rfl,trivial⟩ (ws:=(br b q)) rfl rfl rfl rfl fun K a w hk hS=>?_);replace hS:=(hS.lit (R:=aa) (us:=(br b q)) (xs:=[b]) 0 rfl (by decide) (aA.one_ (R:=aa) (x:=b) (⟨_,rfl,(hS.get 0 rfl)⟩)) rfl rfl).freeze (R:=aa) 0 rfl 0 rfl;obtain⟨C,hM⟩:=be hM;refine wl rfl (bM (R:=aa) (xs:=f) (ys:=[b]) hS tp (by decide) (by decide) rfl rfl 1 rfl 4 rfl 0 rfl C rfl fun Q M a w hk hS=>?_);exact fz
    exact fz
   rintro a w ⟨n,p,l,hS,hM⟩;unfold mL at hM;exact fz
  exact fz
 rintro a w ⟨m,j,h,hS,hM⟩;unfold pR at hM;refine ai hS fun a hS=>?_;cases hM
 refine aI hS rfl (aq hS rfl aH) ?_;exact⟨j,h,rfl,hS.retOwn ⟨.inr (a6 (i:=0) rfl),trivial⟩ 0 rfl 0 rfl⟩
def qM (b:aj) (c:LR):Option aj:=some ((aj.mk b.Revision b.Inputs c))
def nn (c:Int) (b:LR):Option (Fl (Int×LR) (LR)):=some (.go (IntKind.i64.wrap (c+1),b))
def nq (e:dB) (b:Int) (c:LR):Option (Fl (Int×LR) (LR)):=cond (decide (b<(e.Stack.length:Int))) ((bu e.Stack b).bind fun d=>(cN d.Key).bind fun f=>cond f ((pv c d.Key).bind fun g=>nn b g) (nn b c)) (some (.out c))
def oF (c:dB):Option aj:=(dG c.Base).bind fun b=>(loop (fun s:Int×LR=>nq c s.1 s.2) (0,b.Records)).bind fun r=>qM b r
theorem Ah (T:Nat→Prop) (W0:World) (hT:TW T W0) (b:dB) (Z:Value) (v2:Value) (v3:Value) (v4:Value) (u:Value) (v6:Value) (S:aE aC T W0 Z b.Rules) (U:aE ae T W0 v2 b.Base.Inputs) (V:aE aa T W0 v3 b.Base.Records) (W:aE ac T W0 v4 b.Goals) (X:aE az T W0 u b.Stack) (Y:aE ac T W0 v6 b.Ran) (y:aj) (hM:oF b=some y):bj aP No 58 [.agg (vO b Z v2 v3 v4 u v6).toArray] W0 (fun v w'=>∃ (C:Value) (xK:bv) (D:Value) (rG:bv),v = .agg (bf y C D).toArray∧gg ae T W0 w' [bh C xK,aS D rG] 69 C xK y.Inputs∧gg aa T W0 w' [bh C xK,aS D rG] 84 D rG y.Records∧(∀ k,C.ownBlock=some k→D.ownBlock≠some k)):=by
 refine en Tryz.func58 Tryz.ntmps58 hT fun a hS=>?_;replace hS:=(((((hS.fS (aE.dn S)).fS (aE.dn U)).fS (aE.dn V)).fS (aE.dn W)).fS (aE.dn X)).fS (aE.dn Y);unfold oF at hM;refine ai hS fun a hS=>?_;refine kb hS fun a4 ak a w hk hS=>?_;refine ka hS mo fun f ao a w hk hS=>?_;refine ai hS fun a hS=>?_;obtain⟨d,F,hM⟩:=bd hM;refine kc hS xP (dP _ _ hS.dlt b.Base _ _ (hS.get 4 rfl) (hS.get 3 rfl) _ F) fun _ w hR a hk hA=>?_;obtain⟨e,c,b4,ab,he,z,A,P⟩:=hR;obtain rfl:=he.symm;have hS:=uw hA z A P;refine ka hS mo fun g av a w hk hS=>?_;refine go hS fun a w hS=>?_;refine aK (J:=fun a w=>∃ (n:LR) (m:Value) (l:LV),St W0 No T 27 [(2,pt f 0),(3,pt g 0)] [.box f [al 0,.slice none 0 0,.slice none 0 0] 31,bh e c,aS m l,.box g (bf d e m) 31] [an ae c d.Inputs,an aa l n] a w∧qM d n=some y) ?_ ?_
 ·skip;refine ai hS fun a hS=>?_;obtain⟨r1,Q,hMo1⟩:=bd hM;refine bF _ (fun s a w=>∃ (h:Int) (j:LR) (r:Value) (p:LV),(h,j)=s∧St W0 No T 27 [(2,pt f 0),(3,pt g 0),(10,u),(11,al (b.Stack.length:Int)),(12,al h)] [.box f [al 0,.slice none 0 0,.slice none 0 0] 31,bh e c,aS r p,.box g (bf d e r) 31] [aR az u b.Stack,an ae c d.Inputs,an aa p j] a w) Q ⟨_,_,_,_,rfl,hS.mt [3,1,2,0] [3,1,0]⟩ ?_;rintro s a w O ⟨h,j,r,p,rfl,hS⟩ hM hf1;have hM:nq b h j=some O:=hM;unfold nq at hM;refine ai hS fun a hS=>?_;refine aD ?_;rcases cd hM with⟨L,hM⟩|⟨L,hM⟩
  ·refine ai hS fun a hS=>?_;refine aK (J:=fun a w=>∃ (o:LR) (t:Value) (q:LV),St W0 No T 27 [(2,pt f 0),(3,pt g 0),(10,u),(11,al (b.Stack.length:Int)),(12,al h)] [.box f [al 0,.slice none 0 0,.slice none 0 0] 31,bh e c,aS t q,.box g (bf d e t) 31] [aR az u b.Stack,an ae c d.Inputs,an aa q o] a w∧nn h o=some O) ?_ ?_
   ·skip;refine ai hS fun a hS=>?_;obtain⟨x,E,hM⟩:=bd hM;refine wl rfl (bm (R:=az) hS Av u7 rfl rfl 0 rfl E rfl fun a5 b1 af M a hS=>?_);obtain⟨b5,b6,rfl,I,K⟩:=M;replace hS:=(hS.fS I).fS K;refine ai hS fun a hS=>?_;refine ka hS tI fun a9 b0 a w hk hS=>?_;refine go hS fun a w hS=>?_;obtain⟨b2,G,hM⟩:=bd hM;refine kc hS xQ (c7 _ _ hS.dlt x.Key _ G) fun _ w hR a hk hA=>?_;obtain rfl:=hR;have hS:=bY hA;refine ai hS fun a hS=>?_;rcases cd hM with⟨N,hM⟩|⟨N,hM⟩
    ·refine ai hS fun a hS=>?_;replace hS:=hS.freeze (R:=aa) 3 rfl 5 rfl;obtain⟨b3,H,hM⟩:=bd hM;refine kc hS Of (xh _ _ hS.dlt j x.Key _ (hS.get 0 rfl) _ H) fun _ w hR a hk hA=>?_;obtain⟨b8,ag,he,B⟩:=hR;obtain rfl:=he.symm;have hS:=qD hA B;exact fz
    exact fz
   rintro a w ⟨o,t,q,hS,hM⟩;unfold nn at hM;exact fz
  exact fz
 rintro a w ⟨n,m,l,hS,hM⟩;unfold qM at hM;refine go hS fun a w hS=>?_;cases hM
 refine aI hS rfl (rC 0 hS) ?_;exact⟨e,c,m,l,rfl,hS.retOwn ⟨.inr (a6 (i:=1) rfl),⟨.inr (a6 (i:=2) rfl),trivial⟩⟩ 1 rfl 0 rfl,hS.retOwn ⟨.inr (a6 (i:=1) rfl),⟨.inr (a6 (i:=2) rfl),trivial⟩⟩ 2 rfl 1 rfl,(hS.apart2 1 rfl 2 rfl (by decide))⟩
def px (b:aw):Option Int:=some (IntKind.i64.wrap ((IntKind.i64.wrap ((IntKind.i64.wrap (16+(b.Key.Text.size:Int)))+(b.Value.size:Int)))+(IntKind.i64.wrap (8*(b.Reads.length:Int)))))
theorem tW (T:Nat→Prop) (W0:World) (hT:TW T W0) (b:aw) (d:Value) (c:aE ac T W0 d b.Reads) (y:Int) (hM:px b=some y):bj aP No 128 [.agg (br b d).toArray] W0 (fun v w'=>v=al y):=by
 refine en Tryz.func128 Tryz.ntmps128 hT fun a hS=>?_;replace hS:=hS.fS (aE.dn c);unfold px at hM;refine ai hS fun a hS=>?_;refine kb hS fun e f a w hk hS=>?_;exact fz
def oL (d:aw) (e:aw):Option Bool:=(px d).bind fun b=>(px e).bind fun c=>cond ((IntKind.i64.wrap (d.Cost*c):Int) != (IntKind.i64.wrap (e.Cost*b))) (some (decide ((IntKind.i64.wrap (d.Cost*c):Int)<(IntKind.i64.wrap (e.Cost*b))))) (cond (b != c) (some (decide (c<b))) ((jK d.Key e.Key).bind fun f=>some (decide (f<0))))
theorem Aj (T:Nat→Prop) (W0:World) (hT:TW T W0) (hLv:di T W0) (b:aw) (c:aw) (k:Value) (l:Value) (i:aE ac T W0 k b.Reads) (j:aE ac T W0 l c.Reads) (y:Bool) (hM:oL b c=some y):bj aP No 127 [.agg (br b k).toArray,.agg (br c l).toArray] W0 (fun v w'=>v = .bool y):=by
 refine en Tryz.func127 Tryz.ntmps127 hT fun a hS=>?_;replace hS:=((hS.fact bC (di.dn hLv)).fS (aE.dn i)).fS (aE.dn j);unfold oL at hM;refine ai hS fun a hS=>?_;refine kb hS fun m o a w hk hS=>?_;refine kb hS fun n p a w hk hS=>?_;refine ai hS fun a hS=>?_;refine aD ?_;refine dr [] hS fun w hQ hS=>?_;refine gE [0,2] hS fun a hS=>?_;obtain⟨q,d,hM⟩:=bd hM;refine ec 1 hS Hy (tW _ _ hS.dlt b _ (hS.get 1 rfl) _ d) fun _ w hR a hk hA=>?_;obtain rfl:=hR;have hS:=bY hA;obtain⟨r,e,hM⟩:=bd hM;refine ec 3 hS Hy (tW _ _ hS.dlt c _ (hS.get 0 rfl) _ e) fun _ w hR a hk hA=>?_;obtain rfl:=hR;have hS:=bY hA;refine gE [4,5] hS fun a hS=>?_;refine eD ?_;refine ai hS fun a hS=>?_;refine aD ?_;refine ai hS fun a hS=>?_;rcases cd hM with⟨g,hM⟩|⟨g,hM⟩
 ·exact fz
 refine ai hS fun a hS=>?_;rcases cd hM with⟨h,hM⟩|⟨h,hM⟩
 ·exact fz
 refine ai hS fun a hS=>?_;obtain⟨s,f,hM⟩:=bd hM;refine kc hS ED (lF _ _ hS.dlt (hS.get 2 rfl) b.Key c.Key _ f) fun _ w hR a hk hA=>?_;obtain rfl:=hR;have hS:=bY hA;exact fz
def sa (b:LR):Option LR:=some (b)
def oM (b:Int) (c:LR):Option (Fl (LR×Int) (LR)):=some (.go (c,IntKind.i64.wrap (b+1)))
def oN (d:LR) (g:Int) (c:aw) (e:Int):Option (Fl (LR×Int) (LR)):=(o0 d 0 e).bind fun b=>(o0 d e d.length).bind fun f=>gd (bH (([]:List aw).length+b.length)) <| gd (bH ((([]:List aw)++b).length+([c]).length)) <| gd (bH (((([]:List aw)++b)++([c])).length+f.length)) <| oM g (((([]:List aw)++b)++([c]))++f)
def oO (c:LR) (d:aw) (b:Int):Option (Fl (Int) (Int)):=cond (decide (b<(c.length:Int))) ((bu c b).bind fun e=>(oL e d).bind fun f=>cond f (some (.go (IntKind.i64.wrap (b+1)))) (some (.out b))) (some (.out b))
def oP (e:LR) (c:LR) (b:Int):Option (Fl (LR×Int) (LR)):=cond (decide (b<(e.length:Int))) ((bu e b).bind fun d=>(loop (fun s:Int=>oO c d s) 0).bind fun r=>oN c b d r) (some (.out c))
def qv (b:LR):Option LR:=(loop (fun s:LR×Int=>oP b s.1 s.2) (([]:List aw),0)).bind fun r=>sa r
theorem Bh (T:Nat→Prop) (W0:World) (hT:TW T W0) (hLv:di T W0) (e:LR) (o:Value) (b3:aE aa T W0 o e) (y:LR) (hM:qv e=some y):bj aP No 92 [o] W0 (fun v w'=>∃ (G:Value) (qE:bv),v=G∧gg aa T W0 w' [aS G qE] 84 G qE y):=by
 refine en Tryz.func92 Tryz.ntmps92 hT fun a hS=>?_;replace hS:=(hS.fact bC (di.dn hLv)).fS (aE.dn b3);unfold qv at hM;refine ai hS fun a hS=>?_;refine aK (J:=fun a w=>∃ (E:LR) (u:Value) (q:LV),St W0 No T 40 [(3,u)] [aS u q] [an aa q E,bC] a w∧sa E=some y) ?_ ?_
 ·skip;refine ai hS fun a hS=>?_;replace hS:=hS.nilRow aa 84 (by decide);obtain⟨r1,b1,hMo1⟩:=bd hM;refine bF _ (fun s a w=>∃ (f:LR) (d:Int) (m:Value) (g:LV),(f,d)=s∧St W0 No T 40 [(3,m),(7,o),(8,al (e.length:Int)),(9,al d)] [aS m g] [an aa g f,aR aa o e,bC] a w) b1 ⟨_,_,_,_,rfl,hS.mt [0] [0,1,2]⟩ ?_;rintro s a w f1 ⟨f,d,m,g,rfl,hS⟩ hM hf1;have hM:oP e f d=some f1:=hM;unfold oP at hM;refine ai hS fun a hS=>?_;refine aD ?_;rcases cd hM with⟨a1,hM⟩|⟨a1,hM⟩
  ·refine ai hS fun a hS=>?_;refine aK (J:=fun a w=>∃ (F:LR) (H:Value) (z:LV),St W0 No T 40 [(3,H),(7,o),(8,al (e.length:Int)),(9,al d)] [aS H z] [an aa z F,aR aa o e,bC] a w∧oM d F=some f1) ?_ ?_
   ·skip;refine ai hS fun a hS=>?_;obtain⟨b,O,hM⟩:=bd hM;refine wl rfl (bm (R:=aa) hS qB m5 rfl rfl 1 rfl O rfl fun b4 bt b8 a2 a hS=>?_);obtain⟨c,rfl,V⟩:=a2;replace hS:=hS.fS V;refine ai hS fun a hS=>?_;refine ka hS gV fun p bs a w hk hS=>?_;refine go hS fun a w hS=>?_;refine aK (J:=fun a w=>∃ (D:Int),St W0 No T 40 [(3,m),(5,pt p 0),(6,al D),(7,o),(8,al (e.length:Int)),(9,al d)] [aS m g,.box p (br b c) 84] [an aa g f,aR aa o e,aR ac c b.Reads,bC] a w∧oN f d b D=some f1) ?_ ?_
    ·skip;refine ai hS fun a hS=>?_;obtain⟨r2,b2,hMo2⟩:=bd hM;refine bF _ (fun s a w=>∃ (t:Int),t=s∧St W0 No T 40 [(3,m),(5,pt p 0),(6,al t),(7,o),(8,al (e.length:Int)),(9,al d)] [aS m g,.box p (br b c) 84] [an aa g f,aR aa o e,aR ac c b.Reads,bC] a w) b2 ⟨_,rfl,hS.mt [1,0] [2,3,0,4]⟩ ?_;rintro s a w f2 ⟨t,rfl,hS⟩ hM hf2;have hM:oO f b t=some f2:=hM;unfold oO at hM;refine aD ?_;refine aD ?_;refine dr [] hS fun w hQ hS=>?_;refine gE [0,1,2,3,4] hS fun a hS=>?_;rcases cd hM with⟨r,hM⟩|⟨r,hM⟩
     ·refine gE [5,6] hS fun a hS=>?_;obtain⟨A,P,hM⟩:=bd hM;obtain⟨X,ag,c0,b9,a3,a4,a5,a9⟩:=mD (R:=aa) hS qB m5 0 rfl 0 rfl P;obtain⟨N,rfl,W⟩:=a3;replace hS:=hS.fS W;refine y7 7 (v:=pt X ag) rfl (by kernel_rfl) (by kernel_rfl) (by kernel_rfl) rfl hQ hS (a9 rfl rfl) rfl rfl rfl r rfl rfl fun a hS=>?_;refine y7 (l:=[]) 8 (v:=.agg (br A N).toArray) rfl (by kernel_rfl) (by kernel_rfl) (by kernel_rfl) (by kernel_rfl) hQ hS (ce (k:=0) hS m5 0 rfl a4 a5 rfl bP (us:=(br A N)) rfl rfl (fun h=>by cases h)) rfl rfl rfl r rfl rfl fun a hS=>?_;refine gE [9] hS fun a hS=>?_;obtain⟨c1,U,hM⟩:=bd hM;refine cI (i:=10) rfl (by kernel_rfl) hS rfl rfl rfl r (bg hS NH rfl rfl (Aj _ _ hS.dlt (hS.get 4 rfl) A b _ _ (hS.get 0 rfl) (hS.get 3 rfl) _ U) fun _ w hR a hk hA=>⟨gf (hk),?_⟩);obtain rfl:=hR;have hS:=bY hA;refine gE [11] hS fun a hS=>?_;refine eD ?_;exact fz
     refine gE [5,6,7,8,9,10,11] hS fun a hS=>?_;refine eD ?_;exact fz
    rintro a w ⟨D,hS,hM⟩;unfold oN at hM;replace hS:=hS.nilRow aa 84 (by decide);refine dr [(3,.blk (Value.ownBlock (.slice none 0 0))),(6,.any),(10,.any)] hS fun w hQ hS=>?_;refine gE [0,1] hS fun a hS=>?_;obtain⟨n,Q,hM⟩:=bd hM;obtain⟨ak,I,ab⟩:=zF (R:=aa) hS qB m5 1 rfl 1 rfl Q;refine dy 2 (v:=ak) rfl (by kernel_rfl) (by kernel_rfl) (by kernel_rfl) rfl hQ hS (ab (k1:=.i64) rfl (.inr ⟨rfl,rfl⟩) (.inl ⟨_,rfl,rfl⟩)) rfl rfl rfl fun a hS=>?_;refine dy (l:=[.blk (Value.ownBlock (.slice none 0 0))]) 4 (v:=.agg (br b c).toArray) rfl (by kernel_rfl) (by kernel_rfl) (by kernel_rfl) (by kernel_rfl) hQ hS (eU hS rfl m5 2 rfl (jZ hS 2 rfl rfl 0 rfl rfl (by decide) bP) (us:=(br b c)) rfl rfl (fun h=>by cases h)) rfl rfl rfl fun a hS=>?_;refine gE [7,8] hS fun a hS=>?_;obtain⟨M,S,hM⟩:=bd hM;obtain⟨ao,K,af⟩:=zF (R:=aa) hS qB m5 1 rfl 1 rfl S;refine dy 9 (v:=ao) rfl (by kernel_rfl) (by kernel_rfl) (by kernel_rfl) rfl hQ hS (af (k2:=.i64) rfl (.inl ⟨_,rfl,rfl⟩) (.inr ⟨rfl,rfl⟩)) rfl rfl rfl fun a hS=>?_;obtain⟨L,hM⟩:=be hM;refine eh (i:=3) (j:=5) rfl rfl (by kernel_rfl) rfl rfl ?_ ?_
    ·skip;skip;replace hS:=hS.freeze (R:=aa) 1 rfl 1 rfl;replace hS:=hS.fS (I _ _ (hS.get 0 rfl));refine id (bM (R:=aa) (xs:=([]:List aw)) (ys:=n) hS tp (by decide) (by decide) rfl rfl 0 rfl 2 rfl 0 rfl L rfl fun c2 bb a w hk hS=>⟨mx rfl hk mE,?_⟩);refine e1 5 (a8 (ps:=[(0,.tmp 31)]) hS tp gV (zl:=[al 0,aO bI,aO bI,.slice none 0 0,al 0,al 0,al 0,.bool false]) (by kernel_rfl) rfl (us:=[(br b c)]) ⟨rfl,trivial⟩ (ws:=(br b c)) rfl rfl rfl rfl fun b5 a w hk hS=>⟨gf (hk),?_⟩);replace hS:=(hS.lit (R:=aa) (us:=(br b c)) (xs:=[b]) 0 rfl (by decide) (aA.one_ (R:=aa) (x:=b) (⟨_,rfl,(hS.get 6 rfl)⟩)) rfl rfl).freeze (R:=aa) 0 rfl 0 rfl;obtain⟨B,hM⟩:=be hM;refine e1 6 (bM (R:=aa) (xs:=(([]:List aw)++n)) (ys:=[b]) hS tp (by decide) (by decide) rfl rfl 0 rfl 2 rfl 0 rfl B rfl fun av Y a w hk hS=>⟨mx rfl hk vQ,?_⟩);replace hS:=hS.fS (K _ _ (hS.get 5 rfl));obtain⟨C,hM⟩:=be hM;refine e1 10 (bM (R:=aa) (xs:=((([]:List aw)++n)++([b]))) (ys:=M) hS tp (by decide) (by decide) rfl rfl 0 rfl 1 rfl 0 rfl C rfl fun b0 Z a w hk hS=>⟨mx rfl hk vQ,?_⟩);refine gE [11] hS fun a hS=>?_;refine eD ?_;exact⟨_,_,_,hS.mt [0] [0,10,12],hM⟩
    skip;refine id (a8 (ps:=[(0,.tmp 31)]) hS tp gV (zl:=[al 0,aO bI,aO bI,.slice none 0 0,al 0,al 0,al 0,.bool false]) (by kernel_rfl) rfl (us:=[(br b c)]) ⟨rfl,trivial⟩ (ws:=(br b c)) rfl rfl rfl rfl fun b6 a w hk hS=>⟨gf (hk),?_⟩);replace hS:=hS.freeze (R:=aa) 2 rfl 1 rfl;replace hS:=hS.fS (I _ _ (hS.get 0 rfl));refine e1 3 (bM (R:=aa) (xs:=([]:List aw)) (ys:=n) hS tp (by decide) (by decide) rfl rfl 1 rfl 2 rfl 0 rfl L rfl fun c3 bi a w hk hS=>⟨mx rfl hk mE,?_⟩);replace hS:=(hS.lit (R:=aa) (us:=(br b c)) (xs:=[b]) 0 rfl (by decide) (aA.one_ (R:=aa) (x:=b) (⟨_,rfl,(hS.get 6 rfl)⟩)) rfl rfl).freeze (R:=aa) 0 rfl 0 rfl;obtain⟨B,hM⟩:=be hM;refine e1 6 (bM (R:=aa) (xs:=(([]:List aw)++n)) (ys:=[b]) hS tp (by decide) (by decide) rfl rfl 0 rfl 2 rfl 0 rfl B rfl fun av Y a w hk hS=>⟨mx rfl hk vQ,?_⟩);replace hS:=hS.fS (K _ _ (hS.get 5 rfl));obtain⟨C,hM⟩:=be hM;refine e1 10 (bM (R:=aa) (xs:=((([]:List aw)++n)++([b]))) (ys:=M) hS tp (by decide) (by decide) rfl rfl 0 rfl 1 rfl 0 rfl C rfl fun b0 Z a w hk hS=>⟨mx rfl hk vQ,?_⟩);refine gE [11] hS fun a hS=>?_;refine eD ?_;exact⟨_,_,_,hS.mt [0] [0,10,12],hM⟩
   rintro a w ⟨F,H,z,hS,hM⟩;unfold oM at hM;exact fz
  exact fz
 rintro a w ⟨E,u,q,hS,hM⟩;unfold sa at hM;refine ai hS fun a hS=>?_;cases hM
 refine aI hS rfl (aq hS rfl aH) ?_;exact⟨u,q,rfl,hS.retOwn ⟨.inr (a6 (i:=0) rfl),trivial⟩ 0 rfl 0 rfl⟩
def r9 (b:Int):Option Int:=some (b)
def oK (d:LR) (c:Int) (b:Int):Option (Fl (Int×Int) (Int)):=cond (decide (b<(d.length:Int))) ((bu d b).bind fun e=>(px e).bind fun f=>some (.go (IntKind.i64.wrap (c+f),IntKind.i64.wrap (b+1)))) (some (.out c))
def qu (b:LR):Option Int:=(loop (fun s:Int×Int=>oK b s.1 s.2) (0,0)).bind fun r=>r9 r
theorem Bg (T:Nat→Prop) (W0:World) (hT:TW T W0) (d:LR) (i:Value) (n:aE aa T W0 i d) (y:Int) (hM:qu d=some y):bj aP No 93 [i] W0 (fun v w'=>v=al y):=by
 refine en Tryz.func93 Tryz.ntmps93 hT fun a hS=>?_;replace hS:=hS.fS (aE.dn n);unfold qu at hM;refine ai hS fun a hS=>?_;refine aK (J:=fun a w=>∃ (e:Int),St W0 No T 18 [(3,al e)] [] [] a w∧r9 e=some y) ?_ ?_
 ·skip;refine ai hS fun a hS=>?_;obtain⟨A,m,hMo1⟩:=bd hM;refine bF _ (fun s a w=>∃ (c:Int) (b:Int),(c,b)=s∧St W0 No T 18 [(3,al c),(6,i),(7,al (d.length:Int)),(8,al b)] [] [aR aa i d] a w) m ⟨_,_,rfl,hS.mt [] [0]⟩ ?_;rintro s a w r ⟨c,b,rfl,hS⟩ hM hf1;have hM:oK d c b=some r:=hM;unfold oK at hM;refine ai hS fun a hS=>?_;refine aD ?_;rcases cd hM with⟨k,hM⟩|⟨k,hM⟩
  ·refine ai hS fun a hS=>?_;refine aD ?_;refine ai hS fun a hS=>?_;obtain⟨j,f,hM⟩:=bd hM;refine wl rfl (bm (R:=aa) hS qB m5 rfl rfl 0 rfl f rfl fun o u q l a hS=>?_);obtain⟨z,rfl,h⟩:=l;replace hS:=hS.fS h;refine ai hS fun a hS=>?_;refine ka hS gV fun p t a w hk hS=>?_;refine go hS fun a w hS=>?_;obtain⟨x,g,hM⟩:=bd hM;refine kc hS Hy (tW _ _ hS.dlt j _ (hS.get 0 rfl) _ g) fun _ w hR a hk hA=>?_;obtain rfl:=hR;have hS:=bY hA;exact fz
  exact fz
 rintro a w ⟨e,hS,hM⟩;unfold r9 at hM;exact fz
def oI (b:aj) (c:LK) (d:LR):Option (aj×LK×Int):=some (((aj.mk b.Revision b.Inputs d),c,0))
def lT (b:Int) (c:LK) (d:LR):Option (Fl (LK×Int×LR) (LK×LR)):=some (.go (c,IntKind.i64.wrap (b+1),d))
def jR (c:LK) (d:Int) (e:LR) (b:aw) (f:Bool):Option (Fl (LK×Int×LR) (LK×LR)):=cond f ((pv e b.Key).bind fun g=>gd (bH (c.length+([b.Key]).length)) <| lT d (c++([b.Key])) g) (lT d c e)
def oJ (f:Int) (h:LK) (g:LR) (e:LK) (b:Int) (c:LR):Option (Fl (LK×Int×LR) (LK×LR)):=cond (decide (b<(g.length:Int))) ((bu g b).bind fun d=>(qu c).bind fun i=>cond (decide (f<i)) ((pq h d.Key).bind fun j=>jR e b c d (!(j))) (jR e b c d false)) (some (.out (e,c)))
def qt (c:aj) (b:Int) (e:LK):Option (aj×LK×Int):=(fc c).bind fun g=>cond (!(g)) (some (((aj.mk 0 ([]:List aN) ([]:List aw)),([]:List ah),42))) (cond (decide (b<0)) (some (((aj.mk 0 ([]:List aN) ([]:List aw)),([]:List ah),2))) (cond (decide ((1073741824:Int)<b)) (some (((aj.mk 0 ([]:List aN) ([]:List aw)),([]:List ah),2))) ((dG c).bind fun d=>(qv c.Records).bind fun f=>(loop (fun s:LK×Int×LR=>oJ b e f s.1 s.2.1 s.2.2) (([]:List ah),0,d.Records)).bind fun r=>oI d r.1 r.2)))
theorem Bf (T:Nat→Prop) (W0:World) (hT:TW T W0) (t:aj) (d:Int) (g:LK) (v1:Value) (v2:Value) (G:Value) (hD:ze T W0 []) (bi:aE ae (dT T []) W0 v1 t.Inputs) (bl:aE aa (dT T []) W0 v2 t.Records) (bs:aE ac (dT T []) W0 G g) (hLv:di (dT T []) W0) (y:aj×LK×Int) (hM:qt t d g=some y):bj aP (MD []) 59 [.agg (bf t v1 v2).toArray,al d,G] W0 (fun v w'=>∃ (v4:Value) (wq:bv) (v6:Value) (xR:bv) (v8:Value) (L0:bv),v = .tuple #[.agg (bf y.1 v4 v6).toArray,v8,al y.2.2]∧aA ae (dT T [bh v4 wq,aS v6 xR,ay v8 L0]) w' wq y.1.Inputs∧aA aa (dT T [bh v4 wq,aS v6 xR,ay v8 L0]) w' xR y.1.Records∧aA ac (dT T [bh v4 wq,aS v6 xR,ay v8 L0]) w' L0 y.2.1∧qG W0 w' [] [bh v4 wq,aS v6 xR,ay v8 L0]):=by
 refine lx (c:=_) Tryz.func59 rfl T 62 Tryz.ntmps59 hT rfl hD fun a hS=>?_;replace hS:=(((hS.fact bC hLv).fS bi).fS bl).fS bs;unfold qt at hM;refine ai hS fun a hS=>?_;refine kb hS fun c1 cb a w hk hS=>?_;refine ka hS mo fun l ch a w hk hS=>?_;refine ai hS fun a hS=>?_;refine aD ?_;refine ai hS fun a hS=>?_;obtain⟨d2,ag,hM⟩:=bd hM;refine kc hS HA (mQ _ _ hS.dlt (hS.get 3 rfl) t _ _ (hS.get 2 rfl) (hS.get 1 rfl) _ ag) fun _ w hR a hk hA=>?_;obtain rfl:=hR;have hS:=bY hA;refine ai hS fun a hS=>?_;rcases cd hM with⟨av,hM⟩|⟨av,hM⟩
 ·refine ai hS fun a hS=>?_;refine qy hS (bq (ps:=[]) hS Km mo rfl (us:=[]) trivial (ws:=[al 0,.slice none 0 0,.slice none 0 0]) rfl) fun a hS=>?_;refine go hS fun a w hS=>?_;replace hS:=((hS.nilRow ae 69 (by decide)).nilRow aa 84 (by decide)).nilRow ac 44 (by decide);cases hM
  refine aI hS Tryz.results59 (bn hS rfl 3 rfl fy rfl (fun h=>by cases h) (aq hS rfl (aq hS rfl aH))) ?_;have hZ:=hS.sl [2,1,0] [2,1,0];exact⟨(.slice none 0 0),[],(.slice none 0 0),[],(.slice none 0 0),[],rfl,(hZ.get 0 rfl),(hZ.get 1 rfl),(hZ.get 2 rfl),hZ.dnew⟩
 refine ai hS fun a hS=>?_;refine iY ?_;refine ai hS fun a hS=>?_;rcases cd hM with⟨b0,hM⟩|⟨b0,hM⟩
 ·refine ai hS fun a hS=>?_;refine qy hS (bq (ps:=[]) hS Km mo rfl (us:=[]) trivial (ws:=[al 0,.slice none 0 0,.slice none 0 0]) rfl) fun a hS=>?_;refine go hS fun a w hS=>?_;replace hS:=((hS.nilRow ae 69 (by decide)).nilRow aa 84 (by decide)).nilRow ac 44 (by decide);cases hM
  refine aI hS Tryz.results59 (bn hS rfl 3 rfl fy rfl (fun h=>by cases h) (aq hS rfl (aq hS rfl aH))) ?_;have hZ:=hS.sl [2,1,0] [2,1,0];exact⟨(.slice none 0 0),[],(.slice none 0 0),[],(.slice none 0 0),[],rfl,(hZ.get 0 rfl),(hZ.get 1 rfl),(hZ.get 2 rfl),hZ.dnew⟩
 refine ai hS fun a hS=>?_;rcases cd hM with⟨b1,hM⟩|⟨b1,hM⟩
 ·refine ai hS fun a hS=>?_;refine qy hS (bq (ps:=[]) hS Km mo rfl (us:=[]) trivial (ws:=[al 0,.slice none 0 0,.slice none 0 0]) rfl) fun a hS=>?_;refine go hS fun a w hS=>?_;replace hS:=((hS.nilRow ae 69 (by decide)).nilRow aa 84 (by decide)).nilRow ac 44 (by decide);cases hM
  refine aI hS Tryz.results59 (bn hS rfl 3 rfl fy rfl (fun h=>by cases h) (aq hS rfl (aq hS rfl aH))) ?_;have hZ:=hS.sl [2,1,0] [2,1,0];exact⟨(.slice none 0 0),[],(.slice none 0 0),[],(.slice none 0 0),[],rfl,(hZ.get 0 rfl),(hZ.get 1 rfl),(hZ.get 2 rfl),hZ.dnew⟩
 refine ai hS fun a hS=>?_;obtain⟨e,a4,hM⟩:=bd hM;refine kc hS xP (dP _ _ hS.dlt t _ _ (hS.get 2 rfl) (hS.get 1 rfl) _ a4) fun _ w hR a hk hA=>?_;obtain⟨j,f,d3,c4,he,W,X,b9⟩:=hR;obtain rfl:=he.symm;have hS:=uw hA W X b9;refine ka hS mo fun m ck a w hk hS=>?_;refine go hS fun a w hS=>?_;refine aK (J:=fun a w=>∃ (K:LK) (N:LR) (E:Value) (C:LV) (F:Value) (D:LV),St W0 (MD []) T 62 [(6,pt l 0),(9,pt m 0),(10,E)] [ay E C,.box l [al 0,.slice none 0 0,.slice none 0 0] 31,bh j f,aS F D,.box m (bf e j F) 31] [an ac C K,an ae f e.Inputs,an aa D N,bC] a w∧oI e K N=some y) ?_ ?_
 ·skip;refine ai hS fun a hS=>?_;obtain⟨p,a9,hM⟩:=bd hM;refine kc hS PE (Bh _ _ hS.dlt (hS.get 5 rfl) t.Records _ (hS.get 3 rfl) _ a9) fun _ w hR a hk hA=>?_;obtain⟨r,q,he,Y⟩:=hR;obtain rfl:=he.symm;have hS:=qD hA Y;refine ai hS fun a hS=>?_;replace hS:=hS.nilRow ac 44 (by decide);obtain⟨r1,bb,hMo1⟩:=bd hM;refine bF _ (fun s a w=>∃ (o:LK) (n:Int) (i:LR) (A:Value) (u:LV) (B:Value) (z:LV),(o,n,i)=s∧St W0 (MD []) T 62 [(1,al d),(2,G),(6,pt l 0),(9,pt m 0),(10,A),(30,r),(31,al (p.length:Int)),(32,al n)] [ay A u,aS r q,.box l [al 0,.slice none 0 0,.slice none 0 0] 31,bh j f,aS B z,.box m (bf e j B) 31] [aR ac G g,an ac u o,an aa q p,an ae f e.Inputs,an aa z i,bC] a w) bb ⟨_,_,_,_,_,_,_,rfl,hS.mt [0,1,5,3,4,2] [4,0,1,3,2,7]⟩ ?_;rintro s a w f1 ⟨o,n,i,A,u,B,z,rfl,hS⟩ hM hf1;have hM:oJ d g p o n i=some f1:=hM;unfold oJ at hM;refine ai hS fun a hS=>?_;refine aD ?_;rcases cd hM with⟨b2,hM⟩|⟨b2,hM⟩
  ·refine ai hS fun a hS=>?_;refine aK (J:=fun a w=>∃ (L:LK) (O:LR) (P:Value) (H:LV) (Q:Value) (I:LV),St W0 (MD []) T 62 [(1,al d),(2,G),(6,pt l 0),(9,pt m 0),(10,P),(30,r),(31,al (p.length:Int)),(32,al n)] [ay P H,aS r q,.box l [al 0,.slice none 0 0,.slice none 0 0] 31,bh j f,aS Q I,.box m (bf e j Q) 31] [aR ac G g,an ac H L,an aa q p,an ae f e.Inputs,an aa I O,bC] a w∧lT n L O=some f1) ?_ ?_
   ·skip;refine ai hS fun a hS=>?_;obtain⟨b,a3,hM⟩:=bd hM;refine wl rfl (dj (R:=aa) hS qB m5 rfl rfl 1 rfl 2 rfl a3 rfl fun c2 co cs c5 b3 b4 b5 a hS=>?_);obtain⟨S,rfl,ak⟩:=b3;replace hS:=hS.fS ak;refine qy hS (ce (k:=0) hS m5 1 rfl b4 b5 rfl id (us:=(br b S)) rfl rfl (fun h=>by cases h)) fun a hS=>?_;refine ka hS gV fun U cl a w hk hS=>?_;refine go hS fun a w hS=>?_;refine aK (J:=fun a w=>∃ (M:Bool),St W0 (MD []) T 62 [(1,al d),(2,G),(6,pt l 0),(9,pt m 0),(10,A),(12,pt U 0),(30,r),(31,al (p.length:Int)),(32,al n),(47,.bool M)] [ay A u,aS r q,.box l [al 0,.slice none 0 0,.slice none 0 0] 31,bh j f,aS B z,.box m (bf e j B) 31,.box U (br b S) 84] [aR ac G g,an ac u o,an aa q p,an ae f e.Inputs,an aa z i,aR ac S b.Reads,bC] a w∧jR o n i b M=some f1) ?_ ?_
    ·skip;refine ai hS fun a hS=>?_;have hL:=hS;replace hL:=hL.freeze (R:=aa) 5 rfl 5 rfl;obtain⟨d0,ab,hM⟩:=bd hM;refine kc hS PF (Bg _ _ hL.dlt i _ (hL.get 0 rfl) _ ab) fun _ w hR a hk hA=>?_;obtain rfl:=hR;have hS:=bY hA;refine ai hS fun a hS=>?_;rcases cd hM with⟨V,hM⟩|⟨V,hM⟩
     ·refine ai hS fun a hS=>?_;obtain⟨d1,af,hM⟩:=bd hM;refine wg hS rfl rfl rfl V (bg hS LX rfl rfl (uS _ _ hS.dlt g b.Key _ (hS.get 1 rfl) _ af) fun _ w hR a hk hA=>?_);obtain rfl:=hR;have hS:=bY hA;exact fz
     exact fz
    rintro a w ⟨M,hS,hM⟩;unfold jR at hM;rcases cd hM with⟨b6,hM⟩|⟨b6,hM⟩
    ·refine ai hS fun a hS=>?_;replace hS:=hS.freeze (R:=aa) 4 rfl 4 rfl;obtain⟨cv,a5,hM⟩:=bd hM;refine kc hS Of (xh _ _ hS.dlt i b.Key _ (hS.get 0 rfl) _ a5) fun _ w hR a hk hA=>?_;obtain⟨d4,c9,he,Z⟩:=hR;obtain rfl:=he.symm;have hS:=qD hA Z;refine go hS fun a w hS=>?_;refine wl rfl (a8 (ps:=[(0,.tmp 56)]) hS gY gU (zl:=[al 0,aO bI]) (by kernel_rfl) rfl (us:=[(aV b.Key)]) ⟨rfl,trivial⟩ (ws:=(aV b.Key)) rfl rfl rfl rfl fun c3 a w hk hS=>?_);replace hS:=(hS.lit (R:=ac) (us:=(aV b.Key)) (xs:=[b.Key]) 0 rfl (by decide) (aA.one_ (R:=ac) (x:=b.Key) rfl) rfl rfl).freeze (R:=ac) 0 rfl 0 rfl;obtain⟨b8,hM⟩:=be hM;refine wl rfl (bM (R:=ac) (xs:=o) (ys:=[b.Key]) hS gY (by decide) (by decide) rfl rfl 1 rfl 5 rfl 0 rfl b8 rfl fun d6 ca a w hk hS=>?_);exact fz
    refine ai hS fun a hS=>?_;exact⟨_,_,_,_,_,_,hS.mt [0,1,2,3,4,5] [0,1,2,3,4,6],hM⟩
   rintro a w ⟨L,O,P,H,Q,I,hS,hM⟩;unfold lT at hM;refine ai hS fun a hS=>?_;exact⟨_,(fq hM).symm,_,_,_,_,_,_,_,rfl,hS.mt [0,1,2,3,4,5] [0,1,2,3,4,5]⟩
  refine ai hS fun a hS=>?_;cases hM
  have hr:=hf1 _ rfl;subst hr;have hM:oI e o i=some y:=hMo1;exact⟨_,_,_,_,_,_,hS.mt [0,2,3,4,5] [1,3,4,5],hM⟩
 rintro a w ⟨K,N,E,C,F,D,hS,hM⟩;unfold oI at hM;refine go hS fun a w hS=>?_;cases hM
 refine aI hS Tryz.results59 (bn hS rfl 1 rfl fy rfl (fun h=>by cases h) (aq hS rfl (aq hS rfl aH))) ?_;have hZ:=hS.sl [2,3,0] [1,2,0];exact⟨j,f,F,D,E,C,rfl,(hZ.get 0 rfl),(hZ.get 1 rfl),(hZ.get 2 rfl),hZ.dnew⟩
end
end
section
open Go.RowKit
open Go.Lib hiding intOf
section
variable {l:List aW} {b:aj} {V:Nat→ByteArray}
structure Es (l:List aW) (b:aj) (N:Nat) (t:dB):Prop where
 rules:t.Rules=l
 lv:wi l b t.Base
 goals:∀ k∈t.Goals,o9 l k
 ng:t.Goals.length≤32
 fr:∀ f∈t.Stack,C0 l f
 len:t.Stack.length≤N
 ran:t.Ran.length≤N
theorem zB (hR:bX l) {N:Nat} (hN:N≤100) {t:dB} (h:Es l b N t):nH t=some t:=by
 have hl:=hR.high;have h1:=h.ng;have h2:=h.len;have h3:=h.ran;unfold nH;rw [h.rules,B9 hR,ax,uF (h.lv.ok.rm hl).1 (h.lv.ok.rm hl).2.1,ax,dX (by simp; omega),vP h.fr (by omega),dX (by simp; omega)];rw [← h.rules]; rfl
theorem Ku (hR:bX l) (hD:Fh l (uB b) V) (hb:ki l b) {s:ap} (hs:tc l V b s) {N:Nat} (hN:N≤90) {t:dB} (h:Es l b N t):Ok (r8 vv s t) fun y=>Es l b (N+1) y.1∧tc l V b y.2.2.2:=by
 have hl:=hR.high;have hb0:=(hb.rm hl).2.1;have h1:=h.ng;have h2:=h.len;have h3:=h.ran;have up:Es l b (N+1) t:=⟨h.rules,h.lv,h.goals,h.ng,h.fr,by omega,by omega⟩;unfold r8;refine aM (zB hR (by omega) h) (aF (fun h0=>aF (fun _=>ar ⟨up,hs⟩) (fun hg=>?_)) (fun h0=>?_))
 ·have hg0:0<t.Goals.length:=by
   rcases yr t.Goals.length with e | e
   ·rw [e] at hg; cases hg
   ·exact e
  have hk:=h.goals _ (m7 hg0);refine aM (by have:=bW hg0; exact this) (aM (by have:=ud (xs:=t.Goals) (a:=1) (by omega); exact this) (aQ (BF hl h.lv.ok (by simp) hk) fun y hy=>?_));have hg1:∀ k∈t.Goals.drop 1,o9 l k:=fun k hk=>h.goals k (CU hk);have hg2:(t.Goals.drop 1).length≤32:=by rw [sm]; omega
  refine aF (fun hy1=>?_) (fun _=>ar ⟨⟨h.rules,h.lv,hg1,hg2,h.fr,up.len,up.ran⟩,hs⟩);obtain⟨n,hn,e⟩:=hy hy1;refine ar ⟨⟨h.rules,h.lv,hg1,hg2,?_,by show 1≤N+1; omega,up.ran⟩,hs⟩;show ∀ f∈[bB.mk t.Goals[0] false 0 [] []],C0 l f;rw [e];exact Eu (fs:=[]) (fun f hf=>absurd hf gn) hn
 ·have hs0:0<t.Stack.length:=by
   rcases yr t.Stack.length with e | e
   ·rw [e] at h0; cases h0
   ·exact e
  refine aQ (GF hR hD hb0 hs h.lv.ok h.fr hs0 (by omega)) fun y hy=>aF (fun _=>ar ⟨up,hy.sol⟩) (fun _=>?_);have hw:=hy.wk;have hln:=hy.len;refine dM (dX (by omega)) (ar ⟨⟨h.rules,⟨hy.lv.ok,hy.lv.rev.trans h.lv.rev,hy.lv.ins.trans h.lv.ins⟩,h.goals,h.ng,hy.fr,by show y.2.1.length≤_; omega,?_⟩,hy.sol⟩);show (t.Ran++y.2.2.1).length≤_;rw [cS]; omega
def O5 (l:List aW) (V:Nat→ByteArray) (b:aj) (k:Nat):Int×(List aW)×Int×(List aN)×(List aw)×(List ah)×(List bB)×(List ah)×(List aW)×Int×(List aN)×(List aw)×(List (ah×ByteArray))×(List (ah×(List ah)))→Prop
 | (n,t1,t2,t3,t4,t5,t6,t7,g1,g2,g3,g4,g5,g6)=>n=(k:Int)∧Es l b k (dB.mk t1 (aj.mk t2 t3 t4) t5 t6 t7)∧tc l V b (ap.mk g1 (aj.mk g2 g3 g4) g5 g6)
def O7 (l:List aW) (b:aj):Fl (Int×(List aW)×Int×(List aN)×(List aw)×(List ah)×(List bB)×(List ah)) (dB×Int×Int)→Prop
 | .go (n,t1,t2,t3,t4,t5,t6,t7)=>Es l b 90 (dB.mk t1 (aj.mk t2 t3 t4) t5 t6 t7)
 | .out y=>Es l b 90 y.1
theorem Es.le {N M:Nat} {t:dB} (h:Es l b N t) (hm:N≤M):Es l b M t:=⟨h.rules,h.lv,h.goals,h.ng,h.fr,fB h.len hm,fB h.ran hm⟩
theorem IK (hR:bX l) (hb:ki l b) {t:dB} (h:Es l b 0 t) (hbase:t.Base=b) {most:Int} (hm:most≤30):Ok (tw vv t most) fun y=>Es l b 90 y.1:=by
 have hl:=hR.high;have hD:=HK (uB b) hR;have hst:t.Stack=[]:=yN (Nat.le_zero.1 h.len);have hru:=h.rules;unfold tw;refine aM (zB hR (by omega) h) (aF (fun _=>ar (h.le (by omega))) (fun _=>?_));have hvalid:qs t=some true:=by
  unfold qs;rw [hru,B7 hR h.lv.ok h.goals h.ng,ax,hst];rw [show ((0:Int)==0)=true from rfl,cond_true];have:jQ l t.Base []=some true:=by
   unfold jQ;rw [qh (r:=Fl.go ()) rfl]; rfl
  rw [this]; rfl
 refine aM hvalid ?_;simp only [dh,cond_false];refine aM (v:=ap.mk t.Rules t.Base [] []) rfl ?_;have hs:tc l (Vd l (uB b)) b (ap.mk t.Rules t.Base [] []):=⟨hru,hbase,fun n _ v e=>(by cases e),fun c=>rfl⟩;refine cc (O5 l (Vd l (uB b)) b) (O7 l b) 30 ⟨rfl,h,hs⟩ ?_ ?_
 ·rintro k ⟨n,t1,t2,t3,t4,t5,t6,t7,g1,g2,g3,g4,g5,g6⟩ hk ⟨rfl,q1,q2⟩;dsimp only;unfold rf;refine aF (fun hlt=>?_) (fun _=>ar (q1.le (by omega)));have hlt:=of_decide_eq_true hlt;refine aQ (Ku hR hD hb q2 (by omega) q1) fun y ⟨y1,y2⟩=>aF (fun _=>ar (q1.le (by omega))) (fun _=>aF (fun _=>ar (y1.le (by omega))) (fun _=>?_));exact ar ⟨by omega,cJ (by omega),y1,y2⟩
 ·rintro (⟨n,t1,t2,t3,t4,t5,t6,t7⟩ | y) hr
  ·exact ar hr
  ·exact ar hr
theorem IV (hR:bX l) (hb:ki l b) {goals:List ah} (hg:∀ k∈goals,o9 l k) (hn:goals.length≤32):∃ t,qr l b goals=some (t,0)∧Es l b 0 t∧t.Base=b:=by
 have ht:Es l b 0 (dB.mk l b goals [] []):=⟨rfl,⟨hb,rfl,rfl⟩,hg,hn,fun f hf=>absurd hf gn,cX _,cX _⟩;refine⟨_,?_,ht,rfl⟩;unfold qr;rw [B7 hR hb hg hn,ax];simp only [show ((0:Int) != 0)=false from rfl,cond_false];rw [zB hR (by omega) ht]; rfl
theorem Am {recs:List aw} (h:Rm recs.length) (k:ah):pv recs k=some (recs.filter fun x=>!eo x.Key k):=by
 unfold Rm at h;unfold pv pR;refine gr (cD (xs:=recs) (fun i=>((recs.take i).filter fun x=>!eo x.Key k,(i:Int))) rfl (r:=recs.filter fun x=>!eo x.Key k) (fun i x hx=>?_) ?_) rfl
 ·have hlt:=bc hx;have hlen:=ul (fun x:aw=>!eo x.Key k) recs i;unfold mM mL;dsimp only;rw [dlt hlt,cond_true,aZ,hx,ax,cJ (by omega),b7 hx,lh];show cond (!eo x.Key k) _ _=_;cases e:eo x.Key k with
  | true=>simp [e]
  | false =>
   rw [my,cond_true,dX (by simp only [gH,sH]; omega)];simp [e,gd]
 ·unfold mM;dsimp only;rw [bA,i6]; rfl
theorem ki.filter (h:ki l b) (p:aw→Bool):ki l (aj.mk b.Revision b.Inputs (b.Records.filter p)) :=
 ⟨h.rev,h.ins,h.insA,fun r hr=>h.recs r (iZ.1 hr).1,List.Pairwise.sublist List.filter_sublist h.recsA⟩
theorem Gs (hR:bX l) {N:Nat} {t:dB} (h:Es l b N t) (hN:N≤1000):Ok (oF t) fun b'=>wi l b b':=by
 have hl:=hR.high;have hb:=h.lv.ok;have hlen:=h.len;unfold oF;refine aM (uF (hb.rm hl).1 (hb.rm hl).2.1) ?_;refine cc (fun (k:Nat) (s:Int×List aw)=>s.1=k∧ki l (aj.mk t.Base.Revision t.Base.Inputs s.2)) (fun r=>ki l (aj.mk t.Base.Revision t.Base.Inputs r)) t.Stack.length ⟨rfl,hb⟩ ?_ (fun r hr=>ar ⟨hr,h.lv.rev,h.lv.ins⟩);rintro k ⟨i,recs⟩ hk ⟨rfl,g⟩;dsimp only at g ⊢;unfold nq;refine aF (fun hlt=>?_) (fun _=>ar g);have hlt:k<t.Stack.length:=by have:=of_decide_eq_true hlt; omega
 refine aM (bW hlt) (aM (gR _) (aF (fun _=>?_) (fun _=>ar ⟨hlt,cJ (by omega),g⟩)));have hrl:recs.length≤l.length:=g.nrec;exact aM (Am (by unfold Rm; omega) _) (ar ⟨hlt,cJ (by omega),g.filter _⟩)
end
end
section
open Go.RowKit
open Go.Lib hiding intOf
def qF (l:List aN):Prop:=l.Pairwise fun a b=>bT a.Key b.Key<0
def qZ (l:List aN) (r:aN):List aN:=(l.filter fun x=>decide (bT x.Key r.Key<0))++r::(l.filter fun x=>decide (0<bT x.Key r.Key))
theorem xa {l:List aN} {r x:aN}:x∈qZ l r↔x=r∨(x∈l∧x.Key≠r.Key):=by
 unfold qZ;rw [dz,cz,iZ,iZ];simp only [decide_eq_true_eq];constructor
 ·rintro (⟨h,h1⟩ | h | ⟨h,h1⟩)
  ·exact .inr ⟨h,pI h1⟩
  ·exact .inl h
  ·exact .inr ⟨h,fun e=>by rw [e,vr] at h1; omega⟩
 ·rintro (h | ⟨h,h1⟩)
  ·exact .inr (.inl h)
  ·rcases tu x.Key r.Key with h2 | h2 | h2
   ·exact .inl ⟨h,h2⟩
   ·exact absurd h2 h1
   ·exact .inr (.inr ⟨h,oo.2 h2⟩)
theorem DN {l:List aN} (h:qF l) (r:aN):qF (qZ l r):=by
 unfold qF qZ;rw [xJ];refine⟨AL _ h,o6.2 ⟨fun x hx=>?_,AL _ h⟩,fun x hx y hy=>?_⟩
 ·have:=(iZ.1 hx).2;simp only [decide_eq_true_eq] at this;exact oo.1 this
 ·have h1:=(iZ.1 hx).2;simp only [decide_eq_true_eq] at h1;rcases cz.1 hy with rfl | hy
  ·exact h1
  ·have h2:=(iZ.1 hy).2;simp only [decide_eq_true_eq] at h2;exact km h1 (oo.1 h2)
def nz (l:List aN) (k:ah):Nat:=(l.filter fun r=>decide (bT r.Key k<0)).length
theorem zm {l:List aN} (h:qF l) (k:ah):l=(l.filter fun r=>decide (bT r.Key k<0))++(l.filter fun r=>decide (¬ bT r.Key k<0)):=by
 induction l with
 | nil=>rfl
 | cons x r ih =>
  have h2:=o6.1 h;by_cases hx:bT x.Key k<0
  ·rw [oX (by simpa using hx),jV (by simpa using hx),List.cons_append,← ih h2.2]
  ·have e:(r.filter fun r=>decide (bT r.Key k<0))=[]:=by
    rw [yq];intro y hy;have:=h2.1 y hy;simp only [decide_eq_true_eq];exact fun h=>hx (km this h)
   have e2:(r.filter fun r=>decide (¬ bT r.Key k<0))=r:=by
    rw [tb];intro y hy;simp only [decide_eq_true_eq];exact fun h=>hx (km (h2.1 y hy) h)
   rw [jV (by simpa using hx),oX (by simpa using hx),e,e2]; rfl
theorem Br (l:List aN) (k:ah):nz l k≤l.length:=uf _ _
theorem Ex {l:List aN} (h:qF l) (k:ah) {i:Nat} {x:aN} (hx:l[i]? = some x):bT x.Key k<0↔i<nz l k:=by
 have e:=zm h k;constructor
 ·intro hc;refine Nat.lt_of_not_ge fun hi=>?_;rw [e,o5 hi] at hx;have:=(iZ.1 (a6 hx)).2;simp only [decide_eq_true_eq] at this;exact this hc
 ·intro hi;rw [e,m6 hi] at hx;have:=(iZ.1 (a6 hx)).2;simpa using this
theorem MP {i j:Nat} (h:i≤j) (hj:j≤1000000000):IntKind.i64.wrap (DT .u64 (IntKind.u64.wrap (IntKind.i64.wrap ((i:Int)+j))) 1)=(((i+j) / 2:Nat):Int):=by
 have e:IntKind.i64.wrap ((i:Int)+j)=((i+j:Nat):Int):=by rw [pX (by omega) (by omega)]; omega
 have e2:IntKind.u64.wrap ((i+j:Nat):Int)=((i+j:Nat):Int):=by simp [IntKind.wrap,IntKind.bits,IntKind.signed]; omega
 have e3:DT .u64 ((i+j:Nat):Int) 1=(((i+j) / 2:Nat):Int):=by
  have:DT .u64 ((i+j:Nat):Int) 1=Int.fdiv ((i+j:Nat):Int) 2:=rfl;rw [this,Int.fdiv_eq_ediv_of_nonneg _ (by omega)];omega
 rw [e,e2,e3,pX (by omega) (by omega)]
theorem Fm (r:aN) (k:ah):eC r k=some (bT r.Key k):=by
 unfold eC;rw [zx]; rfl
theorem GR {l:List aN} (h:qF l) (hl:Rm l.length) (k:ah):bo eC l k=some ((nz l k:Int),match l[nz l k]? with | some x=>bT x.Key k==0 | none=>false):=by
 have hl':=hl;unfold Rm at hl;have hb:=Br l k;have key:Ok (bo eC l k) fun r=>r=((nz l k:Int),match l[nz l k]? with | some x=>bT x.Key k==0 | none=>false):=by
  unfold bo;refine cc (fun n s=>∃ i j:Nat,s=((i:Int),(j:Int))∧i≤nz l k∧nz l k≤j∧j≤l.length∧(j-i)+n≤l.length) (fun r=>r=(nz l k:Int)) l.length ⟨0,l.length,rfl,cR _,hb,cX _,by omega⟩ (fun n s hn hI=>?_) (fun r hr=>?_)
  ·obtain⟨i,j,rfl,h1,h2,h3,h4⟩:=hI;unfold bR;dsimp only;by_cases hij:i<j
   ·rw [dlt hij,cond_true,MP (by omega) (by omega),aZ];have hm:(i+j) / 2<l.length:=by omega
    rw [bS hm,ax,Fm,ax];have hg:=Ex h k (bS hm);by_cases hc:bT l[(i+j) / 2].Key k<0
    ·rw [decide_eq_true hc,cond_true,cJ (by omega)];have:=hg.1 hc;exact ar ⟨by omega,(i+j) / 2+1,j,rfl,by omega,h2,h3,by omega⟩
    ·rw [decide_eq_false hc,cond_false];have:¬ (i+j) / 2<nz l k:=fun hh=>hc (hg.2 hh);exact ar ⟨by omega,i,(i+j) / 2,rfl,h1,by omega,by omega,by omega⟩
   ·rw [EG hij,cond_false];exact ar (by rw [show i=nz l k by omega])
  ·subst hr;unfold bQ bw;by_cases hlt:nz l k<l.length
   ·rw [dlt hlt,cond_true,aZ,bS hlt,ax,Fm,ax];exact ar rfl
   ·rw [EG hlt,cond_false,tG (by omega)];exact ar rfl
 obtain⟨r,e,rfl⟩:=key;exact e
theorem BI {l:List aN} {r:aN} (h:qF l) (hl:Rm l.length) {u:aj} (hrev:IntKind.i64.wrap (u.Revision+1)=r.Changed) (g:Int) :
  ((loop (fun s:(List aN)×Bool×Int=>fQ u l (am.mk r.Key r.Value) s.1 s.2.1 s.2.2) (([]:List aN),false,0)).bind fun q=>eL u g (am.mk r.Key r.Value) q.1 q.2)=d9 g (qZ l r):=by
 unfold Rm at hl;have hpl:∀ i,((l.take i).filter fun x=>decide (bT x.Key r.Key<0)).length+((l.take i).filter fun x=>decide (0<bT x.Key r.Key)).length≤l.length:=fun i=>by
  have h1:∀ m:List aN,(m.filter fun x=>decide (bT x.Key r.Key<0)).length+(m.filter fun x=>decide (0<bT x.Key r.Key)).length≤m.length:=by
   intro m
   induction m with
   | nil=>simp
   | cons y m ih =>
    by_cases a:bT y.Key r.Key<0
    ·rw [oX (by simpa using a),jV (by simp; omega)]; simp only [gH]; omega
    ·by_cases b:0<bT y.Key r.Key
     ·rw [jV (by simpa using a),oX (by simpa using b)]; simp only [gH]; omega
     ·rw [jV (by simpa using a),jV (by simpa using b)]; simp only [gH]; omega
  have:=h1 (l.take i);rw [fe] at this; omega
 have key:Ok ((loop (fun s:(List aN)×Bool×Int=>fQ u l (am.mk r.Key r.Value) s.1 s.2.1 s.2.2) (([]:List aN),false,0)).bind fun q=>eL u g (am.mk r.Key r.Value) q.1 q.2) fun y=>d9 g (qZ l r)=some y:=by
  refine cc (fun n t=>n≤l.length∧t.2.2=(n:Int)∧((t.1=l.take n∧t.2.1=false∧∀ x∈l.take n,bT x.Key r.Key<0)∨(t.1=qZ (l.take n) r∧t.2.1=true∧∃ x∈l.take n,¬ bT x.Key r.Key<0)))
   (fun t=>(t.1=l∧t.2=false∧∀ x∈l,bT x.Key r.Key<0)∨(t.1=qZ l r∧t.2=true)) l.length ⟨cR _,rfl,.inl ⟨rfl,rfl,by simp⟩⟩ (fun n t hn hI=>?_) (fun t ht=>?_)
  ·obtain⟨out,put,i⟩:=t;obtain⟨_,h1,h2⟩:=hI;dsimp only at h1 h2;subst h1;unfold fQ;dsimp only;by_cases hi:n<l.length
   ·have hx:l[n]? = some l[n]:=bS hi;obtain⟨x,hxe⟩:∃ x,x=l[n]:=⟨_,rfl⟩;rw [← hxe] at hx;rw [dlt hi,cond_true,aZ,hx,ax,mm,ax];have tk:=b7 hx;have hle:=hpl n;rcases h2 with⟨rfl,rfl,h3⟩|⟨rfl,rfl,y,hy,h3⟩
    ·have e0:((l.take n).filter fun x=>decide (bT x.Key r.Key<0))=l.take n:=tb.2 fun x hx=>by simpa using h3 x hx
     have e1:((l.take n).filter fun x=>decide (0<bT x.Key r.Key))=[]:=yq.2 fun x hx=>by have:=h3 x hx; simp; omega
     rcases rO x.Key r.Key with hc | hc | hc
     ·rw [hc];unfold fP fO fN;dsimp only;simp only [hrev];rw [show bH ((l.take n).length+[x].length)=true from dX (by simp; omega),cJ (by omega)];refine ar ⟨hi,hi,rfl,.inl ⟨tk.symm,rfl,fun z hz=>?_⟩⟩;rw [tk] at hz;rcases dz.1 hz with hz | hz
      ·exact h3 z hz
      ·simp only [cz,gn,or_false] at hz; subst hz; omega
     ·rw [hc];unfold fP fO fN;dsimp only;simp only [hrev];rw [cJ (by omega)];rw [show bH ((l.take n).length+[r].length)=true from dX (by simp; omega)];refine ar ⟨hi,hi,rfl,.inr ⟨?_,rfl,x,by rw [tk]; simp,by omega⟩⟩;unfold qZ;rw [tk,lh,lh,e0,e1];simp [hc]
     ·rw [hc];unfold fP fO fN;dsimp only;simp only [hrev];rw [cJ (by omega)];rw [show bH ((l.take n).length+[r].length)=true from dX (by simp; omega),show bH ((l.take n++[r]).length+[x].length)=true from dX (by simp; omega)];refine ar ⟨hi,hi,rfl,.inr ⟨?_,rfl,x,by rw [tk]; simp,by omega⟩⟩;unfold qZ;rw [tk,lh,lh,e0,e1];simp [hc]
    ·have hyx:bT y.Key x.Key<0:=by
      obtain⟨j,hj⟩:=kg.1 hy;rw [qV] at hj;split at hj
      ·rename_i hjn;obtain⟨q1,q2⟩:=bN.1 hj;have:=gG.1 h j n q1 hi hjn;rw [q2,← hxe] at this; exact this
      ·cases hj
     have hc:0<bT x.Key r.Key:=by
      rw [oo];exact mH (b:=y.Key) h3 hyx
     have hc1:bT x.Key r.Key=1:=by rcases rO x.Key r.Key with h | h | h <;> omega
     rw [hc1];unfold fP fO fN;dsimp only;simp only [hrev];rw [cJ (by omega),show bH ((qZ (l.take n) r).length+[x].length)=true from dX (by unfold qZ; simp only [cS,gH,sH]; omega)];refine ar ⟨hi,hi,rfl,.inr ⟨?_,rfl,y,by rw [tk]; exact qC _ hy,h3⟩⟩;unfold qZ;rw [tk,lh,lh];simp [hc1]
   ·have hn2:n=l.length:=by omega
    rw [hn2,bA,cond_false];rw [hn2,i6] at h2;refine ar ?_;rcases h2 with⟨a,b,c⟩|⟨a,b,c⟩
    ·exact .inl ⟨a,b,c⟩
    ·exact .inr ⟨a,b⟩
  ·obtain⟨out,put⟩:=t;dsimp only at ht ⊢;unfold eL;dsimp only;simp only [hrev];rcases ht with⟨rfl,rfl,h3⟩|⟨rfl,rfl⟩
   ·simp only [my,cond_true];rw [show bH (out.length+[r].length)=true from dX (by simp; omega)];refine⟨_,rfl,?_⟩;unfold qZ;rw [tb.2 fun x hx=>by simpa using h3 x hx,yq.2 fun x hx=>by have:=h3 x hx; simp; omega];rfl
   ·exact⟨_,rfl,rfl⟩
 obtain⟨y,e,e2⟩:=key;exact e.trans e2.symm
end
section
set_option maxRecDepth 100000
set_option maxHeartbeats 4000000
open Go.RowKit
noncomputable section
def pL (b:Int) (c:LI) (d:LR) (e:LN) (f:Int):Option (aj×aX):=some (((aj.mk b c d),(aX.mk e f)))
def d8 (g:Int) (e:LN) (f:Int) (b:Int) (c:LI) (d:LR):Option (Fl (Int×LN×Int×Int×LI×LR) (Int×LI×LR×LN×Int)):=some (.go (IntKind.i64.wrap (g-1),e,f,b,c,d))
def pM (g:Int) (h:Int) (i:LI) (j:LR) (k:Int) (e:LN) (f:Int) (l:LU) (m:Int) (n:LI) (o:LR) (p:LK) (q:LF) (r:LK):Option (Fl (Int×LN×Int×Int×LI×LR) (Int×LI×LR×LN×Int)):=cond (k==0) ((cg (aX.mk e f) 30).bind fun c=>(tw vv (dB.mk l (aj.mk m n o) p q r) c.1).bind fun b=>(oF (dB.mk b.1.Rules (aj.mk b.1.Base.Revision b.1.Base.Inputs b.1.Base.Records) b.1.Goals b.1.Stack b.1.Ran)).bind fun d=>d8 g c.2.L c.2.At d.Revision d.Inputs d.Records) (d8 g e f h i j)
def jd (d:LU) (h:Int) (e:Int) (f:LI) (g:LR) (b:(Int×aX)) (q:Bool):Option (Fl (Int×LN×Int×Int×LI×LR) (Int×LI×LR×LN×Int)):=cond q ((l7 (aX.mk b.2.L b.2.At) 2).bind fun j=>(iU (aj.mk e f g) j.1).bind fun k=>d8 h j.2.L j.2.At k.1.Revision k.1.Inputs k.1.Records) (cond (b.1==3) ((po (aX.mk b.2.L b.2.At) d 2).bind fun l=>(qr d (aj.mk e f g) l.1).bind fun c=>pM h e f g c.2 l.2.L l.2.At c.1.Rules c.1.Base.Revision c.1.Base.Inputs c.1.Base.Records c.1.Goals c.1.Stack c.1.Ran) (cond (b.1==4) ((cg (aX.mk b.2.L b.2.At) 3).bind fun i=>cond (i.1==0) ((cg (aX.mk i.2.L i.2.At) 200).bind fun m=>(qt (aj.mk e f g) m.1 ([])).bind fun n=>d8 h m.2.L m.2.At n.1.Revision n.1.Inputs n.1.Records) (d8 h i.2.L i.2.At e f g)) ((po (aX.mk b.2.L b.2.At) d 2).bind fun o=>(mW uu d (aj.mk e f g) o.1).bind fun p=>d8 h o.2.L o.2.At p.1.Revision p.1.Inputs p.1.Records)))
def pN (c:LU) (g:Int) (h:LN) (i:Int) (d:Int) (e:LI) (f:LR):Option (Fl (Int×LN×Int×Int×LI×LR) (Int×LI×LR×LN×Int)):=cond (decide ((0:Int)<g)) ((cg (aX.mk h i) 8).bind fun b=>cond (b.1==0) (jd c g d e f b (b.1==0)) (cond (b.1==1) (jd c g d e f b (b.1==1)) (jd c g d e f b (b.1==2)))) (some (.out (d,e,f,h,i)))
def rS (f:aX) (d:LU) (c:aj) (e:Int):Option (aj×aX):=(cg f (IntKind.i64.wrap (e+1))).bind fun b=>(loop (fun s:Int×LN×Int×Int×LI×LR=>pN d s.1 s.2.1 s.2.2.1 s.2.2.2.1 s.2.2.2.2.1 s.2.2.2.2.2) (b.1,b.2.L,b.2.At,c.Revision,c.Inputs,c.Records)).bind fun r=>pL r.1 r.2.1 r.2.2.1 r.2.2.2.1 r.2.2.2.2
theorem Cx (T:Nat→Prop) (W0:World) (hT:TW T W0) (x:aX) (e:LU) (d1:aj) (Y:Int) (v2:Value) (U:Value) (v4:Value) (v5:Value) (b:Nat) (h1:W0.heap[b]? = some (.cells (bk x v2).toArray 64 (0,0))) (hG:¬ T b) (ib:aE (aY.int .i64) (dT T [.box b (bk x v2) 64]) W0 v2 x.L) (ih:aE aC (dT T [.box b (bk x v2) 64]) W0 U e) (ii:aE ae (dT T [.box b (bk x v2) 64]) W0 v4 d1.Inputs) (jb:aE aa (dT T [.box b (bk x v2) 64]) W0 v5 d1.Records) (hLv:di (dT T [.box b (bk x v2) 64]) W0) (y:aj×aX) (hM:rS x e d1 Y=some y):bj aP (fun k=>k=b) 33 [pt b 0,U,.agg (bf d1 v4 v5).toArray,al Y] W0 (fun v w'=>∃ (v6:Value) (v7:Value) (v8:Value),v = .agg (bf y.1 v6 v7).toArray∧aE ae (dT T [.box b (bk y.2 v8) 64]) w' v6 y.1.Inputs∧aE aa (dT T [.box b (bk y.2 v8) 64]) w' v7 y.1.Records∧w'.heap[b]? = some (.cells (bk y.2 v8).toArray 64 (0,0))∧aE (aY.int .i64) (dT T [.box b (bk y.2 v8) 64]) w' v8 y.2.L):=by
 refine sK (c:=_) Tryz.func33 rfl T 80 Tryz.ntmps33 hT rfl h1 hG fun a hS=>?_;replace hS:=((((hS.fact bC hLv).fS ib).fS ih).fS ii).fS jb;unfold rS at hM;refine ai hS fun a hS=>?_;refine kb hS fun p lb a w hk hS=>?_;refine ka hS mo fun q le a w hk hS=>?_;refine ai hS fun a hS=>?_;refine aK (J:=fun a w=>∃ (af:Int) (ag:LI) (ak:LR) (bl:LN) (bs:Int) (a5:Value) (a9:Value) (ab:Value),St W0 (fun k=>k=b) T 80 [(6,pt p 0),(8,pt q 0)] [.box p [al af,a5,a9] 31,.box q [al 0,.slice none 0 0,.slice none 0 0] 31,.box b [ab,al bs] 64] [aR ae a5 ag,aR aa a9 ak,aR (aY.int .i64) ab bl,bC] a w∧pL af ag ak bl bs=some y) ?_ ?_
 ·skip;refine ai hS fun a hS=>?_;obtain⟨hH,hd,hM⟩:=bd hM;refine wl rfl (cC hS nB rfl rfl 2 rfl (bE _ _ (hS.drop 2).dlt x (IntKind.i64.wrap (Y+1)) _ _ (hS.boxRow 2 rfl) (hS.notin 2 rfl) (aE.lent (i:=2) rfl (hS.get 3 rfl)) _ hd) fun _ w hR hk=>?_);obtain⟨hI,he,hrow,e2⟩:=hR;obtain rfl:=he.symm;refine⟨(bk hH.2 hI),hrow,fun a hS=>?_⟩;replace hS:=hS.fS (aE.back (i:=2) rfl e2);refine ai hS fun a hS=>?_;obtain⟨r1,i9,hMo1⟩:=bd hM;refine bF _ (fun s a w=>∃ (t:Int) (z:LN) (A:Int) (d:Int) (f:LI) (g:LR) (c5:Value) (n:Value) (o:Value),(t,z,A,d,f,g)=s∧St W0 (fun k=>k=b) T 80 [(0,pt b 0),(1,U),(6,pt p 0),(8,pt q 0),(9,al t)] [.box b [c5,al A] 64,.box p [al d,n,o] 31,.box q [al 0,.slice none 0 0,.slice none 0 0] 31] [aR aC U e,aR (aY.int .i64) c5 z,aR ae n f,aR aa o g,bC] a w) i9 ⟨_,_,_,_,_,_,_,_,_,rfl,hS.mt [2,1,0] [3,0,2,1,5]⟩ ?_;rintro s a w f1 ⟨t,z,A,d,f,g,c5,n,o,rfl,hS⟩ hM hf1;have hM:pN e t z A d f g=some f1:=hM;unfold pN at hM;refine aD ?_;refine ai hS fun a hS=>?_;rcases cd hM with⟨hq,hM⟩|⟨hq,hM⟩
  ·refine ai hS fun a hS=>?_;refine aK (J:=fun a w=>∃ (bt:LN) (c0:Int) (ao:Int) (av:LI) (b0:LR) (c9:Value) (ca:Value) (cb:Value),St W0 (fun k=>k=b) T 80 [(0,pt b 0),(1,U),(6,pt p 0),(8,pt q 0),(9,al t)] [.box b [c9,al c0] 64,.box p [al ao,ca,cb] 31,.box q [al 0,.slice none 0 0,.slice none 0 0] 31] [aR aC U e,aR (aY.int .i64) c9 bt,aR ae ca av,aR aa cb b0,bC] a w∧d8 t bt c0 ao av b0=some f1) ?_ ?_
   ·skip;refine ai hS fun a hS=>?_;obtain⟨m,h5,hM⟩:=bd hM;refine wl rfl (cC hS nB rfl rfl 0 rfl (bE _ _ (hS.drop 0).dlt (aX.mk z A) 8 _ _ (hS.boxRow 0 rfl) (hS.notin 0 rfl) (aE.lent (i:=0) rfl (hS.get 1 rfl)) _ h5) fun _ w hR hk=>?_);obtain⟨ch,he,hrow,e3⟩:=hR;obtain rfl:=he.symm;refine⟨(bk m.2 ch),hrow,fun a hS=>?_⟩;replace hS:=hS.fS (aE.back (i:=0) rfl e3);refine ai hS fun a hS=>?_;refine aK (J:=fun a w=>∃ (c2:Bool),St W0 (fun k=>k=b) T 80 [(0,pt b 0),(1,U),(6,pt p 0),(8,pt q 0),(9,al t),(21,al m.1),(32,.bool c2)] [.box b (bk m.2 ch) 64,.box p [al d,n,o] 31,.box q [al 0,.slice none 0 0,.slice none 0 0] 31] [aR aC U e,aR (aY.int .i64) ch m.2.L,aR ae n f,aR aa o g,bC] a w∧jd e t d f g m c2=some f1) ?_ ?_
    ·exact fz
    rintro a w ⟨c2,hS,hM⟩;unfold jd at hM;rcases cd hM with⟨hs,hM⟩|⟨hs,hM⟩
    ·refine ai hS fun a hS=>?_;refine dr [(2,.blk (some b)),(7,.blk (some p))] hS fun w hQ hS=>?_;refine dy (l:=[.blk (some b)]) 0 (v:=.agg #[al d,n,o]) rfl (by kernel_rfl) (by kernel_rfl) (by kernel_rfl) (by kernel_rfl) hQ hS (eU hS rfl fy 1 rfl (jZ hS 1 rfl rfl 0 rfl rfl (by decide) bP) (us:=[al d,n,o]) rfl rfl (fun h=>by cases h)) rfl rfl rfl fun a hS=>?_;refine gE [1] hS fun a hS=>?_;obtain⟨gb,h6,hM⟩:=bd hM;refine e1 2 (mG hS N7 rfl rfl 0 rfl (uO _ _ (hS.drop 0).dlt (aX.mk m.2.L m.2.At) 2 _ _ (hS.boxRow 0 rfl) (hS.notin 0 rfl) (aE.lent (i:=0) rfl (hS.get 1 rfl)) (bC.keep (hS.get 4 rfl) (au _ _) (fun k hk=>.inl ((qb (i:=0) rfl k).1 hk))) _ h6) fun _ w hR hk=>?_);obtain⟨ck,b1,hJ,he,⟨dk,d4,e4⟩,hrow,e5⟩:=hR;obtain rfl:=he.symm;refine⟨(bk gb.2 hJ),[ba ck b1],hrow,ei ⟨dk,by decide⟩ d4,sP _,fun a hS=>⟨mx rfl hk kG,?_⟩⟩;replace hS:=((hS.fR (e4.keep (au _ _) (Nw.back2 (i:=0) rfl [ba ck b1] _))).fS (e5.sub (Nw.back2 (i:=0) rfl [ba ck b1] _))).freeze (R:=ad) 0 rfl 1 rfl;obtain⟨ls,h7,hM⟩:=bd hM;refine ec 3 hS LG (sS _ _ hS.dlt (hS.get 7 rfl) (aj.mk d f g) gb.1 _ _ _ (hS.get 5 rfl) (hS.get 6 rfl) (hS.get 0 rfl) _ h7) fun _ w hR a hk hA=>?_;obtain⟨m2,m3,he,e8,ea⟩:=hR;obtain rfl:=he.symm;have hS:=hA [] (fun r hr=>by cases hr) tD;replace hS:=(hS.fS (e8.sub (iB _))).fS (ea.sub (iB _));refine gE [4,5,6] hS fun a hS=>?_;refine es 7 hS fun w hS=>?_;refine eD ?_;exact⟨_,_,_,_,_,_,_,_,hS.mt [0,1,2] [5,3,1,0,9],hM⟩
    refine ai hS fun a hS=>?_;rcases cd hM with⟨ht,hM⟩|⟨ht,hM⟩
    ·refine ai hS fun a hS=>?_;refine aK (J:=fun a w=>∃ (c1:Int) (W:LN) (X:Int) (Z:LU) (B:Int) (a0:LI) (a1:LR) (a2:LK) (a3:LF) (a4:LK) (V:Nat) (K:Value) (b2:LV) (M:Value) (b3:LV) (O:Value) (b4:LV) (P:Value) (b5:LV) (Q:Value) (b6:LV) (S:Value) (b8:LV) (cl:Value),St W0 (fun k=>k=b) T 80 [(0,pt b 0),(1,U),(6,pt p 0),(8,pt q 0),(9,al t),(10,pt V 0),(11,al c1)] [.box b [cl,al X] 64,.box p [al d,n,o] 31,.box q [al 0,.slice none 0 0,.slice none 0 0] 31,cm K b2,bh M b3,aS O b4,ay P b5,dV Q b6,ay S b8,.box V [K,al B,M,O,P,Q,S] 97] [aR aC U e,aR (aY.int .i64) cl W,aR ae n f,aR aa o g,an aC b2 Z,an ae b3 a0,an aa b4 a1,an ac b5 a2,an az b6 a3,an ac b8 a4,bC] a w∧pM t d f g c1 W X Z B a0 a1 a2 a3 a4=some f1) ?_ ?_
     ·skip;obtain⟨N181,h0⟩:∃ N,N=w.heap.size:=⟨_,rfl⟩;replace hS:=hS.fact (Gi N181) (xF h0);refine dr [(4,.blk (some b)),(5,.bks []),(10,.new N181)] hS fun w hQ hS=>?_;refine gE [0] hS fun a hS=>?_;refine dy (l:=[.blk (some b)]) 1 (v:=.agg #[al d,n,o]) rfl (by kernel_rfl) (by kernel_rfl) (by kernel_rfl) (by kernel_rfl) hQ hS (eU hS rfl fy 1 rfl (jZ hS 1 rfl rfl 0 rfl rfl (by decide) bP) (us:=[al d,n,o]) rfl rfl (fun h=>by cases h)) rfl rfl rfl fun a hS=>?_;refine gE [2,3] hS fun a hS=>?_;obtain⟨I,d2,hM⟩:=bd hM;refine eh (i:=4) (j:=9) rfl rfl (by kernel_rfl) rfl rfl ?_ ?_
      ·skip;skip;refine id (mG hS LJ rfl rfl 0 rfl (tS _ _ (hS.drop 0).dlt (aX.mk m.2.L m.2.At) e 2 _ _ _ (hS.boxRow 0 rfl) (hS.notin 0 rfl) (aE.lent (i:=0) rfl (hS.get 2 rfl)) (aE.lent (i:=0) rfl (hS.get 1 rfl)) (bC.keep (hS.get 5 rfl) (au _ _) (fun k hk=>.inl ((qb (i:=0) rfl k).1 hk))) _ d2) fun _ w hR hk=>?_);obtain⟨co,b9,hK,he,⟨dl,d6,ed⟩,hrow,eg⟩:=hR;obtain rfl:=he.symm;refine⟨(bk I.2 hK),[ay co b9],hrow,ei ⟨dl,by decide⟩ d6,sP _,fun a hS=>⟨mx rfl hk kG,?_⟩⟩;replace hS:=((hS.fR (ed.keep (au _ _) (Nw.back2 (i:=0) rfl [ay co b9] _))).fS (eg.sub (Nw.back2 (i:=0) rfl [ay co b9] _))).freeze (R:=ac) 0 rfl 1 rfl;obtain⟨lt,d3,hM⟩:=bd hM;refine eh (i:=5) (j:=9) rfl rfl (by kernel_rfl) rfl rfl ?_ ?_
       ·skip;skip;replace hS:=hS.re [] [0,1,2];refine id (de hS LH rfl rfl (sY _ _ hS.dltD e (aj.mk d f g) I.1 _ _ _ _ hS.dok (hS.getD 4 rfl) (hS.getD 6 rfl) (hS.getD 7 rfl) (hS.getD 0 rfl) (hS.getD 8 rfl) _ d3) fun _ w hR a hk hA=>⟨mx rfl hk xW,?_⟩);obtain⟨m4,k2,md,k3,ms,k4,n0,kk,n1,ks,n2,kt,he,ek,el,em,eq,er,et,hu⟩:=hR;obtain rfl:=he.symm;have hS:=hA _ hu;replace hS:=(((((hS.fR (ek.keep (au _ _) (aB _))).fR (el.keep (au _ _) (aB _))).fR (em.keep (au _ _) (aB _))).fR (eq.keep (au _ _) (aB _))).fR (er.keep (au _ _) (aB _))).fR (et.keep (au _ _) (aB _));refine gE [6,7,8] hS fun a hS=>?_;have hv:=(hS.get 9 rfl:N181≤w.heap.size);refine e1 9 (dd hS AV rfl fun hg hw a w hk hS=>⟨gf (hk),?_⟩);refine dt 10 (.blk (some hg)) _ (by kernel_rfl) (n4 (fB hv hw)) ?_;refine es 10 hS fun w hS=>?_;refine gE [11] hS fun a hS=>?_;refine eD ?_;exact⟨_,_,_,_,_,_,_,_,_,_,_,_,_,_,_,_,_,_,_,_,_,_,_,_,hS.mt [7,8,9,1,2,3,4,5,6,0] [10,7,12,13,5,4,3,2,1,0,14],hM⟩
       skip;have hx:=(hS.get 3 rfl:N181≤w.heap.size);refine id (dd hS AV rfl fun hh hy a w hk hS=>⟨gf (hk),?_⟩);refine dt 10 (.blk (some hh)) _ (by kernel_rfl) (n4 (fB hx hy)) ?_;replace hS:=hS.re [] [0,1,2,3];refine e1 5 (de hS LH rfl rfl (sY _ _ hS.dltD e (aj.mk d f g) I.1 _ _ _ _ hS.dok (hS.getD 4 rfl) (hS.getD 6 rfl) (hS.getD 7 rfl) (hS.getD 0 rfl) (hS.getD 8 rfl) _ d3) fun _ w hR a hk hA=>⟨mx rfl hk xW,?_⟩);obtain⟨hN,hj,hP,hl,hV,hm,hW,hn,hX,ho,hY,hp,he,C,D,E,F,G,H,c3⟩:=hR;obtain rfl:=he.symm;have hS:=hA _ c3;replace hS:=(((((hS.fR (C.keep (au _ _) (aB _))).fR (D.keep (au _ _) (aB _))).fR (E.keep (au _ _) (aB _))).fR (F.keep (au _ _) (aB _))).fR (G.keep (au _ _) (aB _))).fR (H.keep (au _ _) (aB _));refine gE [6,7,8] hS fun a hS=>?_;refine es 10 hS fun w hS=>?_;refine gE [11] hS fun a hS=>?_;refine eD ?_;exact⟨_,_,_,_,_,_,_,_,_,_,_,_,_,_,_,_,_,_,_,_,_,_,_,_,hS.mt [7,8,9,0,1,2,3,4,5,6] [10,7,12,13,5,4,3,2,1,0,14],hM⟩
      skip;have hz:=(hS.get 0 rfl:N181≤w.heap.size);refine id (dd hS AV rfl fun hi hB a w hk hS=>⟨gf (hk),?_⟩);refine dt 10 (.blk (some hi)) _ (by kernel_rfl) (n4 (fB hz hB)) ?_;refine e1 4 (mG hS LJ rfl rfl 1 rfl (tS _ _ (hS.drop 1).dlt (aX.mk m.2.L m.2.At) e 2 _ _ _ (hS.boxRow 1 rfl) (hS.notin 1 rfl) (aE.lent (i:=1) rfl (hS.get 2 rfl)) (aE.lent (i:=1) rfl (hS.get 1 rfl)) (bC.keep (hS.get 5 rfl) (au _ _) (fun k hk=>.inl ((qb (i:=1) rfl k).1 hk))) _ d2) fun _ w hR hk=>?_);obtain⟨cv,bb,i0,he,⟨dn,da,ex⟩,hrow,eT⟩:=hR;obtain rfl:=he.symm;refine⟨(bk I.2 i0),[ay cv bb],hrow,ei ⟨dn,by decide⟩ da,sP _,fun a hS=>⟨mx rfl hk kG,?_⟩⟩;replace hS:=((hS.fR (ex.keep (au _ _) (Nw.back2 (i:=1) rfl [ay cv bb] _))).fS (eT.sub (Nw.back2 (i:=1) rfl [ay cv bb] _))).freeze (R:=ac) 0 rfl 1 rfl;obtain⟨m1,hf,hM⟩:=bd hM;replace hS:=hS.re [] [0,1,2,3];refine e1 5 (de hS LH rfl rfl (sY _ _ hS.dltD e (aj.mk d f g) I.1 _ _ _ _ hS.dok (hS.getD 4 rfl) (hS.getD 6 rfl) (hS.getD 7 rfl) (hS.getD 0 rfl) (hS.getD 8 rfl) _ hf) fun _ w hR a hk hA=>⟨mx rfl hk xW,?_⟩);obtain⟨hN,hj,hP,hl,hV,hm,hW,hn,hX,ho,hY,hp,he,C,D,E,F,G,H,c3⟩:=hR;obtain rfl:=he.symm;have hS:=hA _ c3;replace hS:=(((((hS.fR (C.keep (au _ _) (aB _))).fR (D.keep (au _ _) (aB _))).fR (E.keep (au _ _) (aB _))).fR (F.keep (au _ _) (aB _))).fR (G.keep (au _ _) (aB _))).fR (H.keep (au _ _) (aB _));refine gE [6,7,8] hS fun a hS=>?_;refine es 10 hS fun w hS=>?_;refine gE [11] hS fun a hS=>?_;refine eD ?_;exact⟨_,_,_,_,_,_,_,_,_,_,_,_,_,_,_,_,_,_,_,_,_,_,_,_,hS.mt [7,8,9,0,1,2,3,4,5,6] [10,7,12,13,5,4,3,2,1,0,14],hM⟩
     rintro a w ⟨c1,W,X,Z,B,a0,a1,a2,a3,a4,V,K,b2,M,b3,O,b4,P,b5,Q,b6,S,b8,cl,hS,hM⟩;unfold pM at hM;refine ai hS fun a hS=>?_;rcases cd hM with⟨hC,hM⟩|⟨hC,hM⟩
     ·refine ai hS fun a hS=>?_;refine aD ?_;refine dr [(2,.blk (some b)),(8,.blk (some V))] hS fun w hQ hS=>?_;refine dy (l:=[.blk (some b)]) 0 (v:=.agg #[K,al B,M,O,P,Q,S]) rfl (by kernel_rfl) (by kernel_rfl) (by kernel_rfl) (by kernel_rfl) hQ hS (eU hS rfl yn 9 rfl (jZ hS 9 rfl rfl 0 rfl rfl (by decide) bP) (us:=[K,al B,M,O,P,Q,S]) rfl rfl (fun h=>by cases h)) rfl rfl rfl fun a hS=>?_;refine gE [1] hS fun a hS=>?_;obtain⟨g8,h2,hM⟩:=bd hM;refine e1 2 (cC hS nB rfl rfl 0 rfl (bE _ _ (hS.drop 0).dlt (aX.mk W X) 30 _ _ (hS.boxRow 0 rfl) (hS.notin 0 rfl) (aE.lent (i:=0) rfl (hS.get 1 rfl)) _ h2) fun _ w hR hk=>?_);obtain⟨i1,he,hrow,eX⟩:=hR;obtain rfl:=he.symm;refine⟨(bk g8.2 i1),hrow,fun a hS=>⟨mx rfl hk kG,?_⟩⟩;replace hS:=((((((hS.fS (aE.back (i:=0) rfl eX)).freeze (R:=aC) 3 rfl 5 rfl).freeze (R:=ae) 3 rfl 7 rfl).freeze (R:=aa) 3 rfl 9 rfl).freeze (R:=ac) 3 rfl 11 rfl).freeze (R:=az) 3 rfl 13 rfl).freeze (R:=ac) 3 rfl 15 rfl;obtain⟨u,h3,hM⟩:=bd hM;refine ec 3 hS Ph (DP _ _ hS.dlt (hS.get 17 rfl) vv Qq (dB.mk Z (aj.mk B a0 a1) a2 a3 a4) g8.1 _ _ _ _ _ _ (hS.get 5 rfl) (hS.get 4 rfl) (hS.get 3 rfl) (hS.get 2 rfl) (hS.get 1 rfl) (hS.get 0 rfl) _ h3) fun _ w hR a hk hA=>?_;obtain⟨n5,n6,nd,ng,nl,nm,he,f2,f3,f4,f6,fd,fl⟩:=hR;obtain rfl:=he.symm;have hS:=hA [] (fun r hr=>by cases hr) tD;replace hS:=(((((hS.fS (f2.sub (iB _))).fS (f3.sub (iB _))).fS (f4.sub (iB _))).fS (f6.sub (iB _))).fS (fd.sub (iB _))).fS (fl.sub (iB _));refine gE [4,5,6,7] hS fun a hS=>?_;refine es 8 hS fun w hS=>?_;refine eD ?_;refine ai hS fun a hS=>?_;obtain⟨ll,h4,hM⟩:=bd hM;refine kc hS Pi (Ah _ _ hS.dlt (dB.mk u.1.Rules (aj.mk u.1.Base.Revision u.1.Base.Inputs u.1.Base.Records) u.1.Goals u.1.Stack u.1.Ran) _ _ _ _ _ _ (hS.get 5 rfl) (hS.get 4 rfl) (hS.get 3 rfl) (hS.get 2 rfl) (hS.get 1 rfl) (hS.get 0 rfl) _ h4) fun _ w hR a hk hA=>?_;obtain⟨no,kv,np,kx,he,fn,fr,i5⟩:=hR;obtain rfl:=he.symm;have hS:=uw hA fn fr i5;refine go hS fun a w hS=>?_;replace hS:=(hS.freeze (R:=ae) 0 rfl 1 rfl).freeze (R:=aa) 0 rfl 1 rfl;exact⟨_,_,_,_,_,_,_,_,hS.mt [0,1,2] [17,16,1,0,27],hM⟩
     exact fz
    refine ai hS fun a hS=>?_;rcases cd hM with⟨hD,hM⟩|⟨hD,hM⟩
    ·refine ai hS fun a hS=>?_;obtain⟨c4,h8,hM⟩:=bd hM;refine wl rfl (cC hS nB rfl rfl 0 rfl (bE _ _ (hS.drop 0).dlt (aX.mk m.2.L m.2.At) 3 _ _ (hS.boxRow 0 rfl) (hS.notin 0 rfl) (aE.lent (i:=0) rfl (hS.get 1 rfl)) _ h8) fun _ w hR hk=>?_);obtain⟨i2,he,hrow,fs⟩:=hR;obtain rfl:=he.symm;refine⟨(bk c4.2 i2),hrow,fun a hS=>?_⟩;replace hS:=hS.fS (aE.back (i:=0) rfl fs);refine ai hS fun a hS=>?_;rcases cd hM with⟨hE,hM⟩|⟨hE,hM⟩
     ·refine ai hS fun a hS=>?_;refine dr [(2,.blk (some b)),(3,.bks []),(8,.blk (some p))] hS fun w hQ hS=>?_;refine dy (l:=[.blk (some b)]) 0 (v:=.agg #[al d,n,o]) rfl (by kernel_rfl) (by kernel_rfl) (by kernel_rfl) (by kernel_rfl) hQ hS (eU hS rfl fy 1 rfl (jZ hS 1 rfl rfl 0 rfl rfl (by decide) bP) (us:=[al d,n,o]) rfl rfl (fun h=>by cases h)) rfl rfl rfl fun a hS=>?_;refine gE [1] hS fun a hS=>?_;obtain⟨gi,h9,hM⟩:=bd hM;refine e1 2 (cC hS nB rfl rfl 0 rfl (bE _ _ (hS.drop 0).dlt (aX.mk c4.2.L c4.2.At) 200 _ _ (hS.boxRow 0 rfl) (hS.notin 0 rfl) (aE.lent (i:=0) rfl (hS.get 0 rfl)) _ h9) fun _ w hR hk=>?_);obtain⟨i3,he,hrow,fM⟩:=hR;obtain rfl:=he.symm;refine⟨(bk gi.2 i3),hrow,fun a hS=>⟨mx rfl hk kG,?_⟩⟩;replace hS:=(hS.fS (aE.back (i:=0) rfl fM)).fact (aR ac (.slice none 0 0) []) (aE.nil_ _ _ _);obtain⟨lv,ha,hM⟩:=bd hM;replace hS:=hS.re [] [0,1,2];refine e1 3 (de hS Pj rfl rfl (Bf _ _ hS.dltD (aj.mk d f g) gi.1 ([]) _ _ _ hS.dok (hS.getD 5 rfl) (hS.getD 6 rfl) (hS.getD 0 rfl) (hS.getD 7 rfl) _ ha) fun _ w hR a hk hA=>⟨mx rfl hk xW,?_⟩);obtain⟨ns,l0,ny,l1,o1,l2,he,g0,g1,g2,hF⟩:=hR;obtain rfl:=he.symm;have hS:=hA _ hF;replace hS:=((hS.fR (g0.keep (au _ _) (aB _))).fR (g1.keep (au _ _) (aB _))).fR (g2.keep (au _ _) (aB _));refine gE [4,5,6,7] hS fun a hS=>?_;refine es 8 hS fun w hS=>?_;refine eD ?_;replace hS:=(hS.freeze (R:=ae) 0 rfl 2 rfl).freeze (R:=aa) 0 rfl 2 rfl;exact⟨_,_,_,_,_,_,_,_,hS.mt [1,2,3] [8,6,1,0,12],hM⟩
     exact fz
    refine ai hS fun a hS=>?_;refine dr [(4,.blk (some b)),(10,.blk (some p))] hS fun w hQ hS=>?_;refine gE [0] hS fun a hS=>?_;refine dy (l:=[.blk (some b)]) 1 (v:=.agg #[al d,n,o]) rfl (by kernel_rfl) (by kernel_rfl) (by kernel_rfl) (by kernel_rfl) hQ hS (eU hS rfl fy 1 rfl (jZ hS 1 rfl rfl 0 rfl rfl (by decide) bP) (us:=[al d,n,o]) rfl rfl (fun h=>by cases h)) rfl rfl rfl fun a hS=>?_;refine gE [2,3] hS fun a hS=>?_;obtain⟨gp,hb,hM⟩:=bd hM;refine e1 4 (mG hS LJ rfl rfl 0 rfl (tS _ _ (hS.drop 0).dlt (aX.mk m.2.L m.2.At) e 2 _ _ _ (hS.boxRow 0 rfl) (hS.notin 0 rfl) (aE.lent (i:=0) rfl (hS.get 1 rfl)) (aE.lent (i:=0) rfl (hS.get 0 rfl)) (bC.keep (hS.get 4 rfl) (au _ _) (fun k hk=>.inl ((qb (i:=0) rfl k).1 hk))) _ hb) fun _ w hR hk=>?_);obtain⟨d0,bi,i4,he,⟨ds,dc,g3⟩,hrow,g4⟩:=hR;obtain rfl:=he.symm;refine⟨(bk gp.2 i4),[ay d0 bi],hrow,ei ⟨ds,by decide⟩ dc,sP _,fun a hS=>⟨mx rfl hk kG,?_⟩⟩;replace hS:=((hS.fR (g3.keep (au _ _) (Nw.back2 (i:=0) rfl [ay d0 bi] _))).fS (g4.sub (Nw.back2 (i:=0) rfl [ay d0 bi] _))).freeze (R:=ac) 0 rfl 1 rfl;obtain⟨m0,hc,hM⟩:=bd hM;refine ec 5 hS Pk (yW _ _ hS.dlt (hS.get 7 rfl) uu QG e (aj.mk d f g) gp.1 _ _ _ _ (hS.get 3 rfl) (hS.get 5 rfl) (hS.get 6 rfl) (hS.get 0 rfl) _ hc) fun _ w hR a hk hA=>?_;obtain⟨o2,o3,of,la,he,g5,g6,g7⟩:=hR;obtain rfl:=he.symm;have hS:=qD hA g7;replace hS:=(hS.fS (g5.sub (iB _))).fS (g6.sub (iB _));refine gE [6,7,8,9] hS fun a hS=>?_;refine es 10 hS fun w hS=>?_;refine eD ?_;exact⟨_,_,_,_,_,_,_,_,hS.mt [1,2,3] [6,4,1,0,10],hM⟩
   rintro a w ⟨bt,c0,ao,av,b0,c9,ca,cb,hS,hM⟩;unfold d8 at hM;exact fz
  refine ai hS fun a hS=>?_;cases hM
  have hr:=hf1 _ rfl;subst hr;have hM:pL d f g z A=some y:=hMo1;exact⟨_,_,_,_,_,_,_,_,hS.mt [1,2,0] [2,3,1,4],hM⟩
 rintro a w ⟨af,ag,ak,bl,bs,a5,a9,ab,hS,hM⟩;unfold pL at hM;refine go hS fun a w hS=>?_;cases hM
 refine aI hS rfl (rC 1 hS) ?_;exact⟨a5,a9,ab,rfl,(aE.up ⟨.inr (a6 (i:=2) rfl),trivial⟩ (hS.get 0 rfl)),(aE.up ⟨.inr (a6 (i:=2) rfl),trivial⟩ (hS.get 1 rfl)),hS.boxRow 2 rfl,(aE.up ⟨.inr (a6 (i:=2) rfl),trivial⟩ (hS.get 2 rfl))⟩
def rp (g:aX) (f:Int):Option (LU×aj×aX):=(rT g).bind fun c=>(l7 (aX.mk c.2.L c.2.At) 4).bind fun d=>(iU (aj.mk 0 ([]) ([])) d.1).bind fun e=>(rS (aX.mk d.2.L d.2.At) c.1 (aj.mk e.1.Revision e.1.Inputs e.1.Records) f).bind fun b=>some ((c.1,(aj.mk b.1.Revision b.1.Inputs b.1.Records),(aX.mk b.2.L b.2.At)))
theorem yH (T:Nat→Prop) (W0:World) (hT:TW T W0) (d:aX) (e:Int) (O:Value) (b:Nat) (I:W0.heap[b]? = some (.cells (bk d O).toArray 64 (0,0))) (P:¬ T b) (X:aE (aY.int .i64) (dT T [.box b (bk d O) 64]) W0 O d.L) (hLv:di (dT T [.box b (bk d O) 64]) W0) (y:LU×aj×aX) (hM:rp d e=some y):bj aP (fun k=>k=b) 8 [pt b 0,al e] W0 (fun v w'=>∃ (Y:Value) (Z:Value) (v5:Value) (p:Value),v = .tuple #[Y,.agg (bf y.2.1 Z v5).toArray]∧aE aC (dT T [.box b (bk y.2.2 p) 64]) w' Y y.1∧aE ae (dT T [.box b (bk y.2.2 p) 64]) w' Z y.2.1.Inputs∧aE aa (dT T [.box b (bk y.2.2 p) 64]) w' v5 y.2.1.Records∧w'.heap[b]? = some (.cells (bk y.2.2 p).toArray 64 (0,0))∧aE (aY.int .i64) (dT T [.box b (bk y.2.2 p) 64]) w' p y.2.2.L):=by
 refine sK (c:=_) Tryz.func8 rfl T 24 Tryz.ntmps8 hT rfl I P fun a hS=>?_;replace hS:=(hS.fact bC hLv).fS X;unfold rp at hM;refine ai hS fun a hS=>?_;refine ka hS mo fun a1 a3 a w hk hS=>?_;refine ai hS fun a hS=>?_;obtain⟨f,J,hM⟩:=bd hM;refine wl rfl (mG hS Pa rfl rfl 1 rfl (Cy _ _ (hS.drop 1).dlt d _ _ (hS.boxRow 1 rfl) (hS.notin 1 rfl) (aE.lent (i:=1) rfl (hS.get 0 rfl)) _ J) fun _ w hR hk=>?_);obtain⟨j,l,S,he,⟨t,q,x⟩,hrow,z⟩:=hR;obtain rfl:=he.symm;refine⟨(bk f.2 S),[cm j l],hrow,ei ⟨t,by decide⟩ q,sP _,fun a hS=>?_⟩;replace hS:=(hS.fR (x.keep (au _ _) (Nw.back2 (i:=1) rfl [cm j l] _))).fS (z.sub (Nw.back2 (i:=1) rfl [cm j l] _));refine ai hS fun a hS=>?_;refine qy hS (bq (ps:=[]) hS Km mo rfl (us:=[]) trivial (ws:=[al 0,.slice none 0 0,.slice none 0 0]) rfl) fun a hS=>?_;refine ai hS fun a hS=>?_;obtain⟨g,K,hM⟩:=bd hM;refine wl rfl (mG hS N7 rfl rfl 2 rfl (uO _ _ (hS.drop 2).dlt (aX.mk f.2.L f.2.At) 4 _ _ (hS.boxRow 2 rfl) (hS.notin 2 rfl) (aE.lent (i:=2) rfl (hS.get 0 rfl)) (bC.keep (hS.get 3 rfl) (au _ _) (fun k hk=>.inl ((qb (i:=2) rfl k).1 hk))) _ K) fun _ w hR hk=>?_);obtain⟨o,m,U,he,⟨u,s,A⟩,hrow,B⟩:=hR;obtain rfl:=he.symm;refine⟨(bk g.2 U),[ba o m],hrow,ei ⟨u,by decide⟩ s,sP _,fun a hS=>?_⟩;replace hS:=((((hS.fR (A.keep (au _ _) (Nw.back2 (i:=2) rfl [ba o m] _))).fS (B.sub (Nw.back2 (i:=2) rfl [ba o m] _))).fact (aR ae (.slice none 0 0) []) (aE.nil_ _ _ _)).fact (aR aa (.slice none 0 0) []) (aE.nil_ _ _ _)).freeze (R:=ad) 0 rfl 3 rfl;obtain⟨n,M,hM⟩:=bd hM;refine kc hS LG (sS _ _ hS.dlt (hS.get 8 rfl) (aj.mk 0 ([]) ([])) g.1 _ _ _ (hS.get 2 rfl) (hS.get 1 rfl) (hS.get 0 rfl) _ M) fun _ w hR a hk hA=>?_;obtain⟨a5,a9,he,C,D⟩:=hR;obtain rfl:=he.symm;have hS:=hA [] (fun r hr=>by cases hr) tD;replace hS:=(hS.fS (C.sub (iB _))).fS (D.sub (iB _));refine ai hS fun a hS=>?_;refine ka hS mo fun a2 a4 a w hk hS=>?_;refine go hS fun a w hS=>?_;replace hS:=hS.freeze (R:=aC) 1 rfl 8 rfl;obtain⟨Q,N,hM⟩:=bd hM;refine wl rfl (cC hS Pb rfl rfl 2 rfl (Cx _ _ (hS.drop 2).dlt (aX.mk g.2.L g.2.At) f.1 (aj.mk n.1.Revision n.1.Inputs n.1.Records) e _ _ _ _ _ (hS.boxRow 2 rfl) (hS.notin 2 rfl) (aE.lent (i:=2) rfl (hS.get 6 rfl)) (aE.lent (i:=2) rfl (hS.get 0 rfl)) (aE.lent (i:=2) rfl (hS.get 2 rfl)) (aE.lent (i:=2) rfl (hS.get 1 rfl)) (bC.keep (hS.get 11 rfl) (au _ _) (fun k hk=>.inl ((qb (i:=2) rfl k).1 hk))) _ N) fun _ w hR hk=>?_);obtain⟨V,W,H,he,E,F,hrow,G⟩:=hR;obtain rfl:=he.symm;refine⟨(bk Q.2 H),hrow,fun a hS=>?_⟩;replace hS:=((hS.fS (aE.back (i:=2) rfl E)).fS (aE.back (i:=2) rfl F)).fS (aE.back (i:=2) rfl G);refine go hS fun a w hS=>?_;cases hM
 refine aI hS Tryz.results8 (aq hS rfl (bn hS rfl 1 rfl fy rfl (fun h=>by cases h) aH)) ?_;exact⟨j,V,W,H,rfl,(aE.up ⟨.inr (a6 (i:=2) rfl),trivial⟩ (hS.get 3 rfl)),(aE.up ⟨.inr (a6 (i:=2) rfl),trivial⟩ (hS.get 2 rfl)),(aE.up ⟨.inr (a6 (i:=2) rfl),trivial⟩ (hS.get 1 rfl)),hS.boxRow 2 rfl,(aE.up ⟨.inr (a6 (i:=2) rfl),trivial⟩ (hS.get 0 rfl))⟩
end
end
section
open Go.RowKit
open Go.Lib hiding intOf
structure Hh (c:am):Prop where
 key:∃ n,n<10∧c.Key=bz n
 value:c.Value.size≤1000
theorem wQ.le {rev rev':Int} {x:aN} (h:wQ rev x) (hl:rev≤rev'):wQ rev' x:=⟨h.key,h.value,h.low,by have:=h.high; omega⟩
section
variable {l:List aW} {b:aj}
theorem ui.le {rev rev':Int} {r:aw} (h:ui l rev r) (hl:rev≤rev'):ui l rev' r:=⟨h.key,h.value,h.reads,h.good,h.low,h.mid,by have:=h.high; omega,h.cost,h.dirty⟩
theorem ki.rise (h:ki l b) (hr:b.Revision+1≤1000000) {ins:List aN} (h1:qF ins) (h2:∀ x∈ins,wQ (b.Revision+1) x):ki l (aj.mk (b.Revision+1) ins b.Records) :=
 ⟨⟨by have:=h.rev; show 0≤b.Revision+1; omega,hr⟩,h2,h1,fun r hm=>(h.recs r hm).le (by show b.Revision≤b.Revision+1; omega),h.recsA⟩
theorem Kp {ins:List aN} {rev:Int} (h:∀ x∈ins,wQ rev x) {x:aN} (hx:wQ rev x):∀ y∈qZ ins x,wQ rev y:=fun y hy=>by
 rcases xa.1 hy with rfl | ⟨hy,_⟩
 ·exact hx
 ·exact h y hy
theorem FG {ins:List aN} (h1:qF ins) {rev:Int} (h2:∀ x∈ins,wQ rev x):ins.length≤10:=by
 have h3:=pp (yc (f:=aN.Key) h1) (m:=(List.range 10).map bz) fun k hk=>by
  obtain⟨r,hr,rfl⟩:=gq.1 hk;obtain⟨n,hn,e⟩:=(h2 r hr).key;exact gq.2 ⟨n,vg.2 hn,e.symm⟩
 simpa using h3
theorem zk (hR:bX l) (h:ki l b) (hr:b.Revision+1≤1000000) {cs:List am} (hc:∀ c∈cs,Hh c) (hn:cs.length≤32):Ok (iU b cs) fun y=>ki l y.1∧y.1.Revision≤b.Revision+1:=by
 have hl:=hR.high;have hcp:=uF (h.rm hl).1 (h.rm hl).2.1;have hrev:=h.rev;have hw:IntKind.i64.wrap (b.Revision+1)=b.Revision+1:=pX (by omega) (by omega);unfold iU;refine aM hcp (aM (CO h hl) ?_);rw [decide_eq_false (by omega)];simp only [dh,cond_false];refine aM (fX (r:=Fl.go ()) cs.length (fun k hk=>?_) ?_) ?_
 ·obtain⟨n,hn,e⟩:=(hc _ (m7 hk)).key;unfold fb;rw [dlt hk,cond_true,bW hk,ax,e,rF (by omega),ax];simp only [dh,cond_false];rw [nA,ax,cJ (by omega)]; rfl
 ·unfold fb;rw [bA]; rfl
 show Ok (f9 cs b) _;unfold f9;refine aM (fX (r:=Fl.go ()) cs.length (fun k hk=>?_) ?_) ?_
 ·have:=(hc _ (m7 hk)).value;unfold fa;rw [dlt hk,cond_true,bW hk,ax,decide_eq_false (by omega),cJ (by omega)]; rfl
 ·unfold fa;rw [bA]; rfl
 show Ok (f8 cs b) _;unfold f8;refine aM hcp ?_;refine cc (fun (k:Nat) (s:Bool×Int×List aN)=>s.2.1=k∧qF s.2.2∧(∀ x∈s.2.2,wQ (b.Revision+1) x)∧k≤cs.length) (fun r=>qF r.2∧∀ x∈r.2,wQ (b.Revision+1) x) cs.length ⟨rfl,h.insA,fun x hx=>(h.ins x hx).le (by omega),cR _⟩ ?_ ?_
 ·rintro k ⟨ch,g,ins⟩ hk ⟨rfl,h1,h2,_⟩;dsimp only at h1 h2 ⊢;unfold gc;refine aF (fun hlt=>?_) (fun _=>ar ⟨h1,h2⟩);have hlt:k<cs.length:=by have:=of_decide_eq_true hlt; omega
  have hcO:=hc _ (m7 hlt);refine aM (bW hlt) ?_;generalize cs[k]=c at hcO;rw [cJ (by omega)];refine aM (ud (by omega)) ?_;have hd:(cs.drop (k+1)).length≤32:=by rw [sm]; omega
  have hj2:∀ ch' ins',qF ins'→(∀ x∈ins',wQ (b.Revision+1) x)→Ok (fL (k:Int) ch' ins') fun y=>match y with
    | .go s=>k<cs.length∧(s.2.1=((k+1:Nat):Int)∧qF s.2.2∧(∀ x∈s.2.2,wQ (b.Revision+1) x)∧k+1≤cs.length)
    | .out r=>qF r.2∧∀ x∈r.2,wQ (b.Revision+1) x:=fun ch' ins' q1 q2=>ar ⟨hlt,cJ (by omega),q1,q2,hlt⟩
  refine cc (fun (i:Nat) (s:Bool×Int)=>s.2=i∧i≤(cs.drop (k+1)).length) (fun _=>True) (cs.drop (k+1)).length ⟨rfl,cR _⟩ ?_ ?_
  ·rintro i ⟨la,q⟩ hi ⟨rfl,_⟩;dsimp only;unfold ga;refine aF (fun hlt2=>?_) (fun _=>ar trivial);have hlt2:i<(cs.drop (k+1)).length:=by have:=of_decide_eq_true hlt2; omega
   refine aM (bW hlt2) (aF (fun _=>ar ⟨hlt2,cJ (by omega),hlt2⟩) (fun _=>ar ⟨hlt2,cJ (by omega),hlt2⟩))
  ·intro la _;unfold lM;refine aF (fun _=>(hj2 _ _ h1 h2).mono fun y hy=>by cases y <;> exact hy) (fun _=>aM (FD (h.rm hl).2.1 _) (aF (fun _=>(hj2 _ _ h1 h2).mono fun y hy=>by cases y <;> exact hy) (fun _=>?_)));have hil:=FG h1 h2;have hput:=BI (r:=aN.mk c.Key c.Value (b.Revision+1)) h1 (by unfold Rm; omega) (u:=b) hw (k:Int);have hput2:((loop (fun s:(List aN)×Bool×Int=>fQ b ins c s.1 s.2.1 s.2.2) (([]:List aN),false,0)).bind fun q=>eL b (k:Int) c q.1 q.2)=d9 (k:Int) (qZ ins (aN.mk c.Key c.Value (b.Revision+1))):=hput;rw [hput2];unfold d9;exact (hj2 _ _ (DN h1 _) (Kp h2 ⟨hcO.key,hcO.value,by show 0≤b.Revision+1; omega,nM _⟩)).mono fun y hy=>by cases y <;> exact hy
 ·rintro⟨ch,ins⟩ ⟨h1,h2⟩;dsimp only at h1 h2 ⊢;have hil:=FG h1 h2;unfold jN;rw [hw];refine aF (fun _=>ar ⟨h,by show b.Revision≤b.Revision+1; omega⟩) (fun _=>?_);rw [decide_eq_false (by omega),decide_eq_false (by omega)];exact ar ⟨h.rise hr h1 h2,nM _⟩
theorem Gu {d:List Int} {i:Int} (hd:cp d i):Ok (qi ⟨d,i⟩) fun y=>Hh y.1∧cp y.2.L y.2.At:=by
 unfold qi;refine aQ (dN hd (by omega) (by omega)) fun y ⟨y1,y2,d1⟩=>?_;obtain⟨c,hc⟩:∃ c:Nat,y.1=c:=⟨y.1.toNat,by omega⟩;rw [hc];refine aM (kq (by omega)) (aQ (CQ d1 (by simp) (by simp)) fun w ⟨w1,d2⟩=>ar ⟨⟨⟨c,by omega,rfl⟩,?_⟩,d2⟩);have:∀ s∈[(ByteArray.mk #[48]),(ByteArray.mk #[49]),(ByteArray.mk #[50]),(ByteArray.mk #[51]),(ByteArray.mk #[55]),(ByteArray.mk #[49,48,48]),bI,(ByteArray.mk #[120]),(ByteArray.mk #[49,54]),(ByteArray.mk #[49])],s.size≤1000:=by decide
 exact this _ w1
theorem zu {d:List Int} {i:Int} (hd:cp d i) {most:Int} (h1:0≤most) (h2:most≤30):Ok (l7 ⟨d,i⟩ most) fun y=>(∀ c∈y.1,Hh c)∧(y.1.length:Int)≤most∧cp y.2.L y.2.At:=by
 unfold l7;rw [pX (by omega) (by omega)];refine aQ (dN hd (by omega) (by omega)) fun y ⟨y1,y2,d1⟩=>?_;refine cc (fun (k:Nat) (s:(List am)×Int×(List Int)×Int)=>(∀ q∈s.1,Hh q)∧s.1.length=k∧s.2.1=y.1-k∧0≤s.2.1∧cp s.2.2.1 s.2.2.2) (fun r=>(∀ q∈r.1,Hh q)∧(r.1.length:Int)≤most∧cp r.2.1 r.2.2) 31 ⟨fun q hq=>absurd hq gn,rfl,by simp,y1,d1⟩ ?_ (fun r hr=>ar hr);rintro k ⟨gs,c,d,i⟩ hk ⟨g1,g2,g3,g3',g4⟩;dsimp only at g1 g2 g3 g3' g4 ⊢;unfold nb;refine aF (fun hc=>?_) (fun _=>ar ⟨g1,by show (gs.length:Int)≤most; omega,g4⟩);have hc:=of_decide_eq_true hc;have hw:IntKind.i64.wrap (c-1)=c-1:=pX (by omega) (by omega);refine aQ (Gu g4) fun z ⟨z1,z2⟩=>dM (dX (by simp; omega)) (ar ⟨by omega,?_,by rw [cS,g2]; rfl,?_,?_,z2⟩)
 ·intro q hq;rcases dz.1 hq with hq | hq
  ·exact g1 q hq
  ·rw [eG.1 hq]; exact z1
 ·show IntKind.i64.wrap (c-1)=_;rw [hw]; omega
 ·show 0≤IntKind.i64.wrap (c-1);rw [hw]; omega
theorem Gq (x y:aw):Ok (oL x y) fun _=>True:=by
 unfold oL px;refine aM rfl (aM rfl (aF (fun _=>ar trivial) (fun _=>aF (fun _=>ar trivial) (fun _=>aM (mm _ _) (ar trivial)))))
theorem Ir {recs:List aw} (h:recs.length≤1000):Ok (qv recs) fun o=>o.length≤recs.length:=by
 unfold qv;refine cc (fun (k:Nat) (s:List aw×Int)=>s.2=k∧s.1.length=k∧k≤recs.length) (fun o=>o.length≤recs.length) recs.length ⟨rfl,rfl,cR _⟩ ?_ (fun o ho=>ar ho);rintro k ⟨out,g⟩ hk ⟨rfl,hlen,_⟩;dsimp only at hlen ⊢;unfold oP;refine aF (fun hlt=>?_) (fun _=>ar (by show out.length≤_; omega));have hlt:k<recs.length:=by have:=of_decide_eq_true hlt; omega
 refine aM (bW hlt) ?_;refine cc (fun (i:Nat) (s:Int)=>s=i∧i≤out.length) (fun r=>∃ i:Nat,r=i∧i≤out.length) out.length ⟨rfl,cR _⟩ ?_ ?_
 ·rintro i _ hi ⟨rfl,_⟩;unfold oO;refine aF (fun hlt2=>?_) (fun _=>ar ⟨i,rfl,hi⟩);have hlt2:i<out.length:=by have:=of_decide_eq_true hlt2; omega
  refine aM (bW hlt2) (aQ (Gq _ _) fun y _=>aF (fun _=>ar ⟨hlt2,cJ (by omega),hlt2⟩) (fun _=>ar ⟨i,rfl,hi⟩))
 ·rintro _ ⟨i,rfl,hi⟩;unfold oN oM;refine aM (pF hi) (aM (ud hi) ?_);have e1:(out.take i).length=i:=by rw [fe]; omega
  have e2:(out.drop i).length=out.length-i:=sm;refine dM (dX (by simp; omega)) (dM (dX (by simp; omega)) (dM (dX (by simp; omega)) (ar ⟨hlt,cJ (by omega),?_,hlt⟩)));simp only [AI,cS,gH,sH];omega
theorem I0 {recs:List aw} (h:recs.length≤1000):Ok (qu recs) fun _=>True:=by
 unfold qu;refine cc (fun (k:Nat) (s:Int×Int)=>s.2=k∧k≤recs.length) (fun _=>True) recs.length ⟨rfl,cR _⟩ ?_ (fun r _=>ar trivial);rintro k ⟨n,g⟩ hk ⟨rfl,_⟩;dsimp only;unfold oK;refine aF (fun hlt=>?_) (fun _=>ar trivial);have hlt:k<recs.length:=by have:=of_decide_eq_true hlt; omega
 exact aM (bW hlt) (aM rfl (ar ⟨hlt,cJ (by omega),hlt⟩))
theorem HN (hR:bX l) (h:ki l b) {budget:Int} (h1:0≤budget) (h2:budget≤1000):Ok (qt b budget []) fun y=>wi l b y.1:=by
 have hl:=hR.high;have hnr:=h.nrec;unfold qt;refine aM (CO h hl) ?_;rw [decide_eq_false (by omega),decide_eq_false (by omega)];simp only [dh,cond_false];refine aM (uF (h.rm hl).1 (h.rm hl).2.1) (aQ (Ir (by omega)) fun o ho=>?_);refine cc (fun (k:Nat) (s:List ah×Int×List aw)=>s.2.1=k∧k≤o.length∧s.1.length≤k∧ki l (aj.mk b.Revision b.Inputs s.2.2)) (fun r=>ki l (aj.mk b.Revision b.Inputs r.2)) o.length ⟨rfl,cR _,cR _,h⟩ ?_ (fun r hr=>ar ⟨hr,rfl,rfl⟩);rintro k ⟨gone,g,recs⟩ hk ⟨rfl,_,hg,hb⟩;dsimp only at hg hb ⊢;have hrl:recs.length≤l.length:=hb.nrec;unfold oJ;refine aF (fun hlt=>?_) (fun _=>ar hb);have hlt:k<o.length:=by have:=of_decide_eq_true hlt; omega
 refine aM (bW hlt) (aQ (I0 (by omega)) fun t _=>?_);have hj3:∀ q,Ok (jR gone (k:Int) recs o[k] q) fun y=>match y with
   | .go s=>k<o.length∧(s.2.1=((k+1:Nat):Int)∧k+1≤o.length∧s.1.length≤k+1∧ki l (aj.mk b.Revision b.Inputs s.2.2))
   | .out r=>ki l (aj.mk b.Revision b.Inputs r.2):=fun q=>by
  unfold jR lT;refine aF (fun _=>aM (Am (by unfold Rm; omega) _) (dM (dX (by simp; omega)) (ar ⟨hlt,cJ (by omega),hlt,by rw [cS]; simp; omega,hb.filter _⟩))) (fun _=>ar ⟨hlt,cJ (by omega),hlt,by show gone.length≤k+1; omega,hb⟩)
 exact aF (fun _=>aM (yi (by unfold Rm; simp) _) ((hj3 _).mono fun y hy=>by cases y <;> exact hy)) (fun _=>(hj3 _).mono fun y hy=>by cases y <;> exact hy)
theorem H9 (hR:bX l) (h:ki l b) {d:List Int} {i:Int} (hd:cp d i) {most:Int} (h1:0≤most) (h2:most≤1000) (h3:b.Revision≤1000):Ok (rS ⟨d,i⟩ l b most) fun y=>ki l y.1∧y.1.Revision≤b.Revision+most∧cp y.2.L y.2.At:=by
 unfold rS;rw [pX (by omega) (by omega)];refine aQ (dN hd (by omega) (by omega)) fun y ⟨y1,y2,d1⟩=>?_;refine cc (fun (k:Nat) (s:Int×(List Int)×Int×Int×(List aN)×(List aw))=>s.1=y.1-k∧0≤s.1∧cp s.2.1 s.2.2.1∧ki l (aj.mk s.2.2.2.1 s.2.2.2.2.1 s.2.2.2.2.2)∧s.2.2.2.1≤b.Revision+k) (fun r=>ki l (aj.mk r.1 r.2.1 r.2.2.1)∧r.1≤b.Revision+most∧cp r.2.2.2.1 r.2.2.2.2) 2000 ⟨by simp,y1,d1,h,by show b.Revision≤_; simp⟩ ?_ (fun r hr=>ar hr);rintro k ⟨c,d,i,rev,ins,recs⟩ hk ⟨g1,g2,g3,g4,g5⟩;dsimp only at g1 g2 g3 g4 g5 ⊢;unfold pN;refine aF (fun hc=>?_) (fun _=>ar ⟨g4,by show rev≤_; omega,g3⟩);have hc:=of_decide_eq_true hc;have hw:IntKind.i64.wrap (c-1)=c-1:=pX (by omega) (by omega);have hj2:∀ {d i rev' ins' recs'},cp d i→ki l (aj.mk rev' ins' recs')→rev'≤rev+1→Ok (d8 c d i rev' ins' recs') fun y'=>match y' with
   | .go s=>k<2000∧(s.1=y.1-((k+1:Nat):Int)∧0≤s.1∧cp s.2.1 s.2.2.1∧ki l (aj.mk s.2.2.2.1 s.2.2.2.2.1 s.2.2.2.2.2)∧s.2.2.2.1≤b.Revision+((k+1:Nat):Int))
   | .out r=>ki l (aj.mk r.1 r.2.1 r.2.2.1)∧r.1≤b.Revision+most∧cp r.2.2.2.1 r.2.2.2.2:=by
  intro d i rev' ins' recs' q1 q2 q3;unfold d8;rw [hw];exact ar ⟨by omega,by show c-1=_; omega,by show 0≤c-1; omega,q1,q2,by show rev'≤_; omega⟩
 have hL:∀ {d i} {b':aj},cp d i→wi l (aj.mk rev ins recs) b'→Ok (d8 c d i b'.Revision b'.Inputs b'.Records) fun y'=>match y' with
   | .go s=>k<2000∧(s.1=y.1-((k+1:Nat):Int)∧0≤s.1∧cp s.2.1 s.2.2.1∧ki l (aj.mk s.2.2.2.1 s.2.2.2.2.1 s.2.2.2.2.2)∧s.2.2.2.1≤b.Revision+((k+1:Nat):Int))
   | .out r=>ki l (aj.mk r.1 r.2.1 r.2.2.1)∧r.1≤b.Revision+most∧cp r.2.2.2.1 r.2.2.2.2:=fun q1 q2=>hj2 q1 q2.ok (by have:=q2.rev; rw [this]; show rev≤rev+1; omega)
 refine aQ (dN g3 (by omega) (by omega)) fun w ⟨w1,w2,d2⟩=>?_;have hj4:∀ q,Ok (jd l c rev ins recs w q) fun y'=>match y' with
   | .go s=>k<2000∧(s.1=y.1-((k+1:Nat):Int)∧0≤s.1∧cp s.2.1 s.2.2.1∧ki l (aj.mk s.2.2.2.1 s.2.2.2.2.1 s.2.2.2.2.2)∧s.2.2.2.1≤b.Revision+((k+1:Nat):Int))
   | .out r=>ki l (aj.mk r.1 r.2.1 r.2.2.1)∧r.1≤b.Revision+most∧cp r.2.2.2.1 r.2.2.2.2:=fun q=>by
  unfold jd;refine aF (fun _=>?_) (fun _=>aF (fun _=>?_) (fun _=>aF (fun _=>?_) (fun _=>?_)))
  ·refine aQ (zu d2 (by omega) (by omega)) fun z ⟨z1,z2,d3⟩=>aQ (zk hR g4 (by show rev+1≤1000000; omega) z1 (by omega)) fun u ⟨u1,u2⟩=>hj2 d3 u1 u2
  ·refine aQ (Do hR d2 (by omega) (by omega)) fun z ⟨z1,z2,d3⟩=>?_;obtain⟨t,ht,ht2,ht3⟩:=IV hR g4 z1 z2;refine aM ht ?_;unfold pM;simp only [show ((0:Int)==0)=true from rfl,cond_true];refine aQ (dN d3 (by omega) (by omega)) fun u ⟨u1,u2,d4⟩=>aQ (IK hR g4 ht2 ht3 (by omega)) fun t2 ht4=>aQ (Gs hR ht4 (by omega)) fun b2 hb2=>hL d4 hb2
  ·refine aQ (dN d2 (by omega) (by omega)) fun z ⟨z1,z2,d3⟩=>aF (fun _=>?_) (fun _=>hL d3 ⟨g4,rfl,rfl⟩);exact aQ (dN d3 (by omega) (by omega)) fun u ⟨u1,u2,d4⟩=>aQ (HN hR g4 u1 (by omega)) fun v hv=>hL d4 hv
  ·exact aQ (Do hR d2 (by omega) (by omega)) fun z ⟨z1,z2,d3⟩=>aQ (EU hR g4 z1 z2) fun u hu=>hL d3 hu
 exact aF (fun _=>(hj4 _).mono fun y hy=>by cases y <;> exact hy) (fun _=>aF (fun _=>(hj4 _).mono fun y hy=>by cases y <;> exact hy) (fun _=>(hj4 _).mono fun y hy=>by cases y <;> exact hy))
end
theorem Jx {d:List Int} {i:Int} (hd:cp d i) {most:Int} (h1:0≤most) (h2:most≤900):Ok (rp ⟨d,i⟩ most) fun y=>bX y.1∧ki y.1 y.2.1∧y.2.1.Revision≤most+1∧cp y.2.2.L y.2.2.At:=by
 unfold rp;refine aQ (IJ hd) fun y ⟨hR,d1⟩=>aQ (zu d1 (by omega) (by omega)) fun z ⟨z1,z2,d2⟩=>?_;have h0:ki y.1 (aj.mk 0 [] []):=⟨⟨by show (0:Int)≤0; omega,by show (0:Int)≤1000000; omega⟩,fun x hx=>absurd hx gn,tD,fun x hx=>absurd hx gn,tD⟩;refine aQ (zk hR h0 (by show (0:Int)+1≤1000000; omega) z1 (by omega)) fun u ⟨u1,u2⟩=>?_;have u2:u.1.Revision≤0+1:=u2;exact aQ (H9 hR u1 d2 h1 (by omega) (by omega)) fun v ⟨v1,v2,d3⟩=>ar ⟨hR,v1,by show v.1.Revision≤most+1; omega,d3⟩
end
section
open Go.RowKit
open Go.Lib hiding intOf
theorem Gx {s:List ah} (h:Rm s.length):nP s=some s:=by
 unfold nP Rm at *;rw [show bH (([]:List ah).length+s.length)=true from dX (by simp; omega)]; rfl
theorem Gy {s:List aw} (h:Rm s.length):ob s=some s:=by
 unfold ob Rm at *;rw [show bH (([]:List aw).length+s.length)=true from dX (by simp; omega)]; rfl
theorem MW {r:aw} (h:Rm r.Reads.length):rW r=some r:=by
 unfold rW;rw [Gx h]; rfl
theorem JL {l:List aw} (h:Jg l):qj l=some l:=by
 unfold qj;rw [Gy h.1,ax];refine gr (cD (xs:=l) (fun k=>(l,(k:Int))) rfl (r:=l) (fun k x hx=>?_) ?_) rfl
 ·unfold lD;dsimp only;rw [cU hx,cond_true,aZ,hx,ax,MW (h.2 x (a6 hx)),cJ (by have:=bc hx; have:=h.1; unfold Rm at this; omega)];simp only [ax,tH];rw [IQ hx]
 ·unfold lD;dsimp only;rw [bA]; rfl
theorem GM (k:ah):rP k=some (rJ k):=by
 unfold rP l6 ov rJ kS iF eI li;have hb:∀ n:Int,((k.Kind:Int)==n)=decide (k.Kind=n):=fun n=>by rw [Bool.eq_iff_iff]; simp
 rw [hb,hb,hb,hb,hb];by_cases h32:k.Kind=32
 ·simp [h32]
 ·by_cases h7:k.Kind=7
  ·simp [h7]
  ·by_cases h14:k.Kind=14
   ·simp [h14]
   ·by_cases h17:k.Kind=17
    ·simp [h17]
    ·by_cases h18:k.Kind=18
     ·simp [h18]
     ·simp only [h32,h7,h14,h17,h18,decide_false,Bool.or_false,cond_false];cases decide ((1:Int)≤k.Kind) <;> cases decide ((k.Kind:Int)≤22) <;> rfl
section
variable {l:List aW} {b:aj}
theorem HS {ins:List aN} (hl:Rm ins.length) (k:ah):cy (fun x0=>dL x0 k) ins=some (if ins.findIdx (fun x=>eo x.Key k)<ins.length then (ins.findIdx (fun x=>eo x.Key k):Int) else -1):=by
 unfold Rm at hl;unfold cy;have hgo:∀ (i:Nat) (x:aN),ins[i]? = some x→eo x.Key k=false→a7 ins (fun x0=>dL x0 k) (i:Int)=some (.go ((i+1:Nat):Int)):=fun i x hx hp=>by
  unfold a7;rw [cU hx,cond_true,aZ,hx,ax,cJ (by have:=bc hx; omega)];show (some (eo x.Key k)).bind _=_;rw [hp]; rfl
 have hy:∀ (i:Nat) (x:aN),ins[i]? = some x→eo x.Key k=true→a7 ins (fun x0=>dL x0 k) (i:Int)=some (.out (.out (i:Int))):=fun i x hx hp=>by
  unfold a7;rw [cU hx,cond_true,aZ,hx,ax];show (some (eo x.Key k)).bind _=_;rw [hp]; rfl
 have hn:a7 ins (fun x0=>dL x0 k) (ins.length:Int)=some (.out (.go ())):=by
  unfold a7;rw [bA]; rfl
 have hlow:∀ i,i<ins.findIdx (fun x=>eo x.Key k)→∀ x,ins[i]? = some x→eo x.Key k=false:=fun i hi x hx=>by
  have h1:=List.not_of_lt_findIdx hi;obtain⟨h2,h3⟩:=bN.1 hx;rw [← h3];simpa using h1
 have hat:∀ x,ins[ins.findIdx (fun x=>eo x.Key k)]? = some x→eo x.Key k=true:=fun x hx=>by
  obtain⟨h2,h3⟩:=bN.1 hx;rw [← h3];exact List.findIdx_getElem (p:=fun x:aN=>eo x.Key k) (w:=h2)
 generalize ins.findIdx (fun x=>eo x.Key k)=j at hlow hat;by_cases h:j<ins.length
 ·rw [if_pos h];have e:=bS h;have hlp:=vu (B:=fun s:Int=>a7 ins (fun x0=>dL x0 k) s) (fun i=>(i:Int)) j (s0:=0) rfl (r:=Fl.out (j:Int)) (fun i hi=>hgo i _ (bS (show i<ins.length by omega)) (hlow i hi _ (bS (show i<ins.length by omega)))) (hy j _ e (hat _ e));rw [hlp]; rfl
 ·rw [if_neg h];have hlp:=vu (B:=fun s:Int=>a7 ins (fun x0=>dL x0 k) s) (fun i=>(i:Int)) ins.length (s0:=0) rfl (r:=Fl.go ()) (fun i hi=>hgo i _ (bS hi) (hlow i (by omega) _ (bS hi))) hn;rw [hlp]; rfl
theorem EX (hb:Rm b.Inputs.length) (k:ah):Ok (mY b k) fun x=>x.Value=(vH b k).Value∧x.Changed=(vH b k).Changed:=by
 unfold mY;refine aM (HS hb k) ?_;unfold vH;by_cases h:b.Inputs.findIdx (fun x=>eo x.Key k)<b.Inputs.length
 ·have e:=bS h;rw [if_pos h,decide_eq_false (by omega),cond_false];refine aM (by rw [aZ]; exact e) (ar ?_);rw [List.find?_eq_getElem?_findIdx,e];exact⟨rfl,rfl⟩
 ·rw [if_neg h,show decide ((-1:Int)<0)=true from rfl,cond_true,List.find?_eq_getElem?_findIdx,tG (by omega)];exact ar ⟨rfl,rfl⟩
theorem ID (hb:Rm b.Inputs.length) (k:ah):oV b k=some (vH b k).Value:=by
 unfold oV;obtain⟨x,e,h,_⟩:=EX hb k;rw [e,ax,h]
theorem Kk {f:ah→Option Bool} {s:List ah} (hl:Rm s.length) (h:∀ x∈s,f x=some false):mC f s=some false:=by
 unfold Rm at hl;have e:rM f s=some (-1):=by
  unfold rM;refine gr (fX (r:=Fl.go ()) s.length (fun k hk=>?_) ?_) rfl
  ·unfold mF;rw [dlt hk,cond_true,bW hk,ax,h _ (m7 hk),cJ (by omega)]; rfl
  ·unfold mF;rw [bA]; rfl
 unfold mC;rw [e]; rfl
theorem Ij {f:am→Option Bool} {s:List am} (hl:Rm s.length) (h:∀ x∈s,f x=some false):bK f s=some false:=by
 unfold Rm at hl;have e:cn f s=some (-1):=by
  unfold cn;refine gr (fX (r:=Fl.go ()) s.length (fun k hk=>?_) ?_) rfl
  ·unfold bZ;rw [dlt hk,cond_true,bW hk,ax,h _ (m7 hk),cJ (by omega)]; rfl
  ·unfold bZ;rw [bA]; rfl
 unfold bK;rw [e]; rfl
theorem BP {n:Nat} (h:n<100):dv (rk l n)=some true:=by
 unfold rk;exact I5 (by split <;> simp) h
theorem uE {n:Nat} (h:n<100):dv (bz n)=some true:=Dz h
theorem zZ (k:ah):l4 k=cr k:=rfl
theorem o9.kvalid (hl:l.length≤8) {k:ah} (h:o9 l k):dv k=some true:=by
 rcases h with⟨c,hc,rfl⟩|⟨n,hn,rfl⟩
 ·exact uE (by omega)
 ·exact BP (by omega)
theorem Iz (hl:l.length≤8) {rev:Int} (hrev:rev≤1000000) {r:aw} (h:ui l rev r):ow r=some true:=by
 obtain⟨n,hn,hk⟩:=h.key;have h3:=h.reads;have h4:=h.value;have h5:=h.low;have h6:=h.mid;have h7:=h.high;have h8:=h.cost;have hj:dI r false=some true:=by
  unfold dI;rw [cond_false,decide_eq_true (by omega),decide_eq_true (by omega),decide_eq_true (by omega),decide_eq_true (by omega),decide_eq_true (by omega)];simp only [cond_true];rw [Kk (by unfold Rm; omega) fun x hx=>by unfold lE; rw [(h.good x hx).kvalid hl]; rfl]; rfl
 unfold ow;rw [hk,BP (by omega),ax,zZ,xv,ax,decide_eq_false (by omega),decide_eq_false (by omega)];simp only [dh,cond_false];cases hd:r.Dirty with
 | false=>exact hj
 | true =>
  have:=h.dirty hd;rw [hk] at this;rw [cond_true,GM,this];exact hj
theorem M0 (h:ki l b) (hl:l.length≤8):jJ b.Records=some true:=by
 have hn:=h.nrec;unfold jJ;refine gr (fX (r:=Fl.go ()) b.Records.length (fun k hk=>?_) ?_) ?_
 ·unfold gj;rw [dlt hk,cond_true,bW hk,ax,Iz hl h.rev.2 (h.recs _ (m7 hk)),ax];have hj:dU (k:Int) false=some (.go ((k+1:Nat):Int)):=by unfold dU; rw [cJ (by omega)]; rfl
  simp only [dh,cond_false];rcases yr k with h0 | h0
  ·subst h0;exact hj
  ·rw [decide_eq_true (by omega),cond_true,show IntKind.i64.wrap ((k:Int)-1)=((k-1:Nat):Int) by rw [pX (by omega) (by omega)]; omega,bW (show k-1<b.Records.length by omega),ax,zx,ax];have:=gG.1 h.recsA (k-1) k (by omega) hk (by omega);rw [decide_eq_false (by omega)];exact hj
 ·unfold gj;rw [bA]; rfl
 ·show some (decide ((b.Records.length:Int)≤4000))=some true;rw [decide_eq_true (by omega)]
theorem IE {c:Nat} (hc:c<100):iq (bz c)=some true:=by
 unfold iq;rw [uE hc,ax,cond_true,zZ,nA]; rfl
end
end
section
open Go.RowKit
open Go.Lib hiding intOf
theorem Js {l:List aN} {b:aj} (h:qF l) (hl:Rm l.length) (hb:Rm b.Inputs.length) (ch:Bool) {r:aN} (hrev:IntKind.i64.wrap (b.Revision+1)=r.Changed) (hne:(vH b r.Key).Value≠r.Value):cP b ch l r.Key r.Value=some (true,qZ l r):=by
 have hl1:=hl;unfold Rm at hl1;have hn:((vH b r.Key).Value.toList==r.Value.toList)=false:=beq_eq_false_iff_ne.2 fun e=>hne (toList_inj e);unfold cP;rw [ID hb,ax,hn,cond_false,GR h hl,ax,hrev];dsimp only;have hs:=zm h r.Key;have hb:=Br l r.Key;obtain⟨L,hL⟩:∃ L,L=l.filter fun x=>decide (bT x.Key r.Key<0):=⟨_,rfl⟩;obtain⟨H,hH⟩:∃ H,H=l.filter fun x=>decide (¬ bT x.Key r.Key<0):=⟨_,rfl⟩;have hbl:nz l r.Key=L.length:=by rw [hL]; rfl
 rw [← hL,← hH] at hs;have hasc:qF H:=by rw [hH]; exact AL _ h
 have hge:∀ x∈H,¬ bT x.Key r.Key<0:=fun x hx=>by rw [hH] at hx; simpa using (iZ.1 hx).2
 have hgt:l.filter (fun x=>decide (0<bT x.Key r.Key))=H.filter fun x=>decide (0<bT x.Key r.Key):=by
  rw [hH,List.filter_filter];refine List.filter_congr fun x _=>?_;by_cases h0:0<bT x.Key r.Key
  ·simp [h0]; omega
  ·simp [h0]
 have e0:qZ l r=L++r::H.filter fun x=>decide (0<bT x.Key r.Key):=by unfold qZ; rw [hgt,hL]
 rw [e0];cases hHc:H with
 | nil =>
  have:l[nz l r.Key]? = none:=by rw [hbl,tG]; rw [hs,hHc]; simp
  rw [this];dsimp only;rw [cond_false,hbl];have hn:L.length=l.length:=by rw [hs,hHc]; simp
  rw [show decide (0≤(L.length:Int))=true from decide_eq_true (by omega),show decide ((L.length:Int)≤(l.length:Int))=true from decide_eq_true (by omega),show bH (l.length+1)=true from dX (by omega)];simp only [gd,cond_true,tH];have hl2:l=L:=by rw [hs,hHc,uo]
  rw [hl2]; simp
 | cons x r2 =>
  have hx:l[nz l r.Key]? = some x:=by rw [hbl,hs,hHc]; simp
  have hle:L.length≤l.length:=by rw [hs]; simp
  rw [hx];dsimp only;have hasc2:=hasc;rw [hHc] at hasc2;have hr2:=(o6.1 hasc2).1;have hge':=hge x (by rw [hHc]; simp);have tl:(r2.filter fun x=>decide (0<bT x.Key r.Key))=r2:=by
   rw [tb];intro y hy;simp only [decide_eq_true_eq];have h1:=hr2 y hy;rw [oo];refine mH (b:=x.Key) ?_ h1;intro hh;exact hge' hh
  by_cases h0:bT x.Key r.Key=0
  ·rw [h0,show ((0:Int)==0)=true from rfl,cond_true,aZ,hx,ax,tH,hbl,jV (by simp [h0]),tl];rw [hs,hHc];simp
  ·have hpos:0<bT x.Key r.Key:=by omega
   rw [show (bT x.Key r.Key==0)=false from by simpa using h0,cond_false,hbl,show decide (0≤(L.length:Int))=true from decide_eq_true (by omega),show decide ((L.length:Int)≤(l.length:Int))=true from decide_eq_true (by omega),show bH (l.length+1)=true from dX (by omega)];simp only [gd,cond_true,tH];rw [oX (by simpa using hpos),tl,hs,hHc];simp
end
section
open Go.RowKit
open Go.Lib hiding intOf
theorem C9:∀ {a b:List aN},qF a→qF b→(∀ x,x∈a↔x∈b)→a=b
 | [],[],_,_,_=>rfl
 | [],y::b,_,_,h=>by have:=(h y).2 kh; cases this
 | x::a,[],_,_,h=>by have:=(h x).1 kh; cases this
 | x::a,y::b,ha,hb,h=>by
  have ha':=o6.1 ha;have hb':=o6.1 hb;have e:x=y:=by
   rcases cz.1 ((h x).1 kh) with e | h1
   ·exact e
   ·rcases cz.1 ((h y).2 kh) with e | h2
    ·exact e.symm
    ·exact absurd (hb'.1 x h1) (x7 (ha'.1 y h2))
  subst e;rw [C9 ha'.2 hb'.2 fun z=>?_];constructor
  ·intro hz;rcases cz.1 ((h z).1 (o8 _ hz)) with e | h1
   ·subst e; exact absurd (ha'.1 z hz) uJ
   ·exact h1
  ·intro hz;rcases cz.1 ((h z).2 (o8 _ hz)) with e | h1
   ·subst e; exact absurd (hb'.1 z hz) uJ
   ·exact h1
noncomputable def tM (b:aj) (q:ah×ByteArray):Bool:=!((vH b q.1).Value.toList==q.2.toList)
theorem Hu {b:aj} {q:ah×ByteArray}:tM b q=true↔(vH b q.1).Value≠q.2:=by
 unfold tM;rw [tF,beq_eq_false_iff_ne];exact⟨fun h e=>h (by rw [e]),fun h e=>h (toList_inj e)⟩
def vR (m:List (ah×ByteArray)) (cs:List am):List (ah×ByteArray):=cs.foldl (fun m c=>eH aL c.Key c.Value m) m
end
section
open Go.RowKit
open Go.Lib hiding intOf
theorem Ik {m:Option Bool} (h:Ok m fun r=>r=true):m=some true:=by obtain⟨v,e,rfl⟩:=h; exact e
section
variable {l:List aW} {b:aj}
theorem EY {r:aw} (h:Rm r.Reads.length):mN r r=some true:=by
 unfold mN dx;rw [s7 h];simp
theorem G0 {recs:List aw} (h:Jg recs):rZ recs recs=some true:=by
 have hl:=h.1;unfold Rm at hl;unfold rZ;rw [show (((recs.length:Int):Int) != (recs.length:Int))=false by simp,cond_false];refine gr (fX (r:=Fl.go ()) recs.length (fun k hk=>?_) ?_) rfl
 ·unfold mO;rw [dlt hk,cond_true,bW hk,ax,ax,EY (h.2 _ (m7 hk)),cJ (by omega)]; rfl
 ·unfold mO;rw [bA]; rfl
theorem G2 (h:Jg b.Records) (hi:Rm b.Inputs.length):nG b b=some true:=by
 unfold Rm at hi;unfold nG;rw [show ((b.Revision:Int) != b.Revision)=false by simp,cond_false,show (((b.Inputs.length:Int):Int) != (b.Inputs.length:Int))=false by simp,cond_false,G0 h];simp only [ax,dh,cond_false];refine gr (fX (r:=Fl.go ()) b.Inputs.length (fun k hk=>?_) ?_) rfl
 ·unfold mP;rw [dlt hk,cond_true,bW hk,ax,ax,cJ (by omega)];simp
 ·unfold mP;rw [bA]; rfl
end
theorem DE {t:List Int} (h:¬ t.length≤400):lB t=some false:=by
 unfold lB;rw [decide_eq_false (by omega)]
theorem EK {t:List Int} (h:t.length≤400):lB t=some true:=by
 unfold lB;rw [decide_eq_true (by omega)]
end
section
open Go.RowKit
open Go.Lib hiding intOf
theorem Iw {l:List aN} {r:aN}:(qZ l r).length≤l.length+1:=by
 have h1:∀ m:List aN,(m.filter fun x=>decide (bT x.Key r.Key<0)).length+(m.filter fun x=>decide (0<bT x.Key r.Key)).length≤m.length:=by
  intro m
  induction m with
  | nil=>simp
  | cons y m ih =>
   by_cases a:bT y.Key r.Key<0
   ·rw [oX (by simpa using a),jV (by simp; omega)]; simp only [gH]; omega
   ·by_cases b:0<bT y.Key r.Key
    ·rw [jV (by simpa using a),oX (by simpa using b)]; simp only [gH]; omega
    ·rw [jV (by simpa using a),jV (by simpa using b)]; simp only [gH]; omega
 have:=h1 l;unfold qZ;rw [cS,gH];omega
section
variable {b:aj}
noncomputable def iC (b:aj) (s:Bool×List aN) (q:ah×ByteArray):Bool×List aN:=bif tM b q then (true,qZ s.2 (aN.mk q.1 q.2 (b.Revision+1))) else s
theorem vD {s:Bool×List aN} {q:ah×ByteArray} (h:tM b q=true):iC b s q=(true,qZ s.2 (aN.mk q.1 q.2 (b.Revision+1))):=by unfold iC; rw [h]; rfl
theorem uc {s:Bool×List aN} {q:ah×ByteArray} (h:tM b q=false):iC b s q=s:=by unfold iC; rw [h]; rfl
theorem vn:∀ (p:List (ah×ByteArray)) (s:Bool×List aN),(p.foldl (iC b) s).1=(s.1||p.any (tM b))
 | [],s=>by simp
 | q::p,s=>by
  rw [vi,vn p,List.any_cons];cases h:tM b q
  ·rw [uc h,Bool.false_or]
  ·rw [vD h]; simp
theorem tr:∀ (p:List (ah×ByteArray)) (s:Bool×List aN),qF s.2→qF (p.foldl (iC b) s).2
 | [],s,h=>h
 | q::p,s,h=>by
  rw [vi];refine tr p _ ?_;cases hc:tM b q
  ·rw [uc hc]; exact h
  ·rw [vD hc]; exact DN h _
theorem vp:∀ (p:List (ah×ByteArray)) (s:Bool×List aN),(p.foldl (iC b) s).2.length≤s.2.length+p.length
 | [],s=>by simp
 | q::p,s=>by
  rw [vi];have h1:=vp p (iC b s q);have h2:(iC b s q).2.length≤s.2.length+1:=by
   cases hc:tM b q
   ·rw [uc hc]; omega
   ·rw [vD hc]; exact Iw
  rw [gH];omega
theorem xX:∀ (p:List (ah×ByteArray)) (s:Bool×List aN),Nd p→∀ x,x∈(p.foldl (iC b) s).2↔(∃ q∈p,tM b q=true∧x=⟨q.1,q.2,b.Revision+1⟩)∨(x∈s.2∧∀ q∈p,tM b q=true→x.Key≠q.1)
 | [],s,_,x=>⟨fun h=>.inr ⟨h,fun q hq=>absurd hq gn⟩,fun h=>by
   rcases h with⟨q,hq,_⟩ | h
   ·exact absurd hq gn
   ·exact h.1⟩
 | q::p,s,hnd,x=>by
  have hnd2:q.1 ∉ p.map (·.1)∧Nd p:=yP.1 hnd;rw [vi];refine (xX p _ hnd2.2 x).trans ?_;cases hc:tM b q with
  | false =>
   rw [uc hc];refine⟨fun h=>?_,fun h=>?_⟩
   ·rcases h with⟨q',a1,a2,a3⟩|⟨a1,a2⟩
    ·exact .inl ⟨q',o8 _ a1,a2,a3⟩
    ·refine .inr ⟨a1,fun q' hq' hcq=>?_⟩;rcases cz.1 hq' with rfl | hq'
     ·rw [hc] at hcq; cases hcq
     ·exact a2 q' hq' hcq
   ·rcases h with⟨q',a1,a2,a3⟩|⟨a1,a2⟩
    ·rcases cz.1 a1 with rfl | a1
     ·rw [hc] at a2; cases a2
     ·exact .inl ⟨q',a1,a2,a3⟩
    ·exact .inr ⟨a1,fun q' hq'=>a2 q' (o8 _ hq')⟩
  | true =>
   rw [vD hc];refine⟨fun h=>?_,fun h=>?_⟩
   ·rcases h with⟨q',a1,a2,a3⟩|⟨a1,a2⟩
    ·exact .inl ⟨q',o8 _ a1,a2,a3⟩
    ·rcases xa.1 a1 with rfl | ⟨a3,a4⟩
     ·exact .inl ⟨q,kh,hc,rfl⟩
     ·refine .inr ⟨a3,fun q' hq' hcq=>?_⟩;rcases cz.1 hq' with rfl | hq'
      ·exact a4
      ·exact a2 q' hq' hcq
   ·rcases h with⟨q',a1,a2,rfl⟩|⟨a1,a2⟩
    ·rcases cz.1 a1 with rfl | a1
     ·exact .inr ⟨xa.2 (.inl rfl),fun q'' hq'' _ e=>hnd2.1 (by show q'.1∈_; have e:q'.1=q''.1:=e; rw [e]; exact vh hq'')⟩
     ·exact .inl ⟨q',a1,a2,rfl⟩
    ·exact .inr ⟨xa.2 (.inr ⟨a1,a2 q kh hc⟩),fun q' hq'=>a2 q' (o8 _ hq')⟩
theorem zR {p p':List (ah×ByteArray)} (hp:p.Perm p') (hn:Nd p) {s:Bool×List aN} (h:qF s.2):p.foldl (iC b) s=p'.foldl (iC b) s:=by
 refine Prod.ext ?_ ?_
 ·rw [vn,vn,hp.any_eq]
 ·refine C9 (tr _ _ h) (tr _ _ h) fun x=>(xX p s hn x).trans (Iff.trans ?_ (xX p' s (hn.perm hp) x).symm);simp only [hp.mem_iff]
theorem zP (hb:Rm b.Inputs.length) (hw:IntKind.i64.wrap (b.Revision+1)=b.Revision+1):∀ (p:List (ah×ByteArray)) (s:Bool×List aN),qF s.2→s.2.length+p.length≤5000→qU (fun (s:Bool×List aN) (k:ah) (v:ByteArray)=>cP b s.1 s.2 k v) s p=some (p.foldl (iC b) s)
 | [],s,_,_=>rfl
 | q::p,s,h,hl=>by
  rw [gH] at hl;have e1:cP b s.1 s.2 q.1 q.2=some (iC b s q):=by
   cases hc:tM b q with
   | false =>
    have hv:(vH b q.1).Value.toList==q.2.toList:=by unfold tM at hc; simpa using hc
    rw [uc hc];unfold cP;rw [ID hb,ax,hv,cond_true]
   | true =>
    rw [vD hc];exact Js (r:=aN.mk q.1 q.2 (b.Revision+1)) h (by unfold Rm; omega) hb s.1 hw (Hu.1 hc)
  have h2:qF (iC b s q).2:=tr [q] s h;have h3:(iC b s q).2.length≤s.2.length+1:=vp [q] s;rw [qU];simp only [e1,ax];rw [zP hb hw p _ h2 (by omega),vi]
def ss (cs:List am):List (ah×ByteArray):=cs.map fun c=>(c.Key,c.Value)
theorem IB (hb:Rm b.Inputs.length) (hw:IntKind.i64.wrap (b.Revision+1)=b.Revision+1) {cs:List am} (hd:Nd (ss cs)) (ha:qF b.Inputs) (hl:b.Inputs.length+cs.length≤5000):loop (fun s:Bool×Int×(List aN)=>gc cs b b s.1 s.2.1 s.2.2) (false,0,b.Inputs)=some ((ss cs).foldl (iC b) (false,b.Inputs)):=by
 have hd2:(cs.map (·.Key)).Nodup:=by
  have:((ss cs).map (·.1)).Nodup:=hd;unfold ss at this;rw [AT] at this;exact this
 refine cD (xs:=cs) (fun k=>(((ss (cs.take k)).foldl (iC b) (false,b.Inputs)).1,(k:Int),((ss (cs.take k)).foldl (iC b) (false,b.Inputs)).2)) rfl (fun k c hx=>?_) ?_
 ·have hk:=bc hx;have hsn:(ss (cs.take (k+1))).foldl (iC b) (false,b.Inputs)=iC b ((ss (cs.take k)).foldl (iC b) (false,b.Inputs)) (c.Key,c.Value):=by
   rw [b7 hx];unfold ss;rw [ur,AJ]; rfl
  have hA:=tr (b:=b) (ss (cs.take k)) (false,b.Inputs) ha;have hL:=vp (b:=b) (ss (cs.take k)) (false,b.Inputs);have hL2:(ss (cs.take k)).length≤cs.length:=by unfold ss; rw [qR,fe]; omega
  rw [hsn];generalize (ss (cs.take k)).foldl (iC b) (false,b.Inputs)=s at hA hL;obtain⟨ch,ins⟩:=s;dsimp only at hA hL ⊢;unfold gc;rw [cU hx,cond_true,aZ,hx,ax,cJ (by omega),ud (by omega),ax];have hin:loop (fun s:Bool×Int=>ga c (cs.drop (k+1)) s.1 s.2) (true,0)=some true:=by
   refine cD (xs:=cs.drop (k+1)) (fun i=>(true,(i:Int))) rfl (fun i e he=>?_) ?_
   ·have hi:=bc he;have hne:e.Key≠c.Key:=fun q=>by
     have h1:cs[k+1+i]? = some e:=by rw [← sj]; exact he
     have h2:(cs.map (·.Key))[k+1+i]? = (cs.map (·.Key))[k]?:=by rw [uq,uq,h1,hx,o7,o7,q]
     have h3:=(List.getElem?_inj (by rw [qR]; exact bc h1) hd2).1 h2;omega
    have hkq:((e.Key.Kind:Int)==c.Key.Kind&&e.Key.Text.toList==c.Key.Text.toList)=false:=sA.2 hne;unfold ga;dsimp only;rw [cU he,cond_true,aZ,he,ax,cond_true,hkq,cJ (by rw [sm] at hi; omega)]; rfl
   ·unfold ga;dsimp only;rw [bA]; rfl
  rw [hin,ax];unfold lM;rw [dh,cond_false,FD hb,ax];cases hc:tM b (c.Key,c.Value) with
  | false =>
   have hv:((vH b c.Key).Value.toList==c.Value.toList)=true:=by unfold tM at hc; simpa using hc
   rw [hv,cond_true,uc hc];unfold fL;rw [cJ (by omega)]
  | true =>
   have hv:((vH b c.Key).Value.toList==c.Value.toList)=false:=by unfold tM at hc; simpa using hc
   rw [hv,cond_false,vD hc];have hput:=BI (r:=aN.mk c.Key c.Value (b.Revision+1)) hA (by unfold Rm; omega) (u:=b) hw (k:Int);have hput2:((loop (fun s:(List aN)×Bool×Int=>fQ b ins c s.1 s.2.1 s.2.2) (([]:List aN),false,0)).bind fun q=>eL b (k:Int) c q.1 q.2)=d9 (k:Int) (qZ ins (aN.mk c.Key c.Value (b.Revision+1))):=hput;rw [hput2];unfold d9 fL;rw [cJ (by omega)]
 ·unfold gc;dsimp only;rw [bA,i6]; rfl
end
end
section
open Go.RowKit
open Go.Lib hiding intOf
section
variable {b:aj}
theorem zQ:∀ (p:List (ah×ByteArray)) (s:Bool×List aN),(p.any (tM b))=false→p.foldl (iC b) s=s
 | [],s,_=>rfl
 | q::p,s,h=>by
  rw [List.any_cons,BX] at h;rw [vi,uc h.1,zQ p s h.2]
theorem z6:∀ (cs:List am) (m:List (ah×ByteArray)),Nd m→Nd (ss cs)→(∀ q∈ss cs,q.1 ∉ m.map (·.1))→(vR m cs).Perm (m++ss cs)
 | [],m,_,_,_=>by
  show m.Perm (m++[]);rw [uo]
 | c::cs,m,h1,h2,h3=>by
  have h2':c.Key ∉ (ss cs).map (·.1)∧Nd (ss cs):=yP.1 h2;have hcm:c.Key ∉ m.map (·.1):=h3 (c.Key,c.Value) kh;have hf:(m.filter fun y:ah×ByteArray=>!aL c.Key y.1)=m:=tb.2 fun y hy=>by
   have:aL c.Key y.1=false:=by
    rw [← Bool.not_eq_true,jk];intro e;exact hcm (by rw [e]; exact vh hy)
   rw [this]; rfl
  have hp:=yd jk c.Key c.Value h1;rw [hf] at hp;refine (z6 cs (eH aL c.Key c.Value m) (Nd.put jk h1 _ _) h2'.2 fun q hq hm=>?_).trans ?_
  ·have hm:=((hp.map (·.1)).mem_iff).1 hm;rcases cz.1 hm with e | hm
   ·have e:q.1=c.Key:=e;exact h2'.1 (by rw [← e]; exact vh hq)
   ·exact h3 q (o8 _ hq) hm
  ·refine (hp.append_right _).trans ?_;exact List.perm_middle.symm
theorem BC {cs:List am} (h:Nd (ss cs)):(vR [] cs).Perm (ss cs) :=
 z6 cs [] tD h fun q _ hm=>absurd hm gn
structure Gg (cs:List am):Prop where
 v1:∀ c∈cs,dv c.Key=some true
 v2:∀ c∈cs,cE c.Key=some true
 i1:∀ c∈cs,cr c.Key=some true
 size:∀ c∈cs,c.Value.size≤1073741824
 nd:Nd (ss cs)
structure Em (b:aj):Prop where
 v1:ip b=some true
 v2:fc b=some true
 c1:dK b=some b
 c2:dG b=some b
 low:0≤b.Revision
 high:b.Revision≤1073741824
 asc:qF b.Inputs
 len:b.Inputs.length≤64
theorem wV (h:Em b) {cs:List am} (hc:Gg cs) (hn:cs.length≤4000):lX b cs=some (if 32<cs.length then 3 else 0):=by
 unfold lX;rw [h.v1,ax];simp only [dh,cond_false];by_cases hl:32<cs.length
 ·rw [decide_eq_true (by omega),if_pos hl]; rfl
 ·rw [decide_eq_false (by omega),if_neg hl,cond_false,
   Ij (by unfold Rm; omega) fun x hx=>by
    unfold jT iq;rw [hc.v1 x hx,ax,cond_true,zZ,hc.i1 x hx]; rfl,ax,cond_false,
   Ij (by unfold Rm; omega) fun x hx=>by
    have:=hc.size x hx;unfold jU;rw [decide_eq_false (by omega)]]
  rfl
theorem Ev (h:Em b) {cs:List am} (hc:Gg cs) (hn:cs.length≤4000):dm b cs=iU b cs:=by
 have hlo:=h.low;have hhi:=h.high;have hlen:=h.len;have hb:Rm b.Inputs.length:=by unfold Rm; omega
 have hw:IntKind.i64.wrap (b.Revision+1)=b.Revision+1:=pX (by omega) (by omega);unfold dm iU;rw [wV h hc hn,h.c2,ax,ax,h.v2,ax];simp only [dh,cond_false];by_cases hl:32<cs.length
 ·rw [if_pos hl,h.c1,decide_eq_true (by omega)]; rfl
 rw [if_neg hl,decide_eq_false (by omega)];simp only [show ((0:Int) != 0)=false from rfl,cond_false];have hlp:loop (fun s:(List (ah×ByteArray))×Int=>dC cs s.1 s.2) (([]:List (ah×ByteArray)),0)=some (vR [] cs):=by
  refine cD (xs:=cs) (fun k=>(vR [] (cs.take k),(k:Int))) rfl (fun k x hx=>?_) ?_
  ·unfold dC;dsimp only;rw [cU hx,cond_true,aZ,hx,ax,cJ (by have:=bc hx; omega),b7 hx];unfold vR;rw [AJ]; rfl
  ·unfold dC;dsimp only;rw [bA,i6]; rfl
 have hnl:=(BC hc.nd).symm;have hpl:(ss cs).length=cs.length:=by unfold ss; rw [qR]
 have hrng:wB (fun (s:Bool×List aN) (k:ah) (v:ByteArray)=>cP b s.1 s.2 k v) (vR [] cs) (false,b.Inputs)=some ((ss cs).foldl (iC b) (false,b.Inputs)):=by
  refine BJ fun p hp=>?_;have hp2:p.Perm (ss cs):=hp.trans hnl.symm;rw [zP hb hw p (false,b.Inputs) h.asc (by show b.Inputs.length+p.length≤5000; rw [hp2.length_eq,hpl]; omega),zR hp2 (hc.nd.perm hp2.symm) h.asc]
 rw [hlp,ax];unfold fY;rw [h.c1,ax,hrng,ax];have h15:loop (fun s:Int=>fb cs b s) 0=some (Fl.go ()):=by
  refine fX (r:=Fl.go ()) cs.length (fun k hk=>?_) ?_
  ·unfold fb;rw [dlt hk,cond_true,bW hk,ax,hc.v2 _ (m7 hk),ax];simp only [dh,cond_false];rw [hc.i1 _ (m7 hk),ax,cJ (by omega)]; rfl
  ·unfold fb;rw [bA]; rfl
 have h13:loop (fun s:Int=>fa cs b s) 0=some (Fl.go ()):=by
  refine fX (r:=Fl.go ()) cs.length (fun k hk=>?_) ?_
  ·have:=hc.size _ (m7 hk);unfold fa;rw [dlt hk,cond_true,bW hk,ax,decide_eq_false (by omega),cJ (by omega)]; rfl
  ·unfold fa;rw [bA]; rfl
 rw [h15,ax];show _=f9 cs b;unfold f9;rw [h13,ax];show _=f8 cs b;unfold f8;rw [h.c2,ax,IB hb hw hc.nd h.asc (by omega),ax];have hany:=vn (b:=b) (ss cs) (false,b.Inputs);rw [Bool.false_or] at hany;have hno:=zQ (b:=b) (ss cs) (false,b.Inputs);unfold dW jN;rw [h.c1,hw,hany];cases ha:(ss cs).any (tM b) with
 | false =>
  rw [hno ha]; rfl
 | true =>
  simp only [dh,cond_false,ax];by_cases hm:b.Revision=1073741824
  ·rw [hm]; rfl
  ·rw [show (b.Revision==1073741824)=false from beq_eq_false_iff_ne.2 hm,decide_eq_false (p:=(1073741824:Int)<b.Revision+1) (by omega)]
end
end
end Go.Proofs.YtmfcloapbgfhaaaGreatDoor
section
namespace Go.Proofs
open Go.Shelf
def Tryz.sortKey_ren:Go.Shelf.Ren:=⟨fun | 6=>112 | 15=>142 | 14=>141 | 28=>174 | 29=>175 | 20=>166 | 21=>167 | 22=>168 | 23=>169 | 24=>170 | 25=>171 | 26=>172 | 27=>173 | 46=>192 | 47=>193 | 48=>194 | 49=>195 | 50=>196 | 57=>206 | n=>n,fun | 22=>58 | 24=>44 | 25=>82 | 3=>3 | 39=>146 | 0=>0 | 53=>211 | 55=>178 | 4=>4 | 46=>205 | 45=>204 | 50=>112 | 5=>5 | 9=>9 | 66=>228 | 70=>232 | 76=>244 | 77=>90 | n=>n,fun | n=>n⟩
theorem Tryz.sortKey:Go.Proofs.SlLaysF0.n6 Tryz.prog Tryz.sortKey_ren:={
 mixed:=by kernel_rfl
 f6:=⟨Tryz.f112.name,by decide,Tryz.func112.trans (congrArg some (by kernel_rfl))⟩
 f14:=⟨Tryz.f141.name,by decide,Tryz.func141.trans (congrArg some (by kernel_rfl))⟩
 f15:=Tryz.func142.trans (congrArg some (by kernel_rfl))
 f20:=⟨Tryz.f166.name,by decide,Tryz.func166.trans (congrArg some (by kernel_rfl))⟩
 f21:=⟨Tryz.f167.name,by decide,Tryz.func167.trans (congrArg some (by kernel_rfl))⟩
 f22:=⟨Tryz.f168.name,by decide,Tryz.func168.trans (congrArg some (by kernel_rfl))⟩
 f23:=⟨Tryz.f169.name,by decide,Tryz.func169.trans (congrArg some (by kernel_rfl))⟩
 f24:=⟨Tryz.f170.name,by decide,Tryz.func170.trans (congrArg some (by kernel_rfl))⟩
 f25:=⟨Tryz.f171.name,by decide,Tryz.func171.trans (congrArg some (by kernel_rfl))⟩
 f26:=⟨Tryz.f172.name,by decide,Tryz.func172.trans (congrArg some (by kernel_rfl))⟩
 f27:=⟨Tryz.f173.name,by decide,Tryz.func173.trans (congrArg some (by kernel_rfl))⟩
 f28:=Tryz.func174.trans (congrArg some (by kernel_rfl))
 f29:=Tryz.func175.trans (congrArg some (by kernel_rfl))
 f46:=⟨Tryz.f192.name,by decide,Tryz.func192.trans (congrArg some (by kernel_rfl))⟩
 f47:=Tryz.func193.trans (congrArg some (by kernel_rfl))
 f48:=Tryz.func194.trans (congrArg some (by kernel_rfl))
 f49:=⟨Tryz.f195.name,by decide,Tryz.func195.trans (congrArg some (by kernel_rfl))⟩
 f50:=⟨Tryz.f196.name,by decide,Tryz.func196.trans (congrArg some (by kernel_rfl))⟩
 f57:=⟨Tryz.f206.name,by decide,Tryz.func206.trans (congrArg some (by kernel_rfl))⟩
 t0:=Tryz.underlying0
 a0:=Tryz.isAgg0
 z0:=Tryz.sizeOf0
 v0:=Tryz.zeroValue0
 t3:=Tryz.underlying3
 a3:=Tryz.isAgg3
 z3:=Tryz.sizeOf3
 v3:=Tryz.zeroValue3
 t4:=Tryz.underlying4
 a4:=Tryz.isAgg4
 z4:=Tryz.sizeOf4
 v4:=Tryz.zeroValue4
 t5:=Tryz.underlying5
 a5:=Tryz.isAgg5
 z5:=Tryz.sizeOf5
 v5:=Tryz.zeroValue5
 t9:=Tryz.underlying9
 a9:=Tryz.isAgg9
 z9:=Tryz.sizeOf9
 v9:=Tryz.zeroValue9
 t22:=Tryz.underlying58
 a22:=Tryz.isAgg58
 z22:=Tryz.sizeOf58
 v22:=Tryz.zeroValue58
 t25:=Tryz.underlying82
 a25:=Tryz.isAgg82
 z25:=Tryz.sizeOf82
 v25:=Tryz.zeroValue82
 t39:=Tryz.underlying146
 a39:=Tryz.isAgg146
 z39:=Tryz.sizeOf146
 v39:=Tryz.zeroValue146
 t45:=Tryz.underlying204
 a45:=Tryz.isAgg204
 z45:=Tryz.sizeOf204
 v45:=Tryz.zeroValue204
 t46:=Tryz.underlying205
 a46:=Tryz.isAgg205
 z46:=Tryz.sizeOf205
 v46:=Tryz.zeroValue205
 t50:=Tryz.underlying112
 a50:=Tryz.isAgg112
 z50:=Tryz.sizeOf112
 v50:=Tryz.zeroValue112
 t53:=Tryz.underlying211
 a53:=Tryz.isAgg211
 z53:=Tryz.sizeOf211
 v53:=Tryz.zeroValue211
 t55:=Tryz.underlying178
 a55:=Tryz.isAgg178
 z55:=Tryz.sizeOf178
 v55:=Tryz.zeroValue178
 t66:=Tryz.underlying228
 a66:=Tryz.isAgg228
 z66:=Tryz.sizeOf228
 v66:=Tryz.zeroValue228
 t70:=Tryz.underlying232
 a70:=Tryz.isAgg232
 z70:=Tryz.sizeOf232
 v70:=Tryz.zeroValue232
 t76:=Tryz.underlying244
 a76:=Tryz.isAgg244
 z76:=Tryz.sizeOf244
 v76:=Tryz.zeroValue244
 t77:=Tryz.underlying90
 a77:=Tryz.isAgg90
 z77:=Tryz.sizeOf90
 v77:=Tryz.zeroValue90 }
end Go.Proofs
end
namespace Go.Proofs.YtmfcloapbgfhaaaGreatDoor
section
open Go.RowKit
open Go.Lib hiding intOf
open Go.Sort (grow grow_grow alloc_eq_grow)
def Gr (w w':World):Prop:=∃ q os,w'=grow (w.drewN q) os
theorem Gr.refl (w:World):Gr w w:=⟨0,#[],by rw [Go.Sort.grow_empty]; rfl⟩
theorem Gr.trans {a b c:World} (h:Gr a b) (k:Gr b c):Gr a c:=by
 obtain⟨q,os,rfl⟩:=h;obtain⟨q2,os2,rfl⟩:=k;exact⟨q+q2,os++os2,by show grow (grow ((a.drewN q).drewN q2) os) os2=_; rw [grow_grow,World.drewN_drewN]⟩
theorem Gr.drew (w:World):Gr w w.drew:=⟨1,#[],by rw [Go.Sort.grow_empty]; rfl⟩
theorem Gr.alloc (w:World) (o:Obj):Gr w (w.alloc o):=⟨0,#[o],by rw [alloc_eq_grow]; rfl⟩
theorem Gr.cell {w w':World} (h:Gr w w') {a:Addr} {v:Value} (hc:w.cell? a=some v):w'.cell? a=some v:=by
 obtain⟨q,os,rfl⟩:=h;exact cell_grown (World.block_lt_of_cell? _ _ hc) hc q os
set_option maxHeartbeats 2000000 in
theorem JJ (b:Nat) (x y:Int) (w:World) (h0:w.cell? ⟨b,0,none⟩=some (.int .i64 x)) (h1:w.cell? ⟨b,1,none⟩=some (.int .i64 y)) :
  Calls aP 97 #[.slice (some ⟨b,0,none⟩) 2 2] w fun e w'=>e = .returned (.int .i64 (if x≠0 then x else y))∧Gr w w':=by
 go_enter Tryz.func97,Tryz.ntmps97
 go_wp2_with fail
 go_loopw [8] (fun i wr=>Gr w wr∧((i = .int .i64 0)∨(i = .int .i64 1∧Hid (x=0))∨(i = .int .i64 2∧Hid (x=0∧y=0)))) (fun i _=>2-(intOf i).toNat)
 case atStart=>exact⟨Gr.refl _,.inl rfl⟩
 case round =>
  obtain⟨hb,rfl | ⟨rfl,H⟩|⟨rfl,H⟩⟩:=hrel
  ·have d0:=hb.cell h0;by_cases hx:x=0
   ·have HX:=sL hx
    go_wp2_with fail
    exact⟨⟨hb,.inr (.inl ⟨rfl,HX⟩)⟩,by simp [intOf]⟩
   ·go_wp2_with fail
    go_ret
    exact⟨by simp [hx],hb⟩
  ·have d1:=hb.cell h1;by_cases hy:y=0
   ·have HY:Hid (x=0∧y=0):=sL ⟨H.out,hy⟩
    go_wp2_with fail
    exact⟨⟨hb,.inr (.inr ⟨rfl,HY⟩)⟩,by simp [intOf]⟩
   ·go_wp2_with fail
    go_ret
    exact⟨by simp [H.out],hb⟩
  ·go_wp2_with fail
   all_goals (go_ret; exact⟨by simp [H.out],hb⟩)
set_option maxHeartbeats 2000000 in
theorem H5 (a b:Int×ByteArray) (w:World) :
  Calls aP 63 #[.agg #[.int .i64 a.1,.string a.2],.agg #[.int .i64 b.1,.string b.2]] w fun e w'=>e = .returned (.int .i64 (if compareInt a.1 b.1≠0 then compareInt a.1 b.1 else compareBytes a.2.data.toList b.2.data.toList))∧Gr w w':=by
 have hc:=fun W'=>Tryz.cmp_Compare_int a.1 b.1 W';have hs:=fun W'=>Tryz.strings_Compare a.2 b.2 W';obtain⟨r1,h1⟩:∃ r,r=compareInt a.1 b.1:=⟨_,rfl⟩;obtain⟨r2,h2⟩:∃ r,r=compareBytes a.2.data.toList b.2.data.toList:=⟨_,rfl⟩;rw [← h1] at hc ⊢;rw [← h2] at hs ⊢;clear h1 h2;have ho:=fun W' b h0 h1=>JJ b r1 r2 W' h0 h1;obtain⟨rr,hrr⟩:∃ rr,rr=if r1≠0 then r1 else r2:=⟨_,rfl⟩;simp only [← hrr] at ho ⊢;clear hrr
 go_enter Tryz.func63,Tryz.ntmps63
 go_wp2_with fail
 have hg0:Gr w ((w.alloc (.cells #[.int .i64 a.1,.string a.2] 44)).alloc (.cells #[.int .i64 b.1,.string b.2] 44)):=(Gr.alloc _ _).trans (Gr.alloc _ _);have hA0:((w.alloc (.cells #[.int .i64 a.1,.string a.2] 44)).alloc (.cells #[.int .i64 b.1,.string b.2] 44)).cell? ⟨w.heap.size,0,none⟩=some (.int .i64 a.1):=by simp
 have hA1:((w.alloc (.cells #[.int .i64 a.1,.string a.2] 44)).alloc (.cells #[.int .i64 b.1,.string b.2] 44)).cell? ⟨w.heap.size,1,none⟩=some (.string a.2):=by simp
 have hB0:((w.alloc (.cells #[.int .i64 a.1,.string a.2] 44)).alloc (.cells #[.int .i64 b.1,.string b.2] 44)).cell? ⟨w.heap.size+1,0,none⟩=some (.int .i64 b.1):=by simp
 have hB1:((w.alloc (.cells #[.int .i64 a.1,.string a.2] 44)).alloc (.cells #[.int .i64 b.1,.string b.2] 44)).cell? ⟨w.heap.size+1,1,none⟩=some (.string b.2):=by simp
 generalize ((w.alloc (.cells #[.int .i64 a.1,.string a.2] 44)).alloc (.cells #[.int .i64 b.1,.string b.2] 44))=W1 at *;generalize w.heap.size=A at *
 go_region_held3 (fun w'=>w'.cell? ⟨A,0,none⟩=some (.int .i64 a.1)∧w'.cell? ⟨A,1,none⟩=some (.string a.2)∧w'.cell? ⟨A+1,0,none⟩=some (.int .i64 b.1)∧w'.cell? ⟨A+1,1,none⟩=some (.string b.2)) (first | exact⟨hA0,hA1,hB0,hB1⟩ | exact⟨q0,q1,q2,q3⟩ | go_keep) (first
  | (go_at_call 98; refine (hc _).mono ?_; rintro e w' ⟨rfl,rfl⟩)
  | (go_at_call 80; refine (hs _).mono ?_; rintro e w' ⟨rfl,rfl⟩)
  | (go_at_call 97; refine (ho _ _ ?_ ?_).mono ?_; simp; simp; rintro e w' ⟨rfl,hg⟩; have hg2:=(Gr.alloc W1 _).trans ((Gr.drew _).trans hg); have q0:=hg2.cell hA0; have q1:=hg2.cell hA1; have q2:=hg2.cell hB0; have q3:=hg2.cell hB1))
 all_goals (go_wp2_with fail; go_ret; exact⟨rfl,hg0.trans hg2⟩)
end
section
open Go.RowKit
open Go.Lib hiding intOf
open Go.Sort (grow grow_grow alloc_eq_grow SWO HoldsK Holds flatK putRowK heap_grow_old)
instance:Inhabited ah:=⟨⟨0,⟨#[]⟩⟩⟩
def tq (k:ah):bv:=[.int .i64 k.Kind,.string k.Text]
def sG (xs:List ah):List ah:=xs.mergeSort fun x y=>!ltOf bT y x
section
variable {α:Type} [Inhabited α] {enc:α→bv} {n:Nat}
theorem nR (hk:∀ x,(enc x).length=n) (hn:0<n):∀ (xs:List α) (t:Nat),t<xs.length*n→(xs.flatMap enc)[t]? = some (enc xs[t / n]!)[t % n]!
 | [],t,h=>by simp at h
 | x::r,t,h=>by
  rw [CV];by_cases ht:t<n
  ·rw [m6 (by rw [hk]; exact ht),Nat.div_eq_of_lt ht,Nat.mod_eq_of_lt ht];have:t<(enc x).length:=by rw [hk]; exact ht
   rw [bS this];simp [this]
  ·have h2:t-n<r.length*n:=by simp only [gH,kf] at h; omega
   rw [o5 (by rw [hk]; omega),hk,nR hk hn r (t-n) h2];have e1:t / n=(t-n) / n+1:=by
    conv=>lhs; rw [show t=t-n+n by omega]
    rw [Nat.add_div_right _ hn]
   have e2:t % n=(t-n) % n:=by
    conv=>lhs; rw [show t=t-n+n by omega]
    rw [Nat.add_mod_right]
   rw [e1,e2]; simp
omit [Inhabited α] in
theorem ly (hk:∀ x,(enc x).length=n) (xs:List α):(xs.flatMap enc).length=xs.length*n:=by
 induction xs with
 | nil=>simp
 | cons x r ih=>rw [CV,cS,hk,ih,gH,kf]; omega
theorem GC (hk:∀ x,(enc x).length=n) (hn:0<n) (xs:List α):(flatK enc n xs.toArray).toList=xs.flatMap enc:=by
 refine F5 fun t=>?_;by_cases ht:t<xs.length*n
 ·rw [nR hk hn xs t ht];have h1:=Go.Sort.get_flatK enc n xs.toArray t (by simpa using ht);have h2:t<(flatK enc n xs.toArray).size:=by simpa using ht
  rw [xH,n3 h2];rw [getElem!_pos (flatK enc n xs.toArray) t h2] at h1;rw [h1]; simp
 ·rw [tG (by simp; omega),tG (by rw [ly hk]; omega)]
theorem E1 {w:World} {g off c:Nat} {cs:Array Value} {e:TypeId} {xs ys:List α} {q:Nat} {os:Array Obj} (hk:∀ x,(enc x).length=n) (hn:0<n) (hg:AX w g cs e) (hsz:off+c*n≤cs.size) (hnc:xs.length≤c) (hcs:∀ j u,(xs.flatMap enc)[j]? = some u→cs[off+j]? = some u) (hl:ys.length=xs.length) :
  ∃ cs',AX (sortWorldK enc n w g off q ys.toArray os) g cs' e∧cs'.size=cs.size∧(∀ j u,(ys.flatMap enc)[j]? = some u→cs'[off+j]? = some u)∧Kt (fun k=>k=g) w (sortWorldK enc n w g off q ys.toArray os):=by
 have hH:Holds id w g off (flatK enc n xs.toArray):=fun j hj=>by
  have hj2:j<xs.length*n:=by simpa using hj
  have hm:xs.length*n≤c*n:=kQ _ hnc;have h1:=Go.Sort.get_flatK enc n xs.toArray j (by simpa using hj2);refine⟨?_,hg.free (by omega)⟩;rw [hg.cell,hcs j _ (nR hk hn xs j hj2),h1]; simp
 have e1:sortWorldK enc n w g off q ys.toArray os=grow ((w.drewN q).setCells g off (ys.flatMap enc)) os:=by
  unfold sortWorldK putRowK;have:=putRow_eq_setCells id w g off (flatK enc n xs.toArray) (flatK enc n ys.toArray).toList q hH (by simp [hl]);rw [Array.toArray_toList] at this;rw [this,GC hk hn,List.map_id]
 obtain⟨fz,hg1,hfz⟩:=id hg;obtain⟨cs',c1,c2,c3,c4⟩:=eb g e fz (ys.flatMap enc) off (w.drewN q) cs hg1;have hgl:g<((w.drewN q).setCells g off (ys.flatMap enc)).heap.size:=(si.1 c1).1;refine⟨cs',?_,c2,fun j u hu=>c4 (by rw [ly hk,hl]; have:xs.length*n≤c*n:=kQ _ hnc; omega) j u hu,?_⟩
 ·rw [e1];exact⟨fz,by rw [heap_grow_old _ os hgl]; exact c1,by rw [c2]; exact hfz⟩
 ·rw [e1];have k1:Kt (fun k=>k=g) w ((w.drewN q).setCells g off (ys.flatMap enc)):=(Kt.drewN w q).no.trans (Kt.setCells _ g off _);exact k1.trans ⟨rfl,rfl,rfl,by simp,fun k hk _=>heap_grow_old _ os hk⟩
end
theorem As {T:Nat→Prop} {w:World} {cl:bv} {xs:List ah}:aA ac T w cl xs↔cl=xs.flatMap tq:=by
 have hk:∀ x:ah,(tq x).length=2:=fun _=>rfl;constructor
 ·rintro⟨h1,h2⟩;refine F5 fun t=>?_;have h1':cl.length=xs.length*2:=h1;by_cases ht:t<xs.length*2
  ·rw [nR hk (by omega) xs t ht];have hx:t / 2<xs.length:=by omega
   obtain⟨cs,rfl,h4⟩:=h2 (t / 2) _ (bS hx);have hm:(tq xs[t / 2])[t % 2]? = some (tq xs[t / 2]!)[t % 2]!:=by
    rw [getElem!_pos xs (t / 2) hx];have h5:t % 2<(tq xs[t / 2]).length:=by rw [hk]; omega
    rw [bS h5,getElem!_pos (tq xs[t / 2]) (t % 2) h5]
   have:=h4 (t % 2) _ hm;rwa [show t / 2*ac.size+t % 2=t by show t / 2*2+t % 2=t; omega] at this
  ·rw [tG (by omega),tG (by rw [ly hk]; omega)]
 ·rintro rfl;refine⟨ly hk xs,fun k x hx=>⟨tq x,rfl,fun j u hu=>?_⟩⟩;have hkl:=(bN.1 hx).1;have hj:j<2:=by have:=(bN.1 hu).1; rw [hk] at this; exact this
  show (xs.flatMap tq)[k*2+j]? = some u;rw [nR hk (by omega) xs _ (by omega),show (k*2+j) / 2=k by omega,show (k*2+j) % 2=j by omega,getElem!_pos xs k hkl,(bN.1 hx).2];obtain⟨h3,h4⟩:=bN.1 hu;rw [getElem!_pos (tq x) j h3,h4]
theorem OH:SWO (ltOf bT) where
 irrefl x:=by unfold ltOf; simp [vr]
 trans x y z h1 h2:=by
  unfold ltOf at *;simp only [decide_eq_true_eq] at *;exact km h1 h2
 ntrans x y z h1 h2:=by
  unfold ltOf at *;simp only [decide_eq_false_iff_not] at *;exact fun h=>h2 (mH h1 h)
theorem Nr (x y:ah) (h1:ltOf bT x y=false) (h2:ltOf bT y x=false):x=y:=by
 unfold ltOf at *;simp only [decide_eq_false_iff_not] at *;rcases tu x y with h | h | h
 ·exact absurd h h1
 ·exact h
 ·exact absurd h h2
theorem HG (blk off size:Nat) (w:World):CmpLays aP 63 #[] tq 2 bT blk off size w:=fun m os dk hd x y=>by
 refine (H5 (x.Kind,x.Text) (y.Kind,y.Text) (sortWorldK tq 2 w blk off m dk os)).mono ?_;rintro e w' ⟨rfl,hg⟩;refine⟨?_,hg⟩;congr 2;unfold bT compareInt;dsimp only;rw [sx,sx];by_cases h1:x.Kind<y.Kind
 ·simp [h1]
 ·by_cases h2:y.Kind<x.Kind <;> simp [h1,h2]
theorem tB (xs:List ah):(sG xs).length=xs.length:=by unfold sG; exact List.length_mergeSort _
theorem G6 (T:Nat→Prop) (W0:World) (v:Value) (cl:bv) (xs:List ah) (hD:ze T W0 [.own v 44 ac.size cl]) (hv:aA ac (dT T [.own v 44 ac.size cl]) W0 cl xs) (hr:bH xs.length=true) :
  bj aP (MD [.own v 44 ac.size cl]) 112 [v,.func (.func 63) #[] #[]] W0 (fun v' w'=>v' = .tuple #[]∧∃ cl',aA ac (dT T [.own v 44 ac.size cl']) w' cl' (sG xs)∧qG W0 w' [.own v 44 ac.size cl] [.own v 44 ac.size cl']):=by
 have hk:∀ x:ah,(tq x).length=2:=fun _=>rfl;have hr:=u4 hr;have hcl:=As.1 hv;subst hcl;obtain⟨hown,hpos⟩:=hD.own _ kh;rcases id hown with⟨rfl,h0⟩|⟨g,off,n,c,cs,rfl,h1,hb,hg,hnc,hc,hsz,hcs⟩
 ·have hx:xs=[]:=by
   have:=ly hk xs;rw [h0] at this;simp only [sH] at this;exact yN (by omega)
  subst hx;have h:=AnyF.slices_SortFunc_none Tryz.sortKey none 0 (.func (.func 63) #[] #[]) W0;change Calls aP 112 _ _ _ at h;refine h.mono ?_;rintro e w' ⟨rfl,rfl⟩;refine⟨_,rfl,au _ _,rfl,[],As.2 (by unfold sG; simp),⟨fun r hr=>?_,fun r hr k hk=>?_,BY _ _⟩⟩
  ·simp only [cz,gn,or_false] at hr; subst hr; exact⟨hown,hpos⟩
  ·simp only [cz,gn,or_false] at hr; subst hr; exact .inl ⟨_,kh,hk⟩
 ·have hn:n=xs.length:=by
   have h2:=ly hk xs;rw [h1] at h2;have h2:n*2=xs.length*2:=h2;omega
  subst hn;have hgl:g<W0.heap.size:=hg.lt;have hH:HoldsK tq 2 W0 g off xs.toArray:=fun j hj=>by
   have hj2:j<xs.length*2:=by simpa using hj
   have hsz2:off+c*2≤cs.size:=hsz;have h3:=Go.Sort.get_flatK tq 2 xs.toArray j (by simpa using hj2);refine⟨?_,hg.free (by omega)⟩;rw [hg.cell,hcs j _ (nR hk (by omega) xs j hj2),h3]; simp
  have eg:∀ args w,(callFunc 63 args).run aP w = .ok (.enter 63 args) w:=enters_of Tryz.func63 (by kernel_rfl) rfl;have h:=AnyQ.slices_SortFunc_total Tryz.sortKey 2 Tryz.isAgg44 Tryz.sizeOf44 tq hk (fun x v hv=>by simp [tq] at hv; rcases hv with rfl | rfl <;> rfl) bT OH 63 #[] g off c xs.toArray W0 eg (HG g off _ W0) hH hgl (by simp; omega) Nr;change Calls aP 112 _ _ _ at h;rw [Ec] at h;refine h.mono ?_;rintro e w' ⟨rfl,q,os,rfl⟩;have hs:(xs.toArray.toList.mergeSort fun x y=>!ltOf bT y x)=sG xs:=rfl;rw [hs];obtain⟨cs',r1,r2,r3,r4⟩:=E1 (enc:=tq) (n:=2) (ys:=sG xs) (q:=q) (os:=os) hk (by omega) hg hsz hnc hcs (tB xs);have hkM:Kt (MD [.own (.slice (some ⟨g,off,none⟩) xs.length c) 44 ac.size (xs.flatMap tq)]) W0 (sortWorldK tq 2 W0 g off q (sG xs).toArray os):=r4.mono fun j hj=>⟨_,kh,by rw [hj]; rfl⟩;refine⟨_,rfl,hkM,rfl,(sG xs).flatMap tq,As.2 rfl,⟨fun r hr=>?_,fun r hr k hk=>?_,BY _ _⟩⟩
  ·simp only [cz,gn,or_false] at hr;subst hr;exact⟨.inr ⟨g,off,xs.length,c,cs',rfl,by rw [ly hk,tB]; rfl,hb,r1,hnc,hc,by rw [r2]; exact hsz,r3⟩,hpos⟩
  ·simp only [cz,gn,or_false] at hr; subst hr; exact .inl ⟨_,kh,hk⟩
end
end Go.Proofs.YtmfcloapbgfhaaaGreatDoor
