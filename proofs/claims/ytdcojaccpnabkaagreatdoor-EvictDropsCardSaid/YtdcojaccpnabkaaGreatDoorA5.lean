/- Texts of the proof, joined (5). -/
import Derived.Test.YtdcojaccpnabkaaGreatDoorA4
import Derived.Test.YtdcojaccpnabkaaGreatDoorA1
import Derived.Test.YtdcojaccpnabkaaGreatDoorA2
set_option linter.unusedVariables false
set_option linter.unusedSimpArgs false
set_option linter.unusedSectionVars false
namespace Go.Proofs.YtdcojaccpnabkaaGreatDoor
section
open Go.RowKit
open Go.Lib hiding intOf
theorem yO {n:Nat} (h:n<65536):(cj (n:Int)).size≤1000:=by
 have h1:(cj n).size=(itoa n).length:=by simp [cj,ByteArray.size]
 have:=vS n 9 (by omega);rw [h1,lf]; omega
section
variable {l:List aR} {V:Nat→ByteArray} {b0:am} {x y z:aI}
structure Ran (l:List aR) (V:Nat→ByteArray) (b0:am) (x:aI) (k:ah) (x':aI):Prop where
 ok:FW l V b0 x'
 ver:nv x.B x'.B
 busy:∀ k,dw x'.Busy k=dw x.Busy k
 psi:(x'.E=0∧psi l x'≤psi l x+1∧il x'.B k=true)∨(x'.E≠0∧psi l x'≤psi l x)
def Ny (l:List aR) (V:Nat→ByteArray) (b0:am) (x:aI) (N k:Nat):(List ah)×(List ByteArray)×Int×(List aZ)×(List ab)×(List (ah×Bool))×(List ah)×Int×(List aR)×Int×(List aZ)×(List ab)×(List (ah×ByteArray))×(List (ah×(List ah)))→Prop
 | (rd,ws,rev,ins,recs,busy,ran,e,rules,srev,sins,srecs,memo,seen)=>oB l V b0 x (IZ rev ins recs busy ran e rules srev sins srecs memo seen)∧ws.length=rd.length∧(∀ q∈rd,oA l q)∧rd.length≤N∧(e=0→rd.length=k)
def NI (l:List aR) (V:Nat→ByteArray) (b0:am) (x:aI) (k:ah):Fl (Int×(List aZ)×(List ab)×(List (ah×Bool))×(List ah)×Int×(List aR)×Int×(List aZ)×(List ab)×(List (ah×ByteArray))×(List (ah×(List ah)))) aI→Prop
 | .go (rev,ins,recs,busy,ran,e,rules,srev,sins,srecs,memo,seen)=>oB l V b0 x (IZ rev ins recs busy ran e rules srev sins srecs memo seen)∧e≠0
 | .out x'=>Ran l V b0 x k x'
section
variable {urec:aI→ah→Option aI} {f n:Nat} {r:aR} (hR:bI l) (hD:Ee l (tC b0) V) (hb0:Rm b0.Inputs.length) (hu:Nz l V b0 urec f) (hn:l[n]? = some r) (hp:psi l x≤8) (hf:HZ l x.Busy<f)
include hR hD hb0 hu hn hp hf
theorem Hu {k:Nat}:∀ s,Ny l V b0 x r.Asks.length k s→Ok (f9 urec vv (rk l n) s.1 s.2.1 s.2.2.1 s.2.2.2.1 s.2.2.2.2.1 s.2.2.2.2.2.1 s.2.2.2.2.2.2.1 s.2.2.2.2.2.2.2.1 s.2.2.2.2.2.2.2.2.1 s.2.2.2.2.2.2.2.2.2.1 s.2.2.2.2.2.2.2.2.2.2.1 s.2.2.2.2.2.2.2.2.2.2.2.1 s.2.2.2.2.2.2.2.2.2.2.2.2.1 s.2.2.2.2.2.2.2.2.2.2.2.2.2) fun y=>match y with
   | .go s'=>k<r.Asks.length∧Ny l V b0 x r.Asks.length (k+1) s'
   | .out y=>NI l V b0 x (rk l n) y:=by
 rintro⟨rd,ws,rev,ins,recs,busy,ran,e,rules,srev,sins,srecs,memo,seen⟩ ⟨h1,h2,h3,h4,h5⟩;dsimp only;have hl:=hR.high;have h3l:=(hR.each n r hn).asks;have hnl:=aV hn;have hE:=h1.ok;have hB:jm l (am.mk rev ins recs):=hE.base;have hru:rules=l:=hE.sol.rules;unfold f9;refine aC (fun he=>?_) (fun he=>ap ⟨h1,by simpa using he⟩);obtain rfl:e=0:=by simpa using he
 have h5:=h5 rfl;obtain⟨t,ht,hcase⟩:=uG hR hn (ws:=ws) (by omega);refine aN (by rw [hru]; exact ht) ?_;unfold jk;rcases hcase with⟨e1,rfl⟩|⟨w,hw,rfl⟩
 ·simp only [cond_true];refine aN (hB.find hl _) ?_;obtain⟨m,hm1,hm2⟩:=vi hR hn (ls:=ws) (by omega);obtain⟨q,q1,q2,q3,q4⟩:=EH hB hl hnl (v:=cj (tI r ws)) (by rw [hm1]; exact yO hm2) (reads:=rd) (by omega) h3;have hran:ran.length≤8:=by have h:=h1.psi; unfold psi at h hp; have h:ran.length+_≤x.Ran.length+_:=h; omega
  have hput:l6 recs q=some (pZ recs q):=A0 hB.recsA (hB.rm hl).1.1 (by have:=q2.reads; unfold Rm; omega);have hj2:Ok (eP (rk l n) rd rev ins recs busy ran 0 rules srev sins srecs memo seen (cj (tI r ws)) false) fun y=>match y with
   | .go s'=>k<r.Asks.length∧Ny l V b0 x r.Asks.length (k+1) s'
   | .out y=>NI l V b0 x (rk l n) y:=by
   unfold eP;simp only [cond_false];refine aN q1 (aN hput (fF (dX (by simp; omega)) (ap ?_)));obtain⟨v1,v2⟩:=Jh hB q4;rw [q3] at v2;refine⟨⟨hE.sol,hB.put q2,hE.rev,hE.ins,hE.nd⟩,h1.ver.trans v1,h1.busy,.inl ⟨rfl,?_,v2⟩⟩;have hc:=Ct (l:=l) (m:=busy) v1 (fun _ e=>e) l.length;have hpp:=h1.psi;have hpp:ran.length+xp (fun n=>!il (am.mk rev ins recs) (rk l n)||dw busy (rk l n)) l.length≤Go.Proofs.YtdcojaccpnabkaaGreatDoor.psi l x:=hpp;show (ran++[rk l n]).length+xp (fun n=>!il (am.mk rev ins (pZ recs q)) (rk l n)||dw busy (rk l n)) l.length≤Go.Proofs.YtdcojaccpnabkaaGreatDoor.psi l x+1;have hc:xp (fun n=>!il (am.mk rev ins (pZ recs q)) (rk l n)||dw busy (rk l n)) l.length≤xp (fun n=>!il (am.mk rev ins recs) (rk l n)||dw busy (rk l n)) l.length:=hc;rw [bL];simp only [d8,jR];omega
  unfold jj;have hrl:=hB.nrec;have hrl:recs.length≤l.length:=hrl;refine aC (fun _=>?_) (fun _=>hj2);rw [decide_eq_false (by omega)];exact hj2
 ·simp only [cond_false];have hlt:=aV hw;obtain⟨_,hg⟩:=pv hR hn hw ws;have hgood:oA l (so l w ws):=by
   rcases hg with⟨_,c,hc,_,e4⟩|⟨_,j,hj,_,e4⟩
   ·exact .inl ⟨c,hc,e4⟩
   ·exact .inr ⟨j,by have:=yU hnl; omega,e4⟩
  refine aL (hu _ (so l w ws) h1.ok (cx h1.psi hp) hgood (by rw [wW h1.busy]; exact hf)) fun x' ⟨g1,g2⟩=>?_;refine aC (fun he=>?_) (fun he=>?_)
  ·have he:x'.E=0:=by simpa using he
   refine fF (dX (by simp; omega)) (aL (Ay hR hD hb0 g1.ok.sol g1.ok.base hgood) fun y hy=>fF (dX (by simp; omega)) (ap ⟨by omega,(h1.trans g1).trans (oB.base g1.ok g1.ok.base rfl rfl (nv.refl _) hy),?_,?_,?_,fun _=>?_⟩))
   ·rw [bL,bL,h2]; rfl
   ·intro q hq;rcases dc.1 hq with hq | hq
    ·exact h3 q hq
    ·rw [kG.1 hq]; exact hgood
   ·rw [bL]; simp; omega
   ·rw [bL,h5]; rfl
  ·have he:x'.E≠0:=by simpa using he
   exact ap ⟨by omega,h1.trans g1,h2,h3,h4,fun e0=>absurd e0 he⟩
theorem LH (hx:FW l V b0 x):Ok (gG urec vv x (rk l n)) (Ran l V b0 x (rk l n)):=by
 unfold gG;refine bG (Ny l V b0 x r.Asks.length) (NI l V b0 x (rk l n)) r.Asks.length ⟨oB.refl hx,rfl,fun q hq=>absurd hq ou,fE _,fun _=>rfl⟩ (fun k s hk hI=>(Hu hR hD hb0 hu hn hp hf s hI).mono fun y hy=>by cases y <;> exact hy) ?_;rintro (⟨rev,ins,recs,busy,ran,e,rules,srev,sins,srecs,memo,seen⟩ | x') hr
 ·exact ap ⟨hr.1.ok,hr.1.ver,hr.1.busy,.inr ⟨hr.2,hr.1.psi⟩⟩
 ·exact ap hr
end
theorem vR (m:List (ah×Bool)) (k j:ah):dw (d9 aP k true m) j=(decide (j=k)||dw m j):=by
 unfold dw;by_cases e:j=k
 ·subst e;rw [gn]; simp
 ·rw [lh e]; simp [e]
theorem Co {m:List (ah×Bool)} (h:Nd m) (k j:ah):dw (r6 aP k m) j=(!decide (j=k)&&dw m j):=by
 unfold dw;rw [GX o5 j k h];by_cases e:j=k
 ·subst e;rw [CL]; simp
 ·rw [GN e]; simp [e]
section
variable {urec:aI→ah→Option aI} {f n:Nat} (hR:bI l) (hD:Ee l (tC b0) V) (hb0:Rm b0.Inputs.length) (hu:Nz l V b0 urec f) (hn:n<l.length) (hx:FW l V b0 x) (hp:psi l x≤8) (hf:HZ l x.Busy<f+1)
include hR hD hb0 hu hn hx hp hf
theorem LS (hv:il x.B (rk l n)=false) (hbu:dw x.Busy (rk l n)=false):Ok ((fa urec vv (aI.mk x.S x.B (d9 aP (rk l n) true x.Busy) x.Ran x.E) (rk l n)).bind fun u116=>cond u116.1 ((gG urec vv (aI.mk (ar.mk u116.2.S.Rules (am.mk u116.2.S.Base.Revision u116.2.S.Base.Inputs u116.2.S.Base.Records) u116.2.S.Memo u116.2.S.Seen) (am.mk u116.2.B.Revision u116.2.B.Inputs u116.2.B.Records) u116.2.Busy u116.2.Ran u116.2.E) (rk l n)).bind fun u117=>fb (rk l n) u117.B.Revision u117.B.Inputs u117.B.Records u117.Busy u117.Ran u117.E u117.S.Rules u117.S.Base.Revision u117.S.Base.Inputs u117.S.Base.Records u117.S.Memo u117.S.Seen) (fb (rk l n) u116.2.B.Revision u116.2.B.Inputs u116.2.B.Records u116.2.Busy u116.2.Ran u116.2.E u116.2.S.Rules u116.2.S.Base.Revision u116.2.S.Base.Inputs u116.2.S.Base.Records u116.2.S.Memo u116.2.S.Seen))
  fun x'=>oB l V b0 x x'∧(x'.E=0→oZ x' (rk l n)=true):=by
 have hl:=hR.high;have hi:=bq hn;have hx1:FW l V b0 (aI.mk x.S x.B (d9 aP (rk l n) true x.Busy) x.Ran x.E):=⟨hx.sol,hx.base,hx.rev,hx.ins,Nd.put o5 hx.nd _ _⟩;have hp1:psi l (aI.mk x.S x.B (d9 aP (rk l n) true x.Busy) x.Ran x.E)≤psi l x:=by
  refine Nat.add_le_add_left (yw (fun m hm=>?_) _) _;rw [xC] at hm ⊢;rcases hm with hm | hm
  ·exact .inl hm
  ·rw [vR,xC,decide_eq_true_eq] at hm;rcases hm with hm | hm
   ·left; rw [hm,hv]; rfl
   ·exact .inr hm
 have hf1:HZ l (d9 aP (rk l n) true x.Busy)<f:=by
  have:HZ l (d9 aP (rk l n) true x.Busy)<HZ l x.Busy:=by
   refine Bh (i:=n) (fun m hm=>?_) (by rw [vR]; simp) (by rw [hbu]; rfl) _ hn;rw [vR,uh,Bool.or_eq_false_iff] at hm;rw [hm.2]; rfl
  omega
 have fin:∀ {x2:aI},FW l V b0 x2→nv x.B x2.B→(∀ k,dw x2.Busy k=(decide (k=rk l n)||dw x.Busy k))→(psi l x2≤psi l x∨(psi l x2≤psi l x+1∧il x2.B (rk l n)=true))→(x2.E=0→il x2.B (rk l n)=true) →
   oB l V b0 x ⟨x2.S,x2.B,r6 aP (rk l n) x2.Busy,x2.Ran,x2.E⟩∧(x2.E=0→oZ ⟨x2.S,x2.B,r6 aP (rk l n) x2.Busy,x2.Ran,x2.E⟩ (rk l n)=true):=by
  intro x2 q1 q2 q3 q4 q5;have hbz:∀ k,dw (r6 aP (rk l n) x2.Busy) k=dw x.Busy k:=fun k=>by
   rw [Co q1.nd,q3];by_cases e:k=rk l n
   ·rw [e,hbu]; simp
   ·simp [e]
  have hm:∀ m,(!il x2.B (rk l m)||dw (r6 aP (rk l n) x2.Busy) (rk l m))=true→(!il x2.B (rk l m)||dw x2.Busy (rk l m))=true:=fun m hm=>by
   rw [xC] at hm ⊢;rcases hm with hm | hm
   ·exact .inl hm
   ·rw [Co q1.nd,pR] at hm;exact .inr hm.2
  refine⟨⟨⟨q1.sol,q1.base,q1.rev,q1.ins,Nd.del o5 q1.nd _⟩,q2,hbz,?_⟩,fun e0=>?_⟩
  ·rcases q4 with q4 | ⟨q4,q6⟩
   ·exact cx (Nat.add_le_add_left (yw hm _) _) q4
   ·have hlt:xp (fun m=>!il x2.B (rk l m)||dw (r6 aP (rk l n) x2.Busy) (rk l m)) l.length<xp (fun m=>!il x2.B (rk l m)||dw x2.Busy (rk l m)) l.length:=Bh (i:=n) hm (by rw [q6,hbz,hbu]; rfl) (by rw [q3]; simp) l.length hn;have q4:x2.Ran.length+xp (fun m=>!il x2.B (rk l m)||dw x2.Busy (rk l m)) l.length≤Go.Proofs.YtdcojaccpnabkaaGreatDoor.psi l x+1:=q4;show x2.Ran.length+xp (fun m=>!il x2.B (rk l m)||dw (r6 aP (rk l n) x2.Busy) (rk l m)) l.length≤Go.Proofs.YtdcojaccpnabkaaGreatDoor.psi l x;omega
  ·unfold oZ;have:il x2.B (rk l n)=true:=q5 e0;show (_||il x2.B (rk l n))=true;rw [this,Bool.or_true]
 refine aL (Gd hR hD hb0 hu hx1 (cx hp1 hp) hf1) fun u ⟨g1,g2⟩=>?_;have hbu2:∀ k,dw u.2.Busy k=(decide (k=rk l n)||dw x.Busy k):=fun k=>by rw [g1.busy,vR]
 refine aC (fun hc=>?_) (fun hc=>?_)
 ·refine aL (LH hR hD hb0 hu hi (x:=u.2) (cx g1.psi (cx hp1 hp)) (by rw [wW g1.busy]; exact hf1) g1.ok) fun x3 h3=>?_;refine ap (fin h3.ok (nv.trans g1.ver h3.ver) (fun k=>(h3.busy k).trans (hbu2 k)) ?_ fun e0=>?_)
  ·have:=cx g1.psi hp1;rcases h3.psi with⟨_,h,h'⟩|⟨_,h⟩
   ·exact .inr ⟨by omega,h'⟩
   ·exact .inl (by omega)
  ·rcases h3.psi with⟨_,_,h'⟩|⟨h,_⟩
   ·exact h'
   ·exact absurd e0 h
 ·exact ap (fin g1.ok g1.ver hbu2 (.inl (cx g1.psi hp1)) (g2 hc))
end
theorem J1 (hR:bI l) (hD:Ee l (tC b0) V) (hb0:Rm b0.Inputs.length):∀ f,Nz l V b0 (FQ f) f
 | 0=>fun x k _ _ _ h=>absurd h (by omega)
 | f+1=>by
  intro x k hx hp hk hf;have ih:=J1 hR hD hb0 f;have hl:=hR.high;show Ok (kE (FQ f) vv x k) _;unfold kE;refine aC (fun he=>ap ⟨oB.refl hx,fun e0=>by rw [e0] at he; cases he⟩) (fun he=>?_);refine aN (nW k) (aC (fun hi=>ap ⟨oB.refl hx,fun _=>?_⟩) (fun hi=>?_))
  ·unfold oZ;rw [hi]; rfl
  ·obtain⟨n,hn,rfl⟩:∃ n,n<l.length∧k=rk l n:=by
    rcases hk with⟨c,_,rfl⟩ | h
    ·rw [vl] at hi; cases hi
    ·exact h
   refine aN (hx.base.find hl _) ?_;have hj3:il x.B (rk l n)=false→Ok (fc (FQ f) vv x (rk l n) false) fun x'=>oB l V b0 x x'∧(x'.E=0→oZ x' (rk l n)=true):=fun hv=>by
    unfold fc;simp only [cond_false,aq];refine aC (fun hbu=>?_) (fun hbu=>LS hR hD hb0 ih hn hx hp hf hv hbu);refine aN (fL _) (aC (fun hcy=>?_) (fun hcy=>?_))
    ·exact ap ⟨⟨⟨hx.sol,hx.base,hx.rev,hx.ins,hx.nd⟩,nv.refl _,fun _=>rfl,ce _⟩,fun e0=>by cases e0⟩
    ·refine ap ⟨⟨⟨hx.sol,hx.base,hx.rev,hx.ins,hx.nd⟩,nv.refl _,fun _=>rfl,ce _⟩,fun e0=>?_⟩;have hc:pA (rk l n)=true:=by simpa using hcy
     have hbu:dw x.Busy (rk l n)=true:=hbu;unfold oZ;show (_||(dw x.Busy (rk l n)&&pA (rk l n))||_)=true;rw [hc,hbu]; simp
   unfold kg;refine aC (fun hf2=>?_) (fun hf2=>hj3 (by unfold il; rw [hf2]; rfl));cases hver:((cq x.B.Records (rk l n)).1.Verified==x.B.Revision) with
   | true =>
    refine ap ⟨oB.refl hx,fun _=>?_⟩;unfold oZ il;rw [hf2,show (cq x.B.Records (rk l n)).1.Verified=x.B.Revision by simpa using hver];simp
   | false=>exact hj3 (by unfold il; rw [show decide ((cq x.B.Records (rk l n)).1.Verified=x.B.Revision)=false by simpa using hver,Bool.and_false])
end
end
section
open Go.RowKit
open Go.Lib hiding intOf
theorem fK {ρ:Type} {B:Int→Option (Fl Int ρ)} {r:ρ} (n:Nat) (hgo:∀ k,k<n→B (k:Int)=some (.go ((k+1:Nat):Int))) (hn:B (n:Int)=some (.out r)):loop B 0=some r :=
 yc (B:=B) (fun k=>(k:Int)) n rfl hgo hn
section
variable {l:List aR} {b:am}
theorem FH (hl:l.length≤8) {rev:Int} (hrev:rev≤1000000) {r:ab} (h:ku l rev r):lw r=some true:=by
 obtain⟨n,hn,hk⟩:=h.key;have h3:=h.reads;have h4:=h.value;have h5:=h.low;have h6:=h.mid;have h7:=h.high;have h8:=h.cost;unfold lw;refine d7 (fK (r:=Fl.go ()) r.Reads.length (fun k hk=>?_) ?_) ?_
 ·unfold ez;rw [dlt hk,cond_true,bN hk,aq,(h.good _ (ge hk)).valid hl,aq,cc (by omega)];rfl
 ·unfold ez;rw [bA]; rfl
 ·show jC r=some true;unfold jC;rw [hk,C3 (by omega),aq,cond_true,wB,aq,decide_eq_true (by omega),decide_eq_true (by omega),decide_eq_true (by omega),decide_eq_true (by omega),decide_eq_true (by omega),decide_eq_true (by omega),decide_eq_true (by omega)];simp only [nM,cond_true];rw [fL,aq];unfold cp;cases hd:r.Dirty with
  | false=>rfl
  | true =>
   have:=h.dirty hd;rw [hk] at this;rw [this]; rfl
theorem HP (h:jm l b) (hl:l.length≤8):fU b.Records=some true:=by
 have hn:=h.nrec;unfold fU;refine d7 (fK (r:=Fl.go ()) b.Records.length (fun k hk=>?_) ?_) ?_
 ·unfold cX;rw [dlt hk,cond_true,bN hk,aq,FH hl h.rev.2 (h.recs _ (ge hk)),aq];have hj:dp (k:Int) false=some (.go ((k+1:Nat):Int)):=by unfold dp; rw [cc (by omega)]; rfl
  simp only [eI,cond_false];rcases wK k with h0 | h0
  ·subst h0;exact hj
  ·rw [decide_eq_true (by omega),cond_true,show IntKind.i64.wrap ((k:Int)-1)=((k-1:Nat):Int) by rw [gM (by omega) (by omega)]; omega,bN (show k-1<b.Records.length by omega),aq,jK,aq];have:=gv.1 h.recsA (k-1) k (by omega) hk (by omega);rw [decide_eq_false (by omega)];exact hj
 ·unfold cX;rw [bA]; rfl
 ·show some (decide ((b.Records.length:Int)≤4000))=some true;rw [decide_eq_true (by omega)]
theorem BT (h:jm l b) (hl:l.length≤8):fw b=some true:=by
 have hn:=h.nrec;have hi:=h.nin;have hrev:=h.rev;unfold fw;refine d7 (fK (r:=Fl.go ()) b.Inputs.length (fun k hk=>?_) ?_) ?_
 ·have hx:=h.ins _ (ge hk);obtain⟨c,hc,hkey⟩:=hx.key;have h1:=hx.value;have h2:=hx.low;have h3:=hx.high;unfold eE;rw [dlt hk,cond_true,bN hk,aq,hkey,vf (by omega),aq];have hj:cD (k:Int) false=some (.go ((k+1:Nat):Int)):=by unfold cD; rw [cc (by omega)]; rfl
  simp only [eI,cond_false];rw [qQ,aq];simp only [eI,cond_false];rw [decide_eq_false (show ¬ (1073741824:Int)<(b.Inputs[k].Value.size:Int) by omega),decide_eq_false (show ¬ (b.Inputs[k].Changed:Int)<0 by omega),decide_eq_false (show ¬ (b.Revision:Int)<b.Inputs[k].Changed by omega)];rcases wK k with h0 | h0
  ·subst h0;exact hj
  ·rw [decide_eq_true (by omega),cond_true,show IntKind.i64.wrap ((k:Int)-1)=((k-1:Nat):Int) by rw [gM (by omega) (by omega)]; omega,bN (show k-1<b.Inputs.length by omega),aq,jK,aq];have:=gv.1 h.insA (k-1) k (by omega) hk (by omega);rw [hkey] at this;rw [decide_eq_false (by omega)];exact hj
 ·unfold eE;rw [bA]; rfl
 ·show jF b=some true;unfold jF;refine d7 (fK (r:=Fl.go ()) b.Records.length (fun k hk=>?_) ?_) ?_
  ·have:=(h.recs _ (ge hk)).high;unfold eC;rw [dlt hk,cond_true,bN hk,aq,decide_eq_false (by omega),cc (by omega)]; rfl
  ·unfold eC;rw [bA]; rfl
  ·show jE b=some true;unfold jE;rw [decide_eq_true hrev.1,decide_eq_true (by omega),decide_eq_true (by omega),HP h hl]; rfl
theorem Hm (hl:l.length≤8) {k:ah} (hk:oA l k):nB l k=some true:=by
 unfold nB;rw [hk.valid hl,aq,cond_true];rcases hk with⟨c,hc,rfl⟩|⟨n,hn,rfl⟩
 ·rfl
 ·have h1:∀ q,fx ((q:ah).Kind==q.Kind&&q.Text.toList==q.Text.toList)=some true:=fun q=>by unfold fx; simp
  rcases qv (l:=l) (n:=n) with⟨h,_⟩|⟨h,_⟩
  ·rw [show ((rk l n).Kind != 31)=false by rw [h]; rfl,cond_false,oU,aq,zk (by omega),zm hn (by omega),aq];exact h1 _
  ·rw [show ((rk l n).Kind != 31)=true by rw [h]; rfl,cond_true,show ((rk l n).Kind != 32)=false by rw [h]; rfl,cond_false,oU,aq,zk (by omega),zm hn (by omega),aq];exact h1 _
theorem Bd (hR:bI l) (h:jm l b) {goals:List ah} (hg:∀ k∈goals,oA l k) (hn:goals.length≤32):lD l b goals=some 0:=by
 have hl:=hR.high;unfold lD;rw [FJ hR.bnd,DL hR,aq];simp only [eI,cond_false];rw [BT h hl,aq,decide_eq_false (by omega)];simp only [eI,cond_false];refine d7 (fK (r:=Fl.go ()) goals.length (fun k hk=>?_) ?_) rfl
 ·unfold lE;rw [dlt hk,cond_true,bN hk,aq,Hm hl (hg _ (ge hk)),aq,cc (by omega)]; rfl
 ·unfold lE;rw [bA]; rfl
def O9 (l:List aR) (V:Nat→ByteArray) (b0:am) (k:Nat):Int×Int×(List aZ)×(List ab)×(List (ah×Bool))×(List ah)×Int×(List aR)×Int×(List aZ)×(List ab)×(List (ah×ByteArray))×(List (ah×(List ah)))→Prop
 | (i,rev,ins,recs,busy,ran,e,rules,srev,sins,srecs,memo,seen)=>i=(k:Int)∧FW l V b0 (IZ rev ins recs busy ran e rules srev sins srecs memo seen)∧psi l (IZ rev ins recs busy ran e rules srev sins srecs memo seen)≤8
def Pc (l:List aR) (V:Nat→ByteArray) (b0:am):Int×(List aZ)×(List ab)×(List (ah×Bool))×(List ah)×Int×(List aR)×Int×(List aZ)×(List ab)×(List (ah×ByteArray))×(List (ah×(List ah)))→Prop
 | (rev,ins,recs,busy,ran,e,rules,srev,sins,srecs,memo,seen)=>FW l V b0 (IZ rev ins recs busy ran e rules srev sins srecs memo seen)∧psi l (IZ rev ins recs busy ran e rules srev sins srecs memo seen)≤8
structure vc (l:List aR) (b b':am):Prop where
 ok:jm l b'
 rev:b'.Revision=b.Revision
 ins:b'.Inputs=b.Inputs
theorem DU (hR:bI l) (h:jm l b) {goals:List ah} (hg:∀ k∈goals,oA l k) (hn:goals.length≤32):Ok (mJ uu l b goals) fun y=>vc l b y.1:=by
 have hl:=hR.high;have hb0:=(h.rm hl).2.1;have hD:=Gq (tC b) hR;have hcp:=tF (h.rm hl).1 hb0;unfold mJ;rw [hcp,aq,Bd hR h hg hn,aq];simp only [show ((0:Int) != 0)=false from rfl,cond_false];refine aN (v:=ar.mk l b [] []) rfl ?_;rw [hcp,aq];unfold l8;refine bG (O9 l (Vd l (tC b)) b) (Pc l (Vd l (tC b)) b) goals.length ?_ ?_ ?_
 ·refine⟨rfl,⟨⟨rfl,rfl,fun n _ v e=>(by cases e),fun c=>rfl⟩,h,rfl,rfl,uL⟩,?_⟩;have:=um (fun n=>!il b (rk l n)||dw [] (rk l n)) l.length;show 0+xp (fun n=>!il b (rk l n)||dw [] (rk l n)) l.length≤8;omega
 ·rintro k ⟨i,rev,ins,recs,busy,ran,e,rules,srev,sins,srecs,memo,seen⟩ hk ⟨rfl,h1,h2⟩;dsimp only;unfold l9;refine aC (fun hlt=>?_) (fun _=>ap ⟨h1,h2⟩);have hlt:k<goals.length:=by have:=of_decide_eq_true hlt; omega
  have hnb:=um (fun n=>!dw busy (rk l n)) l.length;refine aN (bN hlt) (aL (J1 hR hD hb0 40 _ _ h1 h2 (hg _ (ge hlt)) (show xp (fun n=>!dw busy (rk l n)) l.length<40 by omega)) fun x' ⟨g1,_⟩=>?_);exact ap ⟨hlt,cc (by omega),g1.ok,cx g1.psi h2⟩
 ·rintro⟨rev,ins,recs,busy,ran,e,rules,srev,sins,srecs,memo,seen⟩ ⟨h1,h2⟩;dsimp only;unfold jG;refine aC (fun _=>ap ⟨h,rfl,rfl⟩) (fun _=>?_);have hr:ran.length≤8:=by
   have h2:ran.length+_≤8:=h2;omega
  obtain⟨m,hm,_⟩:=sf (l:=ran) (by unfold Rm; omega);exact aN hm (ap ⟨h1.base,h1.rev,h1.ins⟩)
theorem IS (hR:bI l) {d:List Int} {i:Int} (hd:bO d i):Ok (sF ⟨d,i⟩ l) fun y=>oA l y.1∧bO y.2.L y.2.At:=by
 have hl:=hR.high;have h2l:=hR.low;unfold sF;refine aL (cZ hd (by omega) (by omega)) fun y ⟨_,_,d1⟩=>aC (fun _=>?_) (fun _=>?_)
 ·refine aL (cZ d1 (by omega) (by omega)) fun z ⟨z1,z2,d2⟩=>?_;obtain⟨c,hc⟩:∃ c:Nat,z.1=c:=⟨z.1.toNat,by omega⟩;rw [hc];exact aN (vu (by omega)) (ap ⟨.inl ⟨c,by omega,rfl⟩,d2⟩)
 ·refine aL (cZ d1 (by omega) (by omega)) fun z ⟨z1,z2,d2⟩=>aC (fun _=>?_) (fun _=>?_)
  ·refine aL (cZ d2 (by omega) (by omega)) fun w ⟨w1,w2,d3⟩=>?_;have e1:IntKind.i64.wrap ((l.length:Int)-1)=(l.length:Int)-1:=gM (by omega) (by omega);rw [e1,gM (by omega) (by omega)];obtain⟨c,hc⟩:∃ c:Nat,(l.length:Int)-1-w.1=c:=⟨((l.length:Int)-1-w.1).toNat,by omega⟩;rw [hc];exact aN (zm (by omega) (by omega)) (ap ⟨.inr ⟨c,by omega,rfl⟩,d3⟩)
  ·refine aL (cZ d2 (by omega) (by omega)) fun w ⟨w1,w2,d3⟩=>?_;obtain⟨c,hc⟩:∃ c:Nat,w.1=c:=⟨w.1.toNat,by omega⟩;rw [hc];exact aN (zm (by omega) (by omega)) (ap ⟨.inr ⟨c,by omega,rfl⟩,d3⟩)
theorem CD (hR:bI l) {d:List Int} {i:Int} (hd:bO d i) {most:Int} (h1:1≤most) (h2:most≤30):Ok (oL ⟨d,i⟩ l most) fun y=>(∀ k∈y.1,oA l k)∧y.1.length≤32∧bO y.2.L y.2.At:=by
 unfold oL;refine aL (cZ hd h1 (by omega)) fun y ⟨y1,y2,d1⟩=>?_;rw [gM (by omega) (by omega)];refine bG (fun (k:Nat) (s:(List ah)×Int×(List Int)×Int)=>(∀ q∈s.1,oA l q)∧s.1.length=k∧s.2.1=y.1+1-k∧bO s.2.2.1 s.2.2.2) (fun r=>(∀ q∈r.1,oA l q)∧r.1.length≤32∧bO r.2.1 r.2.2) 31 ⟨fun q hq=>absurd hq ou,rfl,by simp,d1⟩ ?_ (fun r hr=>ap hr);rintro k ⟨gs,c,d,i⟩ hk ⟨g1,g2,g3,g4⟩;dsimp only at g1 g2 g3 g4 ⊢;unfold o7;refine aC (fun hc=>?_) (fun _=>ap ⟨g1,by show gs.length≤32; omega,g4⟩);have hc:=of_decide_eq_true hc;refine aL (IS hR g4) fun z ⟨z1,z2⟩=>fF (dX (by simp; omega)) (ap ⟨by omega,?_,by rw [bL,g2]; rfl,?_,z2⟩)
 ·intro q hq;rcases dc.1 hq with hq | hq
  ·exact g1 q hq
  ·rw [kG.1 hq]; exact z1
 ·show IntKind.i64.wrap (c-1)=_;rw [gM (by omega) (by omega)]; omega
end
end
section
open Go.RowKit
open Go.Lib hiding intOf
section
variable {l:List aR} {V:Nat→ByteArray} {b0 b:am}
theorem Bi (hR:bI l):kF l=some l:=by
 have h8:=hR.high;unfold kF kh;refine d7 (cG (xs:=l) (fun k=>(l.take k,(k:Int))) rfl (r:=l) (fun k x hx=>?_) ?_) rfl
 ·have hlt:=aV hx;have:=(hR.each k x hx).asks;unfold g9;dsimp only;rw [dlt hlt,cond_true,aM,hx,aq,dX (by simp; omega),dX (by rw [dh]; simp; omega),cc (by omega),bw hx];rfl
 ·unfold g9;dsimp only;rw [bA,i7]; rfl
structure Cb (l:List aR) (f:bv):Prop where
 key:∃ n,n<l.length∧f.Key=rk l n
 at0:0≤f.At
 at1:f.At≤1000000
 reads:f.Reads.length≤3
 same:f.Answers.length=f.Reads.length
 good:∀ k∈f.Reads,oA l k
theorem uQ {fs:List bv} (h:∀ f∈fs,Cb l f) (hl:fs.length≤1000):dW fs=some fs:=by
 unfold dW cL;refine d7 (cG (xs:=fs) (fun k=>(fs.take k,(k:Int))) rfl (r:=fs) (fun k x hx=>?_) ?_) rfl
 ·have hlt:=aV hx;have hf:=h x (aG hx);have h1:=hf.reads;have h2:=hf.same;unfold bR;dsimp only;rw [dlt hlt,cond_true,aM,hx,aq,dX (by simp; omega),dX (by simp; omega),dX (by rw [dh]; simp; omega),cc (by omega),bw hx];rfl
 ·unfold bR;dsimp only;rw [bA,i7]; rfl
theorem G3 {fs:List bv} (hl:fs.length≤1000) (k:ah):Ok (rx fs k) fun _=>True:=by
 unfold rx;refine bG (fun (i:Nat) (s:Int)=>s=i∧i≤fs.length) (fun _=>True) fs.length ⟨rfl,fE _⟩ ?_ ?_
 ·rintro i _ hi ⟨rfl,_⟩;unfold rS;refine aC (fun hlt=>?_) (fun _=>ap trivial);have hlt:i<fs.length:=by have:=of_decide_eq_true hlt; omega
  refine aN (bN hlt) (aC (fun _=>ap trivial) (fun _=>ap ⟨hlt,cc (by omega),hlt⟩))
 ·rintro (_ | _) _ <;> exact ap trivial
theorem AU (hl:l.length≤8) (hb:jm l b) {fs:List bv} (hf:fs.length≤1000) {k:ah} (hk:oA l k):Ok (ma b fs k) fun y=>y=true→∃ n,n<l.length∧k=rk l n:=by
 unfold ma;refine aN (nW k) (aC (fun _=>ap fun e=>by cases e) (fun hi=>?_));have hn:∃ n,n<l.length∧k=rk l n:=by
  rcases hk with⟨c,_,rfl⟩ | h
  ·rw [vl] at hi; cases hi
  ·exact h
 refine aL (G3 hf k) fun _ _=>aC (fun _=>ap fun _=>hn) (fun _=>aN (hb.find hl k) (aC (fun _=>ap fun _=>hn) (fun _=>ap fun _=>hn)))
theorem EF (hl:l.length≤8) (hb:jm l b) {fs:List bv} (hf:fs.length≤1000) {k:ah} (hk:oA l k):Ok (oT b fs [] k) fun y=>y=1→∃ n,n<l.length∧k=rk l n:=by
 have hj:∀ g,Ok (kU b fs [] k g) fun y=>y=1→∃ n,n<l.length∧k=rk l n:=fun g=>by
  unfold kU;refine aC (fun _=>ap fun e=>by cases e) (fun _=>aL (AU hl hb hf hk) fun y hy=>aC (fun _=>ap fun e=>by cases e) (fun hn=>?_));have hn:=hy (by simpa using hn);refine aL (G3 (by simp) k) fun _ _=>aC (fun _=>ap fun _=>hn) (fun _=>aN (fL _) (aC (fun _=>ap fun _=>hn) (fun _=>ap fun _=>hn)))
 unfold oT;exact aN (fL _) (aC (fun _=>aL (G3 hf k) fun _ _=>hj _) (fun _=>hj _))
structure Ef (l:List aR) (V:Nat→ByteArray) (b0 b:am) (N:Nat) (y:am×(List bv)×(List ah)×Bool×Int×ar):Prop where
 lv:vc l b y.1
 fr:∀ f∈y.2.1,Cb l f
 len:y.2.1.length≤N+1
 wk:y.2.2.1.length≤1
 sol:sj l V b0 y.2.2.2.2.2
theorem Hx {fs:List bv} (h:∀ f∈fs,Cb l f) {f:bv} (hf:Cb l f) (i:Nat):∀ g∈fs.set i f,Cb l g:=fun g hg=>by
 rcases B9 hg with hg | rfl
 ·exact h g hg
 ·exact hf
theorem DA {fs:List bv} (h:∀ f∈fs,Cb l f) {n:Nat} (hn:n<l.length):∀ g∈fs++[bv.mk (rk l n) false 0 [] []],Cb l g:=fun g hg=>by
 rcases dc.1 hg with hg | hg
 ·exact h g hg
 ·rw [kG.1 hg];exact⟨⟨n,hn,rfl⟩,uK _,by show (0:Int)≤1000000; omega,fE _,rfl,fun k hk=>absurd hk ou⟩
theorem Fu (hR:bI l) (hD:Ee l (tC b0) V) (hb0:Rm b0.Inputs.length) {s:ar} (hs:sj l V b0 s) (hb:jm l b) {fs:List bv} (hf:∀ f∈fs,Cb l f) (h0:0<fs.length) (hlen:fs.length≤900) :
  Ok (oh vv s b fs []) (Ef l V b0 b fs.length):=by
 have hl:=hR.high;have hS:Fd b.Records:=(hb.rm hl).2.2;have hw:IntKind.i64.wrap ((fs.length:Int)-1)=((fs.length-1:Nat):Int):=by rw [gM (by omega) (by omega)]; omega
 have hlast:=bq (l:=fs) (i:=fs.length-1) (by omega);have hmem:=aG hlast;generalize fs[fs.length-1]=f at hlast hmem;have hF:=hf f hmem;obtain⟨n,hn,hkey⟩:=hF.key;have hi:=bq hn;generalize l[n]=r at hi;have lv0:vc l b b:=⟨hb,rfl,rfl⟩;have htake:∀ g∈fs.take (fs.length-1),Cb l g:=fun g hg=>hf g (tx hg);have hru:=hs.rules;have hr3:=hF.reads;have NC:=hF.same;unfold oh;refine aN (tF (hb.rm hl).1 (hb.rm hl).2.1) (aN (uQ hf (by omega)) ?_);rw [hw];refine aN (by rw [aM]; exact hlast) (aN (oX (by omega)) (aN (hb.find hl _) ?_));unfold ne;refine aC (fun hrun=>?_) (fun hrun=>?_)
 ·obtain⟨t,ht,hcase⟩:∃ t,dP l (rk l n) f.Answers=some t∧((r.Asks.length≤f.Answers.length∧t=⟨true,cj (tI r (f.Answers.take r.Asks.length)),⟨0,⟨#[]⟩⟩⟩)∨∃ x,r.Asks[f.Answers.length]? = some x∧t=⟨false,⟨#[]⟩,so l x f.Answers⟩):=by
   rcases i6 f.Answers.length r.Asks.length with h1 | h1
   ·exact⟨_,zz hR hi (bq h1),.inr ⟨_,bq h1,rfl⟩⟩
   ·exact⟨_,xc hR hi h1,.inl ⟨h1,rfl⟩⟩
  refine aN (by rw [hru,hkey]; exact ht) ?_;unfold m9;rcases hcase with⟨_,rfl⟩|⟨x,hx,rfl⟩
  ·simp only [cond_true];obtain⟨m,hm1,hm2⟩:=vi hR hi (ls:=f.Answers.take r.Asks.length) (by rw [dh]; omega);obtain⟨q,q1,q2,q3,q4⟩:=EH hb hl hn (v:=cj (tI r (f.Answers.take r.Asks.length))) (by rw [hm1]; exact yO hm2) hr3 hF.good;have hput:l6 b.Records q=some (pZ b.Records q):=A0 hb.recsA (hb.rm hl).1.1 (by have:=q2.reads; unfold Rm; omega);have hj2:Ok (iy s b fs f (fs.take (fs.length-1)) (cj (tI r (f.Answers.take r.Asks.length))) false) (Ef l V b0 b fs.length):=by
    unfold iy;simp only [cond_false];refine aN (by rw [hkey]; exact q1) (aN hput (ap ⟨⟨hb.put q2,rfl,rfl⟩,htake,?_,ce _,hs⟩));show (fs.take (fs.length-1)).length≤fs.length+1;rw [dh]; omega
   have hrl:=hb.nrec;rw [decide_eq_false (by omega)];exact aC (fun _=>hj2) (fun _=>hj2)
  ·simp only [cond_false];have hlt:=aV hx;have h3:=(hR.each n r hi).asks;obtain⟨_,hg⟩:=pv hR hi hx f.Answers;have hgood:oA l (so l x f.Answers):=by
    rcases hg with⟨_,c,hc,_,e4⟩|⟨_,j,hj,_,e4⟩
    ·exact .inl ⟨c,hc,e4⟩
    ·exact .inr ⟨j,by have:=yU hn; omega,e4⟩
   refine aL (EF hl hb (by omega) hgood) fun y hy=>?_;refine aC (fun h1=>?_) (fun _=>aC (fun _=>?_) (fun _=>aC (fun _=>?_) (fun _=>?_)))
   ·obtain⟨m,hm,e⟩:=hy (by simpa using h1);refine fF (dX (by simp; omega)) (ap ⟨lv0,?_,?_,fE _,hs⟩)
    ·have e:so l x f.Answers=rk l m:=e;show ∀ g∈fs++[bv.mk (so l x f.Answers) false 0 [] []],Cb l g;rw [e]; exact DA hf hm
    ·show (fs++[_]).length≤_;rw [bL]; exact ce _
   ·exact ap ⟨lv0,hf,xj _,fE _,hs⟩
   ·exact ap ⟨lv0,hf,xj _,fE _,hs⟩
   ·refine fF (dX (by simp; omega)) (aL (Ay hR hD hb0 hs hb hgood) fun z hz=>fF (dX (by simp; omega)) ?_);have hnew:Cb l (bv.mk f.Key f.Running f.At (f.Reads++[so l x f.Answers]) (f.Answers++[z.1])):=by
     refine⟨hF.key,hF.at0,hF.at1,?_,?_,?_⟩
     ·show (f.Reads++[_]).length≤3;rw [bL]; simp; omega
     ·show (f.Answers++[_]).length=(f.Reads++[_]).length;rw [bL,bL,NC]; rfl
     ·intro k hk;rcases dc.1 hk with hk | hk
      ·exact hF.good k hk
      ·rw [kG.1 hk]; exact hgood
    exact ap ⟨lv0,Hx hf hnew _,by show (fs.set _ _).length≤_; rw [rG]; exact xj _,fE _,hz⟩
 ·refine aL (JU hS b.Revision f.Key) fun g ⟨hg1,hg2,hg3⟩=>aN (AC hS (by omega)) ?_;have hclen:(fH b.Records g g).length≤1000000:=by have:=rL hS g g; omega
  have hgm:Rm g.length:=by unfold Rm; omega
  have pX:∀ i f',Cb l f'→(∀ g∈fs.set i f',Cb l g)∧(fs.set i f').length≤fs.length+1:=fun i f' hf'=>⟨Hx hf hf' i,by rw [rG]; exact xj _⟩;have hrun1:Cb l (bv.mk f.Key true 0 f.Reads f.Answers):=⟨hF.key,uK _,by show (0:Int)≤1000000; omega,hF.reads,hF.same,hF.good⟩;have hj5:∀ q:Bool,(q=false→(cq b.Records f.Key).2=true)→Ok (iz vv s [] b fs f (fs.take (fs.length-1)) g (fH b.Records g g) q) (Ef l V b0 b fs.length):=fun q hq=>by
   unfold iz;refine aC (fun _=>ap ⟨lv0,(pX _ _ hrun1).1,(pX _ _ hrun1).2,fE _,hs⟩) (fun _=>?_);refine aC (fun _=>?_) (fun hat=>?_)
   ·refine aN (yd (hb.rm hl).1 (hb.rm hl).2.1 hgm false) (ap ⟨⟨hb.mark g false (fun e=>by cases e),rfl,rfl⟩,htake,?_,fE _,hs⟩);show (fs.take (fs.length-1)).length≤fs.length+1;rw [dh]; omega
   ·have hat:=of_decide_eq_false hat;have hat0:=hF.at0;obtain⟨a,ha⟩:∃ a:Nat,f.At=a:=⟨f.At.toNat,by omega⟩;have hlt:a<(fH b.Records g g).length:=by omega
    have hc:=bq hlt;generalize (fH b.Records g g)[a]=c at hc;have hgood:=hb.rdGood (xn (aG hc));refine aN (by rw [ha,aM]; exact hc) (aL (EF hl hb (by omega) hgood) fun y hy=>?_);refine aC (fun h1=>?_) (fun _=>aC (fun _=>?_) (fun _=>aC (fun _=>?_) (fun _=>?_)))
    ·obtain⟨m,hm,e⟩:=hy (by simpa using h1);refine fF (dX (by simp; omega)) (ap ⟨lv0,?_,?_,fE _,hs⟩)
     ·show ∀ g∈fs++[bv.mk c.Read false 0 [] []],Cb l g;rw [e]; exact DA hf hm
     ·show (fs++[_]).length≤_;rw [bL]; exact ce _
    ·exact ap ⟨lv0,hf,xj _,fE _,hs⟩
    ·exact ap ⟨lv0,hf,xj _,fE _,hs⟩
    ·refine aN (hb.find hl _) (aL (Q:=fun z:Int×ar=>sj l V b0 z.2) (by unfold ta; exact aL (yo hR hD hb0 hs hb hgood) fun z hz=>ap hz) fun z hz=>?_);refine aC (fun _=>?_) (fun _=>?_)
     ·have hw1:IntKind.i64.wrap (f.At+1)=f.At+1:=gM (by omega) (by omega);have hf':Cb l (bv.mk f.Key f.Running (IntKind.i64.wrap (f.At+1)) f.Reads f.Answers):=⟨hF.key,by show 0≤IntKind.i64.wrap (f.At+1); rw [hw1]; omega,by show IntKind.i64.wrap (f.At+1)≤_; rw [hw1]; omega,hF.reads,hF.same,hF.good⟩;exact ap ⟨lv0,(pX _ _ hf').1,(pX _ _ hf').2,fE _,hz⟩
     ·refine aN (fL _) (aC (fun hcy=>?_) (fun _=>?_))
      ·have hd:true=true→∀ q∈g,pA q=true:=fun _ q hq=>by
        rcases hg3 with⟨_,rfl⟩|⟨_,h⟩
        ·rw [kG.1 hq]; exact hcy
        ·exact (G4 (h q hq)).1
       exact aN (yd (hb.rm hl).1 (hb.rm hl).2.1 hgm true) (ap ⟨⟨hb.mark g true hd,rfl,rfl⟩,(pX _ _ hrun1).1,(pX _ _ hrun1).2,fE _,hz⟩)
      ·exact ap ⟨lv0,(pX _ _ hrun1).1,(pX _ _ hrun1).2,fE _,hz⟩
  have hj6:∀ q:Bool,Ok (iA vv s [] b fs f (fs.take (fs.length-1)) (cq b.Records f.Key).2 (cq b.Records f.Key).1.Dirty g (fH b.Records g g) q) (Ef l V b0 b fs.length):=fun q=>by
   unfold iA;refine aC (fun _=>ap ⟨lv0,htake,?_,fE _,hs⟩) (fun _=>aC (fun _=>hj5 true (fun e=>by cases e)) (fun hh=>hj5 _ (fun _=>by simpa using hh)));show (fs.take (fs.length-1)).length≤fs.length+1;rw [dh]; omega
  exact aC (fun _=>hj6 _) (fun _=>hj6 _)
end
end
section
set_option maxRecDepth 100000
set_option maxHeartbeats 4000000
open Go.RowKit
noncomputable section
def pm (b:LR):Option LR:=some (b)
def mA (b:Int) (c:LR):Option (Fl (LR×Int) (LR)):=some (.go (c,IntKind.i64.wrap (b+1)))
def mB (f:LR) (e:ah) (d:LR) (c:Int):Option (Fl (LR×Int) (LR)):=cond (decide (c<(f.length:Int))) ((bg f c).bind fun b=>cond (!(b.Key.Kind==e.Kind&&b.Key.Text.toList==e.Text.toList)) (gd (bT (d.length+([b]).length)) <| mA c (d++([b]))) (mA c d)) (some (.out d))
def oO (c:LR) (b:ah):Option LR:=(loop (fun s:LR×Int=>mB c b s.1 s.2) (([]:List ab),0)).bind fun r=>pm r
theorem wq (T:Nat→Prop) (W0:World) (hT:TW T W0) (e:LR) (d:ah) (r:Value) (G:aD aa T W0 r e) (y:LR) (hM:oO e d=some y):bc aQ No 53 [r,.agg (aX d).toArray] W0 (fun v w'=>∃ (D:Value) (jT:bh),v=D∧ip aa T W0 w' [ae D jT] 33 D jT y):=by
 refine en Tryz.func53 Tryz.ntmps53 hT fun a hS=>?_;replace hS:=hS.fS (aD.dn G);unfold oO at hM;refine al hS fun a hS=>?_;refine kb hS fun g N a w hk hS=>?_;refine al hS fun a hS=>?_;refine aJ (J:=fun a w=>∃ (m:LR) (j:Value) (h:LV),St W0 No T 24 [(5,j)] [ae j h] [ao aa h m] a w∧pm m=some y) ?_ ?_
 ·skip;refine al hS fun a hS=>?_;replace hS:=hS.nilRow aa 33 (by decide);obtain⟨S,F,hMo1⟩:=bd hM;refine bB _ (fun s a w=>∃ (f:LR) (c:Int) (o:Value) (k:LV),(f,c)=s∧St W0 No T 24 [(3,pt g 0),(5,o),(8,r),(9,aj (e.length:Int)),(10,aj c)] [ae o k,.box g (aX d) 31] [ao aa k f,aK aa r e] a w) F ⟨_,_,_,_,rfl,hS.mt [0,1] [0,1]⟩ ?_;rintro s a w E ⟨f,c,o,k,rfl,hS⟩ hM hf1;have hM:mB e d f c=some E:=hM;unfold mB at hM;refine al hS fun a hS=>?_;refine aA ?_;rcases cd hM with⟨z,hM⟩|⟨z,hM⟩
  ·refine al hS fun a hS=>?_;refine aJ (J:=fun a w=>∃ (n:LR) (p:Value) (l:LV),St W0 No T 24 [(3,pt g 0),(5,p),(8,r),(9,aj (e.length:Int)),(10,aj c)] [ae p l,.box g (aX d) 31] [ao aa l n,aK aa r e] a w∧mA c n=some E) ?_ ?_
   ·skip;refine al hS fun a hS=>?_;obtain⟨b,t,hM⟩:=bd hM;refine wl rfl (bD (R:=aa) hS dM bZ rfl rfl 1 rfl t rfl fun H P L A a hS=>?_);obtain⟨q,rfl,u⟩:=A;replace hS:=hS.fS u;refine al hS fun a hS=>?_;refine ka hS dq fun I O a w hk hS=>?_;refine go hS fun a w hS=>?_;refine wl rfl (ky (v:=.bool (!(b.Key.Kind==d.Kind&&b.Key.Text.toList==d.Text.toList))) hS (AE hS rfl rfl) rfl rfl fun a hS=>?_);refine al hS fun a hS=>?_;rcases cd hM with⟨B,hM⟩|⟨B,hM⟩
    ·refine al hS fun a hS=>?_;refine wl rfl (bf (ps:=[(0,.tmp 19)]) hS rJ dq (zl:=[aj 0,a8 cr,a8 cr,.slice none 0 0,aj 0,aj 0,aj 0,.bool false]) (by kernel_rfl) rfl (us:=[(aE b q)]) ⟨rfl,trivial⟩ (ws:=(aE b q)) rfl rfl rfl rfl fun K a w hk hS=>?_);replace hS:=(hS.lit (R:=aa) (us:=(aE b q)) (xs:=[b]) 0 rfl (by decide) (aB.one_ (R:=aa) (x:=b) (⟨_,rfl,(hS.get 0 rfl)⟩)) rfl rfl).freeze (R:=aa) 0 rfl 0 rfl;obtain⟨C,hM⟩:=bo hM;refine wl rfl (bM (R:=aa) (xs:=f) (ys:=[b]) hS rJ (by decide) (by decide) rfl rfl 1 rfl 4 rfl 0 rfl C rfl fun Q M a w hk hS=>?_);exact fz
    exact fz
   rintro a w ⟨n,p,l,hS,hM⟩;unfold mA at hM;exact fz
  exact fz
 rintro a w ⟨m,j,h,hS,hM⟩;unfold pm at hM;refine al hS fun a hS=>?_;cases hM
 refine aH hS rfl (az hS rfl aF) ?_;exact⟨j,h,rfl,hS.retOwn ⟨.inr (aG (i:=0) rfl),trivial⟩ 0 rfl 0 rfl⟩
def p9 (b:am) (c:LR):Option am:=some ((am.mk b.Revision b.Inputs c))
def m7 (c:Int) (b:LR):Option (Fl (Int×LR) (LR)):=some (.go (IntKind.i64.wrap (c+1),b))
def m8 (e:de) (b:Int) (c:LR):Option (Fl (Int×LR) (LR)):=cond (decide (b<(e.Stack.length:Int))) ((bg e.Stack b).bind fun d=>(cB d.Key).bind fun f=>cond f ((oO c d.Key).bind fun g=>m7 b g) (m7 b c)) (some (.out c))
def og (c:de):Option am:=(eA c.Base).bind fun b=>(loop (fun s:Int×LR=>m8 c s.1 s.2) (0,b.Records)).bind fun r=>p9 b r
theorem ze (T:Nat→Prop) (W0:World) (hT:TW T W0) (b:de) (Z:Value) (v2:Value) (v3:Value) (v4:Value) (u:Value) (v6:Value) (S:aD aw T W0 Z b.Rules) (U:aD ad T W0 v2 b.Base.Inputs) (V:aD aa T W0 v3 b.Base.Records) (W:aD ac T W0 v4 b.Goals) (X:aD ax T W0 u b.Stack) (Y:aD ac T W0 v6 b.Ran) (y:am) (hM:og b=some y):bc aQ No 88 [.agg (uP b Z v2 v3 v4 u v6).toArray] W0 (fun v w'=>∃ (C:Value) (yt:bh) (D:Value) (qR:bh),v = .agg (aY y C D).toArray∧ip ad T W0 w' [aT C yt,ae D qR] 75 C yt y.Inputs∧ip aa T W0 w' [aT C yt,ae D qR] 33 D qR y.Records∧(∀ k,C.ownBlock=some k→D.ownBlock≠some k)):=by
 refine en Tryz.func88 Tryz.ntmps88 hT fun a hS=>?_;replace hS:=(((((hS.fS (aD.dn S)).fS (aD.dn U)).fS (aD.dn V)).fS (aD.dn W)).fS (aD.dn X)).fS (aD.dn Y);unfold og at hM;refine al hS fun a hS=>?_;refine kb hS fun a4 an a w hk hS=>?_;refine ka hS i8 fun f av a w hk hS=>?_;refine al hS fun a hS=>?_;obtain⟨d,F,hM⟩:=bd hM;refine kc hS yr (eB _ _ hS.dlt b.Base _ _ (hS.get 4 rfl) (hS.get 3 rfl) _ F) fun _ w hR a hk hA=>?_;obtain⟨e,c,b5,af,he,z,A,P⟩:=hR;obtain rfl:=he.symm;have hS:=Aw hA z A P;refine ka hS i8 fun g b0 a w hk hS=>?_;refine go hS fun a w hS=>?_;refine aJ (J:=fun a w=>∃ (n:LR) (m:Value) (l:LV),St W0 No T 27 [(2,pt f 0),(3,pt g 0)] [.box f [aj 0,.slice none 0 0,.slice none 0 0] 25,aT e c,ae m l,.box g (aY d e m) 25] [ao ad c d.Inputs,ao aa l n] a w∧p9 d n=some y) ?_ ?_
 ·skip;refine al hS fun a hS=>?_;obtain⟨r1,Q,hMo1⟩:=bd hM;refine bB _ (fun s a w=>∃ (h:Int) (j:LR) (r:Value) (p:LV),(h,j)=s∧St W0 No T 27 [(2,pt f 0),(3,pt g 0),(10,u),(11,aj (b.Stack.length:Int)),(12,aj h)] [.box f [aj 0,.slice none 0 0,.slice none 0 0] 25,aT e c,ae r p,.box g (aY d e r) 25] [aK ax u b.Stack,ao ad c d.Inputs,ao aa p j] a w) Q ⟨_,_,_,_,rfl,hS.mt [3,1,2,0] [3,1,0]⟩ ?_;rintro s a w O ⟨h,j,r,p,rfl,hS⟩ hM hf1;have hM:m8 b h j=some O:=hM;unfold m8 at hM;refine al hS fun a hS=>?_;refine aA ?_;rcases cd hM with⟨L,hM⟩|⟨L,hM⟩
  ·refine al hS fun a hS=>?_;refine aJ (J:=fun a w=>∃ (o:LR) (t:Value) (q:LV),St W0 No T 27 [(2,pt f 0),(3,pt g 0),(10,u),(11,aj (b.Stack.length:Int)),(12,aj h)] [.box f [aj 0,.slice none 0 0,.slice none 0 0] 25,aT e c,ae t q,.box g (aY d e t) 25] [aK ax u b.Stack,ao ad c d.Inputs,ao aa q o] a w∧m7 h o=some O) ?_ ?_
   ·skip;refine al hS fun a hS=>?_;obtain⟨x,E,hM⟩:=bd hM;refine wl rfl (bD (R:=ax) hS tY ua rfl rfl 0 rfl E rfl fun a5 b2 ag M a hS=>?_);obtain⟨b6,b8,rfl,I,K⟩:=M;replace hS:=(hS.fS I).fS K;refine al hS fun a hS=>?_;refine ka hS sM fun a9 b1 a w hk hS=>?_;refine go hS fun a w hS=>?_;obtain⟨b3,G,hM⟩:=bd hM;refine kc hS wN (cO _ _ hS.dlt x.Key _ G) fun _ w hR a hk hA=>?_;obtain rfl:=hR;have hS:=bS hA;refine al hS fun a hS=>?_;rcases cd hM with⟨N,hM⟩|⟨N,hM⟩
    ·refine al hS fun a hS=>?_;replace hS:=hS.freeze (R:=aa) 3 rfl 5 rfl;obtain⟨b4,H,hM⟩:=bd hM;refine kc hS MJ (wq _ _ hS.dlt j x.Key _ (hS.get 0 rfl) _ H) fun _ w hR a hk hA=>?_;obtain⟨b9,ak,he,B⟩:=hR;obtain rfl:=he.symm;have hS:=qe hA B;exact fz
    exact fz
   rintro a w ⟨o,t,q,hS,hM⟩;unfold m7 at hM;exact fz
  exact fz
 rintro a w ⟨n,m,l,hS,hM⟩;unfold p9 at hM;refine go hS fun a w hS=>?_;cases hM
 refine aH hS rfl (rC 0 hS) ?_;exact⟨e,c,m,l,rfl,hS.retOwn ⟨.inr (aG (i:=1) rfl),⟨.inr (aG (i:=2) rfl),trivial⟩⟩ 1 rfl 0 rfl,hS.retOwn ⟨.inr (aG (i:=1) rfl),⟨.inr (aG (i:=2) rfl),trivial⟩⟩ 2 rfl 1 rfl,(hS.apart2 1 rfl 2 rfl (by decide))⟩
def cP (b:ab):Option Int:=some (IntKind.i64.wrap ((IntKind.i64.wrap ((IntKind.i64.wrap (16+(b.Key.Text.size:Int)))+(b.Value.size:Int)))+(IntKind.i64.wrap (8*(b.Reads.length:Int)))))
theorem dL (T:Nat→Prop) (W0:World) (hT:TW T W0) (b:ab) (d:Value) (c:aD ac T W0 d b.Reads) (y:Int) (hM:cP b=some y):bc aQ No 24 [.agg (aE b d).toArray] W0 (fun v w'=>v=aj y):=by
 refine en Tryz.func24 Tryz.ntmps24 hT fun a hS=>?_;replace hS:=hS.fS (aD.dn c);unfold cP at hM;refine al hS fun a hS=>?_;refine kb hS fun e f a w hk hS=>?_;exact fz
def ki (d:ab) (e:ab):Option Bool:=(cP d).bind fun b=>(cP e).bind fun c=>cond ((IntKind.i64.wrap (d.Cost*c):Int) != (IntKind.i64.wrap (e.Cost*b))) (some (decide ((IntKind.i64.wrap (d.Cost*c):Int)<(IntKind.i64.wrap (e.Cost*b))))) (cond (b != c) (some (decide (c<b))) ((iu d.Key e.Key).bind fun f=>some (decide (f<0))))
theorem zg (T:Nat→Prop) (W0:World) (hT:TW T W0) (hLv:dx T W0) (b:ab) (c:ab) (k:Value) (l:Value) (i:aD ac T W0 k b.Reads) (j:aD ac T W0 l c.Reads) (y:Bool) (hM:ki b c=some y):bc aQ No 71 [.agg (aE b k).toArray,.agg (aE c l).toArray] W0 (fun v w'=>v = .bool y):=by
 refine en Tryz.func71 Tryz.ntmps71 hT fun a hS=>?_;replace hS:=((hS.fact bu (dx.dn hLv)).fS (aD.dn i)).fS (aD.dn j);unfold ki at hM;refine al hS fun a hS=>?_;refine kb hS fun m o a w hk hS=>?_;refine kb hS fun n p a w hk hS=>?_;refine al hS fun a hS=>?_;refine aA ?_;refine dr [] hS fun w hQ hS=>?_;refine gE [0,2] hS fun a hS=>?_;obtain⟨q,d,hM⟩:=bd hM;refine ec 1 hS xI (dL _ _ hS.dlt b _ (hS.get 1 rfl) _ d) fun _ w hR a hk hA=>?_;obtain rfl:=hR;have hS:=bS hA;obtain⟨r,e,hM⟩:=bd hM;refine ec 3 hS xI (dL _ _ hS.dlt c _ (hS.get 0 rfl) _ e) fun _ w hR a hk hA=>?_;obtain rfl:=hR;have hS:=bS hA;refine gE [4,5] hS fun a hS=>?_;refine eD ?_;refine al hS fun a hS=>?_;refine aA ?_;refine al hS fun a hS=>?_;rcases cd hM with⟨g,hM⟩|⟨g,hM⟩
 ·exact fz
 refine al hS fun a hS=>?_;rcases cd hM with⟨h,hM⟩|⟨h,hM⟩
 ·exact fz
 refine al hS fun a hS=>?_;obtain⟨s,f,hM⟩:=bd hM;refine kc hS DF (ln _ _ hS.dlt (hS.get 2 rfl) b.Key c.Key _ f) fun _ w hR a hk hA=>?_;obtain rfl:=hR;have hS:=bS hA;exact fz
def rD (b:LR):Option LR:=some (b)
def lG (b:Int) (c:LR):Option (Fl (LR×Int) (LR)):=some (.go (c,IntKind.i64.wrap (b+1)))
def jJ (d:LR) (g:Int) (c:ab) (e:Int):Option (Fl (LR×Int) (LR)):=(qw d 0 e).bind fun b=>(qw d e d.length).bind fun f=>gd (bT (([]:List ab).length+b.length)) <| gd (bT ((([]:List ab)++b).length+([c]).length)) <| gd (bT (((([]:List ab)++b)++([c])).length+f.length)) <| lG g (((([]:List ab)++b)++([c]))++f)
def fB (c:LR) (d:ab) (b:Int):Option (Fl (Int) (Int)):=cond (decide (b<(c.length:Int))) ((bg c b).bind fun e=>(ki e d).bind fun f=>cond f (some (.go (IntKind.i64.wrap (b+1)))) (some (.out b))) (some (.out b))
def lH (e:LR) (c:LR) (b:Int):Option (Fl (LR×Int) (LR)):=cond (decide (b<(e.length:Int))) ((bg e b).bind fun d=>(loop (fun s:Int=>fB c d s) 0).bind fun r=>jJ c b d r) (some (.out c))
def iL (b:LR):Option LR:=(loop (fun s:LR×Int=>lH b s.1 s.2) (([]:List ab),0)).bind fun r=>rD r
theorem u5 (T:Nat→Prop) (W0:World) (hT:TW T W0) (hLv:dx T W0) (e:LR) (o:Value) (b4:aD aa T W0 o e) (y:LR) (hM:iL e=some y):bc aQ No 46 [o] W0 (fun v w'=>∃ (v2:Value) (jT:bh),v=v2∧ip aa T W0 w' [ae v2 jT] 33 v2 jT y):=by
 refine en Tryz.func46 Tryz.ntmps46 hT fun a hS=>?_;replace hS:=(hS.fact bu (dx.dn hLv)).fS (aD.dn b4);unfold iL at hM;refine al hS fun a hS=>?_;refine aJ (J:=fun a w=>∃ (E:LR) (u:Value) (q:LV),St W0 No T 40 [(3,u)] [ae u q] [ao aa q E,bu] a w∧rD E=some y) ?_ ?_
 ·skip;refine al hS fun a hS=>?_;replace hS:=hS.nilRow aa 33 (by decide);obtain⟨r1,b2,hMo1⟩:=bd hM;refine bB _ (fun s a w=>∃ (f:LR) (d:Int) (m:Value) (g:LV),(f,d)=s∧St W0 No T 40 [(3,m),(7,o),(8,aj (e.length:Int)),(9,aj d)] [ae m g] [ao aa g f,aK aa o e,bu] a w) b2 ⟨_,_,_,_,rfl,hS.mt [0] [0,1,2]⟩ ?_;rintro s a w Z ⟨f,d,m,g,rfl,hS⟩ hM hf1;have hM:lH e f d=some Z:=hM;unfold lH at hM;refine al hS fun a hS=>?_;refine aA ?_;rcases cd hM with⟨a0,hM⟩|⟨a0,hM⟩
  ·refine al hS fun a hS=>?_;refine aJ (J:=fun a w=>∃ (F:LR) (G:Value) (z:LV),St W0 No T 40 [(3,G),(7,o),(8,aj (e.length:Int)),(9,aj d)] [ae G z] [ao aa z F,aK aa o e,bu] a w∧lG d F=some Z) ?_ ?_
   ·skip;refine al hS fun a hS=>?_;obtain⟨b,N,hM⟩:=bd hM;refine wl rfl (bD (R:=aa) hS dM bZ rfl rfl 1 rfl N rfl fun b5 bF b9 a1 a hS=>?_);obtain⟨c,rfl,U⟩:=a1;replace hS:=hS.fS U;refine al hS fun a hS=>?_;refine ka hS dq fun p bt a w hk hS=>?_;refine go hS fun a w hS=>?_;refine aJ (J:=fun a w=>∃ (D:Int),St W0 No T 40 [(3,m),(5,pt p 0),(6,aj D),(7,o),(8,aj (e.length:Int)),(9,aj d)] [ae m g,.box p (aE b c) 33] [ao aa g f,aK aa o e,aK ac c b.Reads,bu] a w∧jJ f d b D=some Z) ?_ ?_
    ·skip;refine al hS fun a hS=>?_;obtain⟨r2,b3,hMo2⟩:=bd hM;refine bB _ (fun s a w=>∃ (t:Int),t=s∧St W0 No T 40 [(3,m),(5,pt p 0),(6,aj t),(7,o),(8,aj (e.length:Int)),(9,aj d)] [ae m g,.box p (aE b c) 33] [ao aa g f,aK aa o e,aK ac c b.Reads,bu] a w) b3 ⟨_,rfl,hS.mt [1,0] [2,3,0,4]⟩ ?_;rintro s a w f2 ⟨t,rfl,hS⟩ hM hf2;have hM:fB f b t=some f2:=hM;unfold fB at hM;refine aA ?_;refine aA ?_;refine dr [] hS fun w hQ hS=>?_;refine gE [0,1,2,3,4] hS fun a hS=>?_;rcases cd hM with⟨r,hM⟩|⟨r,hM⟩
     ·refine gE [5,6] hS fun a hS=>?_;obtain⟨A,O,hM⟩:=bd hM;obtain⟨W,ag,c0,bb,a2,a3,a4,a5⟩:=bP (R:=aa) hS dM bZ 0 rfl 0 rfl O;obtain⟨M,rfl,V⟩:=a2;replace hS:=hS.fS V;refine yG 7 (v:=pt W ag) rfl (by kernel_rfl) (by kernel_rfl) (by kernel_rfl) rfl hQ hS (a5 rfl rfl) rfl rfl rfl r rfl rfl fun a hS=>?_;refine yG (l:=[]) 8 (v:=.agg (aE A M).toArray) rfl (by kernel_rfl) (by kernel_rfl) (by kernel_rfl) (by kernel_rfl) hQ hS (bp (k:=0) hS bZ 0 rfl a3 a4 rfl br (us:=(aE A M)) rfl rfl (fun h=>by cases h)) rfl rfl rfl r rfl rfl fun a hS=>?_;refine gE [9] hS fun a hS=>?_;obtain⟨c1,S,hM⟩:=bd hM;refine bV (i:=10) rfl (by kernel_rfl) hS rfl rfl rfl r (be hS N6 rfl rfl (zg _ _ hS.dlt (hS.get 4 rfl) A b _ _ (hS.get 0 rfl) (hS.get 3 rfl) _ S) fun _ w hR a hk hA=>⟨eS (hk),?_⟩);obtain rfl:=hR;have hS:=bS hA;refine gE [11] hS fun a hS=>?_;refine eD ?_;exact fz
     refine gE [5,6,7,8,9,10,11] hS fun a hS=>?_;refine eD ?_;exact fz
    rintro a w ⟨D,hS,hM⟩;unfold jJ at hM;replace hS:=hS.nilRow aa 33 (by decide);refine dr [(3,.blk (Value.ownBlock (.slice none 0 0))),(6,.any),(10,.any)] hS fun w hQ hS=>?_;refine gE [0,1] hS fun a hS=>?_;obtain⟨n,P,hM⟩:=bd hM;obtain⟨ak,H,a9⟩:=yB (R:=aa) hS dM bZ 1 rfl 1 rfl P;refine dy 2 (v:=ak) rfl (by kernel_rfl) (by kernel_rfl) (by kernel_rfl) rfl hQ hS (a9 (k1:=.i64) rfl (.inr ⟨rfl,rfl⟩) (.inl ⟨_,rfl,rfl⟩)) rfl rfl rfl fun a hS=>?_;refine dy (l:=[.blk (Value.ownBlock (.slice none 0 0))]) 4 (v:=.agg (aE b c).toArray) rfl (by kernel_rfl) (by kernel_rfl) (by kernel_rfl) (by kernel_rfl) hQ hS (dQ hS rfl bZ 2 rfl (iZ hS 2 rfl rfl 0 rfl rfl (by decide) br) (us:=(aE b c)) rfl rfl (fun h=>by cases h)) rfl rfl rfl fun a hS=>?_;refine gE [7,8] hS fun a hS=>?_;obtain⟨L,Q,hM⟩:=bd hM;obtain⟨an,I,af⟩:=yB (R:=aa) hS dM bZ 1 rfl 1 rfl Q;refine dy 9 (v:=an) rfl (by kernel_rfl) (by kernel_rfl) (by kernel_rfl) rfl hQ hS (af (k2:=.i64) rfl (.inl ⟨_,rfl,rfl⟩) (.inr ⟨rfl,rfl⟩)) rfl rfl rfl fun a hS=>?_;obtain⟨K,hM⟩:=bo hM;refine di (i:=3) (j:=5) rfl rfl (by kernel_rfl) rfl rfl ?_ ?_
    ·skip;skip;replace hS:=hS.freeze (R:=aa) 1 rfl 1 rfl;replace hS:=hS.fS (H _ _ (hS.get 0 rfl));refine id (bM (R:=aa) (xs:=([]:List ab)) (ys:=n) hS rJ (by decide) (by decide) rfl rfl 0 rfl 2 rfl 0 rfl K rfl fun c2 bi a w hk hS=>⟨jl rfl hk im,?_⟩);refine e1 5 (bf (ps:=[(0,.tmp 31)]) hS rJ dq (zl:=[aj 0,a8 cr,a8 cr,.slice none 0 0,aj 0,aj 0,aj 0,.bool false]) (by kernel_rfl) rfl (us:=[(aE b c)]) ⟨rfl,trivial⟩ (ws:=(aE b c)) rfl rfl rfl rfl fun b6 a w hk hS=>⟨eS (hk),?_⟩);replace hS:=(hS.lit (R:=aa) (us:=(aE b c)) (xs:=[b]) 0 rfl (by decide) (aB.one_ (R:=aa) (x:=b) (⟨_,rfl,(hS.get 6 rfl)⟩)) rfl rfl).freeze (R:=aa) 0 rfl 0 rfl;obtain⟨B,hM⟩:=bo hM;refine e1 6 (bM (R:=aa) (xs:=(([]:List ab)++n)) (ys:=[b]) hS rJ (by decide) (by decide) rfl rfl 0 rfl 2 rfl 0 rfl B rfl fun av X a w hk hS=>⟨jl rfl hk uR,?_⟩);replace hS:=hS.fS (I _ _ (hS.get 5 rfl));obtain⟨C,hM⟩:=bo hM;refine e1 10 (bM (R:=aa) (xs:=((([]:List ab)++n)++([b]))) (ys:=L) hS rJ (by decide) (by decide) rfl rfl 0 rfl 1 rfl 0 rfl C rfl fun b0 Y a w hk hS=>⟨jl rfl hk uR,?_⟩);refine gE [11] hS fun a hS=>?_;refine eD ?_;exact⟨_,_,_,hS.mt [0] [0,10,12],hM⟩
    skip;refine id (bf (ps:=[(0,.tmp 31)]) hS rJ dq (zl:=[aj 0,a8 cr,a8 cr,.slice none 0 0,aj 0,aj 0,aj 0,.bool false]) (by kernel_rfl) rfl (us:=[(aE b c)]) ⟨rfl,trivial⟩ (ws:=(aE b c)) rfl rfl rfl rfl fun b8 a w hk hS=>⟨eS (hk),?_⟩);replace hS:=hS.freeze (R:=aa) 2 rfl 1 rfl;replace hS:=hS.fS (H _ _ (hS.get 0 rfl));refine e1 3 (bM (R:=aa) (xs:=([]:List ab)) (ys:=n) hS rJ (by decide) (by decide) rfl rfl 1 rfl 2 rfl 0 rfl K rfl fun c3 bl a w hk hS=>⟨jl rfl hk im,?_⟩);replace hS:=(hS.lit (R:=aa) (us:=(aE b c)) (xs:=[b]) 0 rfl (by decide) (aB.one_ (R:=aa) (x:=b) (⟨_,rfl,(hS.get 6 rfl)⟩)) rfl rfl).freeze (R:=aa) 0 rfl 0 rfl;obtain⟨B,hM⟩:=bo hM;refine e1 6 (bM (R:=aa) (xs:=(([]:List ab)++n)) (ys:=[b]) hS rJ (by decide) (by decide) rfl rfl 0 rfl 2 rfl 0 rfl B rfl fun av X a w hk hS=>⟨jl rfl hk uR,?_⟩);replace hS:=hS.fS (I _ _ (hS.get 5 rfl));obtain⟨C,hM⟩:=bo hM;refine e1 10 (bM (R:=aa) (xs:=((([]:List ab)++n)++([b]))) (ys:=L) hS rJ (by decide) (by decide) rfl rfl 0 rfl 1 rfl 0 rfl C rfl fun b0 Y a w hk hS=>⟨jl rfl hk uR,?_⟩);refine gE [11] hS fun a hS=>?_;refine eD ?_;exact⟨_,_,_,hS.mt [0] [0,10,12],hM⟩
   rintro a w ⟨F,G,z,hS,hM⟩;unfold lG at hM;exact fz
  exact fz
 rintro a w ⟨E,u,q,hS,hM⟩;unfold rD at hM;refine al hS fun a hS=>?_;cases hM
 refine aH hS rfl (az hS rfl aF) ?_;exact⟨u,q,rfl,hS.retOwn ⟨.inr (aG (i:=0) rfl),trivial⟩ 0 rfl 0 rfl⟩
def rB (b:Int):Option Int:=some (b)
def hJ (d:LR) (c:Int) (b:Int):Option (Fl (Int×Int) (Int)):=cond (decide (b<(d.length:Int))) ((bg d b).bind fun e=>(cP e).bind fun f=>some (.go (IntKind.i64.wrap (c+f),IntKind.i64.wrap (b+1)))) (some (.out c))
def jQ (b:LR):Option Int:=(loop (fun s:Int×Int=>hJ b s.1 s.2) (0,0)).bind fun r=>rB r
theorem u4 (T:Nat→Prop) (W0:World) (hT:TW T W0) (d:LR) (i:Value) (n:aD aa T W0 i d) (y:Int) (hM:jQ d=some y):bc aQ No 15 [i] W0 (fun v w'=>v=aj y):=by
 refine en Tryz.func15 Tryz.ntmps15 hT fun a hS=>?_;replace hS:=hS.fS (aD.dn n);unfold jQ at hM;refine al hS fun a hS=>?_;refine aJ (J:=fun a w=>∃ (e:Int),St W0 No T 18 [(3,aj e)] [] [] a w∧rB e=some y) ?_ ?_
 ·skip;refine al hS fun a hS=>?_;obtain⟨A,m,hMo1⟩:=bd hM;refine bB _ (fun s a w=>∃ (c:Int) (b:Int),(c,b)=s∧St W0 No T 18 [(3,aj c),(6,i),(7,aj (d.length:Int)),(8,aj b)] [] [aK aa i d] a w) m ⟨_,_,rfl,hS.mt [] [0]⟩ ?_;rintro s a w r ⟨c,b,rfl,hS⟩ hM hf1;have hM:hJ d c b=some r:=hM;unfold hJ at hM;refine al hS fun a hS=>?_;refine aA ?_;rcases cd hM with⟨k,hM⟩|⟨k,hM⟩
  ·refine al hS fun a hS=>?_;refine aA ?_;refine al hS fun a hS=>?_;obtain⟨j,f,hM⟩:=bd hM;refine wl rfl (bD (R:=aa) hS dM bZ rfl rfl 0 rfl f rfl fun o u q l a hS=>?_);obtain⟨z,rfl,h⟩:=l;replace hS:=hS.fS h;refine al hS fun a hS=>?_;refine ka hS dq fun p t a w hk hS=>?_;refine go hS fun a w hS=>?_;obtain⟨x,g,hM⟩:=bd hM;refine kc hS xI (dL _ _ hS.dlt j _ (hS.get 0 rfl) _ g) fun _ w hR a hk hA=>?_;obtain rfl:=hR;have hS:=bS hA;exact fz
  exact fz
 rintro a w ⟨e,hS,hM⟩;unfold rB at hM;exact fz
def oo (b:am) (c:LK) (d:LR):Option (am×LK×Int):=some (((am.mk b.Revision b.Inputs d),c,0))
def fA (b:Int) (c:LK) (d:LR):Option (Fl (LK×Int×LR) (LK×LR)):=some (.go (c,IntKind.i64.wrap (b+1),d))
def dJ (c:LK) (d:Int) (e:LR) (b:ab) (f:Bool):Option (Fl (LK×Int×LR) (LK×LR)):=cond f ((oO e b.Key).bind fun g=>gd (bT (c.length+([b.Key]).length)) <| fA d (c++([b.Key])) g) (fA d c e)
def hH (f:Int) (h:LK) (g:LR) (e:LK) (b:Int) (c:LR):Option (Fl (LK×Int×LR) (LK×LR)):=cond (decide (b<(g.length:Int))) ((bg g b).bind fun d=>(jQ c).bind fun i=>cond (decide (f<i)) ((nx h d.Key).bind fun j=>dJ e b c d (!(j))) (dJ e b c d false)) (some (.out (e,c)))
def eR (c:am) (b:Int) (e:LK):Option (am×LK×Int):=(fw c).bind fun g=>cond (!(g)) (some (((am.mk 0 ([]:List aZ) ([]:List ab)),([]:List ah),42))) (cond (decide (b<0)) (some (((am.mk 0 ([]:List aZ) ([]:List ab)),([]:List ah),2))) (cond (decide ((1073741824:Int)<b)) (some (((am.mk 0 ([]:List aZ) ([]:List ab)),([]:List ah),2))) ((eA c).bind fun d=>(iL c.Records).bind fun f=>(loop (fun s:LK×Int×LR=>hH b e f s.1 s.2.1 s.2.2) (([]:List ah),0,d.Records)).bind fun r=>oo d r.1 r.2)))
theorem u3 (T:Nat→Prop) (W0:World) (hT:TW T W0) (t:am) (d:Int) (g:LK) (v1:Value) (v2:Value) (G:Value) (hD:vL T W0 []) (bl:aD ad (dT T []) W0 v1 t.Inputs) (bs:aD aa (dT T []) W0 v2 t.Records) (bt:aD ac (dT T []) W0 G g) (hLv:dx (dT T []) W0) (y:am×LK×Int) (hM:eR t d g=some y):bc aQ (MD []) 21 [.agg (aY t v1 v2).toArray,aj d,G] W0 (fun v w'=>∃ (v4:Value) (xJ:bh) (v6:Value) (xo:bh) (v8:Value) (Cc:bh),v = .tuple #[.agg (aY y.1 v4 v6).toArray,v8,aj y.2.2]∧aB ad (dT T [aT v4 xJ,ae v6 xo,ay v8 Cc]) w' xJ y.1.Inputs∧aB aa (dT T [aT v4 xJ,ae v6 xo,ay v8 Cc]) w' xo y.1.Records∧aB ac (dT T [aT v4 xJ,ae v6 xo,ay v8 Cc]) w' Cc y.2.1∧nO W0 w' [] [aT v4 xJ,ae v6 xo,ay v8 Cc]):=by
 refine gg (c:=_) Tryz.func21 rfl T 62 Tryz.ntmps21 hT rfl hD fun a hS=>?_;replace hS:=(((hS.fact bu hLv).fS bl).fS bs).fS bt;unfold eR at hM;refine al hS fun a hS=>?_;refine kb hS fun c1 ca a w hk hS=>?_;refine ka hS i8 fun l ch a w hk hS=>?_;refine al hS fun a hS=>?_;refine aA ?_;refine al hS fun a hS=>?_;obtain⟨d2,ak,hM⟩:=bd hM;refine kc hS Ic (pn _ _ hS.dlt (hS.get 3 rfl) t _ _ (hS.get 2 rfl) (hS.get 1 rfl) _ ak) fun _ w hR a hk hA=>?_;obtain rfl:=hR;have hS:=bS hA;refine al hS fun a hS=>?_;rcases cd hM with⟨b0,hM⟩|⟨b0,hM⟩
 ·refine al hS fun a hS=>?_;refine qy hS (bE (ps:=[]) hS CY i8 rfl (us:=[]) trivial (ws:=[aj 0,.slice none 0 0,.slice none 0 0]) rfl) fun a hS=>?_;refine go hS fun a w hS=>?_;replace hS:=((hS.nilRow ad 75 (by decide)).nilRow aa 33 (by decide)).nilRow ac 31 (by decide);cases hM
  refine aH hS Tryz.results21 (bj hS rfl 3 rfl gK rfl (fun h=>by cases h) (az hS rfl (az hS rfl aF))) ?_;have hZ:=hS.sl [2,1,0] [2,1,0];exact⟨(.slice none 0 0),[],(.slice none 0 0),[],(.slice none 0 0),[],rfl,(hZ.get 0 rfl),(hZ.get 1 rfl),(hZ.get 2 rfl),hZ.dnew⟩
 refine al hS fun a hS=>?_;refine i1 ?_;refine al hS fun a hS=>?_;rcases cd hM with⟨b1,hM⟩|⟨b1,hM⟩
 ·refine al hS fun a hS=>?_;refine qy hS (bE (ps:=[]) hS CY i8 rfl (us:=[]) trivial (ws:=[aj 0,.slice none 0 0,.slice none 0 0]) rfl) fun a hS=>?_;refine go hS fun a w hS=>?_;replace hS:=((hS.nilRow ad 75 (by decide)).nilRow aa 33 (by decide)).nilRow ac 31 (by decide);cases hM
  refine aH hS Tryz.results21 (bj hS rfl 3 rfl gK rfl (fun h=>by cases h) (az hS rfl (az hS rfl aF))) ?_;have hZ:=hS.sl [2,1,0] [2,1,0];exact⟨(.slice none 0 0),[],(.slice none 0 0),[],(.slice none 0 0),[],rfl,(hZ.get 0 rfl),(hZ.get 1 rfl),(hZ.get 2 rfl),hZ.dnew⟩
 refine al hS fun a hS=>?_;rcases cd hM with⟨b2,hM⟩|⟨b2,hM⟩
 ·refine al hS fun a hS=>?_;refine qy hS (bE (ps:=[]) hS CY i8 rfl (us:=[]) trivial (ws:=[aj 0,.slice none 0 0,.slice none 0 0]) rfl) fun a hS=>?_;refine go hS fun a w hS=>?_;replace hS:=((hS.nilRow ad 75 (by decide)).nilRow aa 33 (by decide)).nilRow ac 31 (by decide);cases hM
  refine aH hS Tryz.results21 (bj hS rfl 3 rfl gK rfl (fun h=>by cases h) (az hS rfl (az hS rfl aF))) ?_;have hZ:=hS.sl [2,1,0] [2,1,0];exact⟨(.slice none 0 0),[],(.slice none 0 0),[],(.slice none 0 0),[],rfl,(hZ.get 0 rfl),(hZ.get 1 rfl),(hZ.get 2 rfl),hZ.dnew⟩
 refine al hS fun a hS=>?_;obtain⟨e,a4,hM⟩:=bd hM;refine kc hS yr (eB _ _ hS.dlt t _ _ (hS.get 2 rfl) (hS.get 1 rfl) _ a4) fun _ w hR a hk hA=>?_;obtain⟨j,f,d3,c4,he,W,X,bb⟩:=hR;obtain rfl:=he.symm;have hS:=Aw hA W X bb;refine ka hS i8 fun m ck a w hk hS=>?_;refine go hS fun a w hS=>?_;refine aJ (J:=fun a w=>∃ (K:LK) (N:LR) (E:Value) (C:LV) (F:Value) (D:LV),St W0 (MD []) T 62 [(6,pt l 0),(9,pt m 0),(10,E)] [ay E C,.box l [aj 0,.slice none 0 0,.slice none 0 0] 25,aT j f,ae F D,.box m (aY e j F) 25] [ao ac C K,ao ad f e.Inputs,ao aa D N,bu] a w∧oo e K N=some y) ?_ ?_
 ·skip;refine al hS fun a hS=>?_;obtain⟨p,a9,hM⟩:=bd hM;refine kc hS MI (u5 _ _ hS.dlt (hS.get 5 rfl) t.Records _ (hS.get 3 rfl) _ a9) fun _ w hR a hk hA=>?_;obtain⟨r,q,he,Y⟩:=hR;obtain rfl:=he.symm;have hS:=qe hA Y;refine al hS fun a hS=>?_;replace hS:=hS.nilRow ac 31 (by decide);obtain⟨r1,bi,hMo1⟩:=bd hM;refine bB _ (fun s a w=>∃ (o:LK) (n:Int) (i:LR) (A:Value) (u:LV) (B:Value) (z:LV),(o,n,i)=s∧St W0 (MD []) T 62 [(1,aj d),(2,G),(6,pt l 0),(9,pt m 0),(10,A),(30,r),(31,aj (p.length:Int)),(32,aj n)] [ay A u,ae r q,.box l [aj 0,.slice none 0 0,.slice none 0 0] 25,aT j f,ae B z,.box m (aY e j B) 25] [aK ac G g,ao ac u o,ao aa q p,ao ad f e.Inputs,ao aa z i,bu] a w) bi ⟨_,_,_,_,_,_,_,rfl,hS.mt [0,1,5,3,4,2] [4,0,1,3,2,7]⟩ ?_;rintro s a w f1 ⟨o,n,i,A,u,B,z,rfl,hS⟩ hM hf1;have hM:hH d g p o n i=some f1:=hM;unfold hH at hM;refine al hS fun a hS=>?_;refine aA ?_;rcases cd hM with⟨b3,hM⟩|⟨b3,hM⟩
  ·refine al hS fun a hS=>?_;refine aJ (J:=fun a w=>∃ (L:LK) (O:LR) (P:Value) (H:LV) (Q:Value) (I:LV),St W0 (MD []) T 62 [(1,aj d),(2,G),(6,pt l 0),(9,pt m 0),(10,P),(30,r),(31,aj (p.length:Int)),(32,aj n)] [ay P H,ae r q,.box l [aj 0,.slice none 0 0,.slice none 0 0] 25,aT j f,ae Q I,.box m (aY e j Q) 25] [aK ac G g,ao ac H L,ao aa q p,ao ad f e.Inputs,ao aa I O,bu] a w∧fA n L O=some f1) ?_ ?_
   ·skip;refine al hS fun a hS=>?_;obtain⟨b,a3,hM⟩:=bd hM;refine wl rfl (cU (R:=aa) hS dM bZ rfl rfl 1 rfl 2 rfl a3 rfl fun c2 co cs c5 b4 b5 b6 a hS=>?_);obtain⟨S,rfl,an⟩:=b4;replace hS:=hS.fS an;refine qy hS (bp (k:=0) hS bZ 1 rfl b5 b6 rfl id (us:=(aE b S)) rfl rfl (fun h=>by cases h)) fun a hS=>?_;refine ka hS dq fun U cl a w hk hS=>?_;refine go hS fun a w hS=>?_;refine aJ (J:=fun a w=>∃ (M:Bool),St W0 (MD []) T 62 [(1,aj d),(2,G),(6,pt l 0),(9,pt m 0),(10,A),(12,pt U 0),(30,r),(31,aj (p.length:Int)),(32,aj n),(47,.bool M)] [ay A u,ae r q,.box l [aj 0,.slice none 0 0,.slice none 0 0] 25,aT j f,ae B z,.box m (aY e j B) 25,.box U (aE b S) 33] [aK ac G g,ao ac u o,ao aa q p,ao ad f e.Inputs,ao aa z i,aK ac S b.Reads,bu] a w∧dJ o n i b M=some f1) ?_ ?_
    ·skip;refine al hS fun a hS=>?_;have hL:=hS;replace hL:=hL.freeze (R:=aa) 5 rfl 5 rfl;obtain⟨d0,af,hM⟩:=bd hM;refine kc hS My (u4 _ _ hL.dlt i _ (hL.get 0 rfl) _ af) fun _ w hR a hk hA=>?_;obtain rfl:=hR;have hS:=bS hA;refine al hS fun a hS=>?_;rcases cd hM with⟨V,hM⟩|⟨V,hM⟩
     ·refine al hS fun a hS=>?_;obtain⟨d1,ag,hM⟩:=bd hM;refine wg hS rfl rfl rfl V (be hS Id rfl rfl (rQ _ _ hS.dlt g b.Key _ (hS.get 1 rfl) _ ag) fun _ w hR a hk hA=>?_);obtain rfl:=hR;have hS:=bS hA;exact fz
     exact fz
    rintro a w ⟨M,hS,hM⟩;unfold dJ at hM;rcases cd hM with⟨b8,hM⟩|⟨b8,hM⟩
    ·refine al hS fun a hS=>?_;replace hS:=hS.freeze (R:=aa) 4 rfl 4 rfl;obtain⟨cv,a5,hM⟩:=bd hM;refine kc hS MJ (wq _ _ hS.dlt i b.Key _ (hS.get 0 rfl) _ a5) fun _ w hR a hk hA=>?_;obtain⟨d4,c6,he,Z⟩:=hR;obtain rfl:=he.symm;have hS:=qe hA Z;refine go hS fun a w hS=>?_;refine wl rfl (bf (ps:=[(0,.tmp 56)]) hS gf gl (zl:=[aj 0,a8 cr]) (by kernel_rfl) rfl (us:=[(aX b.Key)]) ⟨rfl,trivial⟩ (ws:=(aX b.Key)) rfl rfl rfl rfl fun c3 a w hk hS=>?_);replace hS:=(hS.lit (R:=ac) (us:=(aX b.Key)) (xs:=[b.Key]) 0 rfl (by decide) (aB.one_ (R:=ac) (x:=b.Key) rfl) rfl rfl).freeze (R:=ac) 0 rfl 0 rfl;obtain⟨b9,hM⟩:=bo hM;refine wl rfl (bM (R:=ac) (xs:=o) (ys:=[b.Key]) hS gf (by decide) (by decide) rfl rfl 1 rfl 5 rfl 0 rfl b9 rfl fun d5 c9 a w hk hS=>?_);exact fz
    refine al hS fun a hS=>?_;exact⟨_,_,_,_,_,_,hS.mt [0,1,2,3,4,5] [0,1,2,3,4,6],hM⟩
   rintro a w ⟨L,O,P,H,Q,I,hS,hM⟩;unfold fA at hM;refine al hS fun a hS=>?_;exact⟨_,(cR hM).symm,_,_,_,_,_,_,_,rfl,hS.mt [0,1,2,3,4,5] [0,1,2,3,4,5]⟩
  refine al hS fun a hS=>?_;cases hM
  have hr:=hf1 _ rfl;subst hr;have hM:oo e o i=some y:=hMo1;exact⟨_,_,_,_,_,_,hS.mt [0,2,3,4,5] [1,3,4,5],hM⟩
 rintro a w ⟨K,N,E,C,F,D,hS,hM⟩;unfold oo at hM;refine go hS fun a w hS=>?_;cases hM
 refine aH hS Tryz.results21 (bj hS rfl 1 rfl gK rfl (fun h=>by cases h) (az hS rfl (az hS rfl aF))) ?_;have hZ:=hS.sl [2,3,0] [1,2,0];exact⟨j,f,F,D,E,C,rfl,(hZ.get 0 rfl),(hZ.get 1 rfl),(hZ.get 2 rfl),hZ.dnew⟩
end
end
section
open Go.RowKit
open Go.Lib hiding intOf
section
variable {l:List aR} {b:am} {V:Nat→ByteArray}
structure Dz (l:List aR) (b:am) (N:Nat) (t:de):Prop where
 rules:t.Rules=l
 lv:vc l b t.Base
 goals:∀ k∈t.Goals,oA l k
 ng:t.Goals.length≤32
 fr:∀ f∈t.Stack,Cb l f
 len:t.Stack.length≤N
 ran:t.Ran.length≤N
theorem yz (hR:bI l) {N:Nat} (hN:N≤100) {t:de} (h:Dz l b N t):nn t=some t:=by
 have hl:=hR.high;have h1:=h.ng;have h2:=h.len;have h3:=h.ran;unfold nn;rw [h.rules,Bi hR,aq,tF (h.lv.ok.rm hl).1 (h.lv.ok.rm hl).2.1,aq,dX (by simp; omega),uQ h.fr (by omega),dX (by simp; omega)];rw [← h.rules]; rfl
theorem I9 (hR:bI l) (hD:Ee l (tC b) V) (hb:jm l b) {s:ar} (hs:sj l V b s) {N:Nat} (hN:N≤90) {t:de} (h:Dz l b N t):Ok (ry vv s t) fun y=>Dz l b (N+1) y.1∧sj l V b y.2.2.2:=by
 have hl:=hR.high;have hb0:=(hb.rm hl).2.1;have h1:=h.ng;have h2:=h.len;have h3:=h.ran;have up:Dz l b (N+1) t:=⟨h.rules,h.lv,h.goals,h.ng,h.fr,by omega,by omega⟩;unfold ry;refine aN (yz hR (by omega) h) (aC (fun h0=>aC (fun _=>ap ⟨up,hs⟩) (fun hg=>?_)) (fun h0=>?_))
 ·have hg0:0<t.Goals.length:=by
   rcases wK t.Goals.length with e | e
   ·rw [e] at hg; cases hg
   ·exact e
  have hk:=h.goals _ (ge hg0);refine aN (by have:=bN hg0; exact this) (aN (by have:=uD (xs:=t.Goals) (a:=1) (by omega); exact this) (aL (AU hl h.lv.ok (by simp) hk) fun y hy=>?_));have hg1:∀ k∈t.Goals.drop 1,oA l k:=fun k hk=>h.goals k (B0 hk);have hg2:(t.Goals.drop 1).length≤32:=by rw [pS]; omega
  refine aC (fun hy1=>?_) (fun _=>ap ⟨⟨h.rules,h.lv,hg1,hg2,h.fr,up.len,up.ran⟩,hs⟩);obtain⟨n,hn,e⟩:=hy hy1;refine ap ⟨⟨h.rules,h.lv,hg1,hg2,?_,by show 1≤N+1; omega,up.ran⟩,hs⟩;show ∀ f∈[bv.mk t.Goals[0] false 0 [] []],Cb l f;rw [e];exact DA (fs:=[]) (fun f hf=>absurd hf ou) hn
 ·have hs0:0<t.Stack.length:=by
   rcases wK t.Stack.length with e | e
   ·rw [e] at h0; cases h0
   ·exact e
  refine aL (Fu hR hD hb0 hs h.lv.ok h.fr hs0 (by omega)) fun y hy=>aC (fun _=>ap ⟨up,hy.sol⟩) (fun _=>?_);have hw:=hy.wk;have hln:=hy.len;refine fF (dX (by omega)) (ap ⟨⟨h.rules,⟨hy.lv.ok,hy.lv.rev.trans h.lv.rev,hy.lv.ins.trans h.lv.ins⟩,h.goals,h.ng,hy.fr,by show y.2.1.length≤_; omega,?_⟩,hy.sol⟩);show (t.Ran++y.2.2.1).length≤_;rw [bL]; omega
def NH (l:List aR) (V:Nat→ByteArray) (b:am) (k:Nat):Int×(List aR)×Int×(List aZ)×(List ab)×(List ah)×(List bv)×(List ah)×(List aR)×Int×(List aZ)×(List ab)×(List (ah×ByteArray))×(List (ah×(List ah)))→Prop
 | (n,t1,t2,t3,t4,t5,t6,t7,g1,g2,g3,g4,g5,g6)=>n=(k:Int)∧Dz l b k (de.mk t1 (am.mk t2 t3 t4) t5 t6 t7)∧sj l V b (ar.mk g1 (am.mk g2 g3 g4) g5 g6)
def NJ (l:List aR) (b:am):Fl (Int×(List aR)×Int×(List aZ)×(List ab)×(List ah)×(List bv)×(List ah)) (de×Int×Int)→Prop
 | .go (n,t1,t2,t3,t4,t5,t6,t7)=>Dz l b 90 (de.mk t1 (am.mk t2 t3 t4) t5 t6 t7)
 | .out y=>Dz l b 90 y.1
theorem Dz.le {N M:Nat} {t:de} (h:Dz l b N t) (hm:N≤M):Dz l b M t:=⟨h.rules,h.lv,h.goals,h.ng,h.fr,cx h.len hm,cx h.ran hm⟩
theorem Ht (hR:bI l) (hb:jm l b) {t:de} (h:Dz l b 0 t) (hbase:t.Base=b) {most:Int} (hm:most≤30):Ok (sH vv t most) fun y=>Dz l b 90 y.1:=by
 have hl:=hR.high;have hD:=Gq (tC b) hR;have hst:t.Stack=[]:=xd (Nat.le_zero.1 h.len);have hru:=h.rules;unfold sH;refine aN (yz hR (by omega) h) (aC (fun _=>ap (h.le (by omega))) (fun _=>?_));have hvalid:pM t=some true:=by
  unfold pM;rw [hru,Bd hR h.lv.ok h.goals h.ng,aq,hst];rw [show ((0:Int)==0)=true from rfl,cond_true];have:jH l t.Base []=some true:=by
   unfold jH;rw [cN (r:=Fl.go ()) rfl]; rfl
  rw [this]; rfl
 refine aN hvalid ?_;simp only [eI,cond_false];refine aN (v:=ar.mk t.Rules t.Base [] []) rfl ?_;have hs:sj l (Vd l (tC b)) b (ar.mk t.Rules t.Base [] []):=⟨hru,hbase,fun n _ v e=>(by cases e),fun c=>rfl⟩;refine bG (NH l (Vd l (tC b)) b) (NJ l b) 30 ⟨rfl,h,hs⟩ ?_ ?_
 ·rintro k ⟨n,t1,t2,t3,t4,t5,t6,t7,g1,g2,g3,g4,g5,g6⟩ hk ⟨rfl,q1,q2⟩;dsimp only;unfold qu;refine aC (fun hlt=>?_) (fun _=>ap (q1.le (by omega)));have hlt:=of_decide_eq_true hlt;refine aL (I9 hR hD hb q2 (by omega) q1) fun y ⟨y1,y2⟩=>aC (fun _=>ap (q1.le (by omega))) (fun _=>aC (fun _=>ap (y1.le (by omega))) (fun _=>?_));exact ap ⟨by omega,cc (by omega),y1,y2⟩
 ·rintro (⟨n,t1,t2,t3,t4,t5,t6,t7⟩ | y) hr
  ·exact ap hr
  ·exact ap hr
theorem HE (hR:bI l) (hb:jm l b) {goals:List ah} (hg:∀ k∈goals,oA l k) (hn:goals.length≤32):∃ t,pL l b goals=some (t,0)∧Dz l b 0 t∧t.Base=b:=by
 have ht:Dz l b 0 (de.mk l b goals [] []):=⟨rfl,⟨hb,rfl,rfl⟩,hg,hn,fun f hf=>absurd hf ou,ce _,ce _⟩;refine⟨_,?_,ht,rfl⟩;unfold pL;rw [Bd hR hb hg hn,aq];simp only [show ((0:Int) != 0)=false from rfl,cond_false];rw [yz hR (by omega) ht]; rfl
theorem vA {recs:List ab} (h:Rm recs.length) (k:ah):oO recs k=some (recs.filter fun x=>!dU x.Key k):=by
 unfold Rm at h;unfold oO pm;refine d7 (cG (xs:=recs) (fun i=>((recs.take i).filter fun x=>!dU x.Key k,(i:Int))) rfl (r:=recs.filter fun x=>!dU x.Key k) (fun i x hx=>?_) ?_) rfl
 ·have hlt:=aV hx;have hlen:=tp (fun x:ab=>!dU x.Key k) recs i;unfold mB mA;dsimp only;rw [dlt hlt,cond_true,aM,hx,aq,cc (by omega),bw hx,kH];show cond (!dU x.Key k) _ _=_;cases e:dU x.Key k with
  | true=>simp [e]
  | false =>
   rw [nM,cond_true,dX (by simp only [d8,jR]; omega)];simp [e,gd]
 ·unfold mB;dsimp only;rw [bA,i7]; rfl
theorem jm.filter (h:jm l b) (p:ab→Bool):jm l (am.mk b.Revision b.Inputs (b.Records.filter p)) :=
 ⟨h.rev,h.ins,h.insA,fun r hr=>h.recs r (iN.1 hr).1,List.Pairwise.sublist E7 h.recsA⟩
theorem Fi (hR:bI l) {N:Nat} {t:de} (h:Dz l b N t) (hN:N≤1000):Ok (og t) fun b'=>vc l b b':=by
 have hl:=hR.high;have hb:=h.lv.ok;have hlen:=h.len;unfold og;refine aN (tF (hb.rm hl).1 (hb.rm hl).2.1) ?_;refine bG (fun (k:Nat) (s:Int×List ab)=>s.1=k∧jm l (am.mk t.Base.Revision t.Base.Inputs s.2)) (fun r=>jm l (am.mk t.Base.Revision t.Base.Inputs r)) t.Stack.length ⟨rfl,hb⟩ ?_ (fun r hr=>ap ⟨hr,h.lv.rev,h.lv.ins⟩);rintro k ⟨i,recs⟩ hk ⟨rfl,g⟩;dsimp only at g ⊢;unfold m8;refine aC (fun hlt=>?_) (fun _=>ap g);have hlt:k<t.Stack.length:=by have:=of_decide_eq_true hlt; omega
 refine aN (bN hlt) (aN (fL _) (aC (fun _=>?_) (fun _=>ap ⟨hlt,cc (by omega),g⟩)));have hrl:recs.length≤l.length:=g.nrec;exact aN (vA (by unfold Rm; omega) _) (ap ⟨hlt,cc (by omega),g.filter _⟩)
end
end
section
open Go.RowKit
open Go.Lib hiding intOf
def yg (l:List aZ):Prop:=l.Pairwise fun a b=>cu a.Key b.Key<0
def uI (l:List aZ) (r:aZ):List aZ:=(l.filter fun x=>decide (cu x.Key r.Key<0))++r::(l.filter fun x=>decide (0<cu x.Key r.Key))
theorem GW {l:List aZ} {r x:aZ}:x∈uI l r↔x=r∨(x∈l∧x.Key≠r.Key):=by
 unfold uI;rw [dc,ee,iN,iN];simp only [decide_eq_true_eq];constructor
 ·rintro (⟨h,h1⟩ | h | ⟨h,h1⟩)
  ·exact .inr ⟨h,sW h1⟩
  ·exact .inl h
  ·exact .inr ⟨h,fun e=>by rw [e,sB] at h1; omega⟩
 ·rintro (h | ⟨h,h1⟩)
  ·exact .inr (.inl h)
  ·rcases sC x.Key r.Key with h2 | h2 | h2
   ·exact .inl ⟨h,h2⟩
   ·exact absurd h2 h1
   ·exact .inr (.inr ⟨h,pB.2 h2⟩)
theorem He {l:List aZ} (h:yg l) (r:aZ):yg (uI l r):=by
 unfold yg uI;rw [oF];refine⟨E4 _ h,si.2 ⟨fun x hx=>?_,E4 _ h⟩,fun x hx y hy=>?_⟩
 ·have:=(iN.1 hx).2;simp only [decide_eq_true_eq] at this;exact pB.1 this
 ·have h1:=(iN.1 hx).2;simp only [decide_eq_true_eq] at h1;rcases ee.1 hy with rfl | hy
  ·exact h1
  ·have h2:=(iN.1 hy).2;simp only [decide_eq_true_eq] at h2;exact ni h1 (pB.1 h2)
theorem yY {i j:Nat} (h:i≤j) (hj:j≤1000000000):IntKind.i64.wrap (fC .u64 (IntKind.u64.wrap (IntKind.i64.wrap ((i:Int)+j))) 1)=(((i+j) / 2:Nat):Int):=by
 have e:IntKind.i64.wrap ((i:Int)+j)=((i+j:Nat):Int):=by rw [gM (by omega) (by omega)]; omega
 have e2:IntKind.u64.wrap ((i+j:Nat):Int)=((i+j:Nat):Int):=by simp [IntKind.wrap,IntKind.bits,IntKind.signed]; omega
 have e3:fC .u64 ((i+j:Nat):Int) 1=(((i+j) / 2:Nat):Int):=by
  have:fC .u64 ((i+j:Nat):Int) 1=Int.fdiv ((i+j:Nat):Int) 2:=rfl;rw [this,Int.fdiv_eq_ediv_of_nonneg _ (by omega)];omega
 rw [e,e2,e3,gM (by omega) (by omega)]
theorem FG {l:List aZ} {r:aZ} (h:yg l) (hl:Rm l.length) {u:am} (hrev:IntKind.i64.wrap (u.Revision+1)=r.Changed) (g:Int) :
  ((loop (fun s:(List aZ)×Bool×Int=>gV u l (dZ.mk r.Key r.Value) s.1 s.2.1 s.2.2) (([]:List aZ),false,0)).bind fun q=>fq u g (dZ.mk r.Key r.Value) q.1 q.2)=fp g (uI l r):=by
 unfold Rm at hl;have hpl:∀ i,((l.take i).filter fun x=>decide (cu x.Key r.Key<0)).length+((l.take i).filter fun x=>decide (0<cu x.Key r.Key)).length≤l.length:=fun i=>by
  have h1:∀ m:List aZ,(m.filter fun x=>decide (cu x.Key r.Key<0)).length+(m.filter fun x=>decide (0<cu x.Key r.Key)).length≤m.length:=by
   intro m
   induction m with
   | nil=>simp
   | cons y m ih =>
    by_cases a:cu y.Key r.Key<0
    ·rw [zN (by simpa using a),u7 (by simp; omega)]; simp only [d8]; omega
    ·by_cases b:0<cu y.Key r.Key
     ·rw [u7 (by simpa using a),zN (by simpa using b)]; simp only [d8]; omega
     ·rw [u7 (by simpa using a),u7 (by simpa using b)]; simp only [d8]; omega
  have:=h1 (l.take i);rw [dh] at this; omega
 have key:Ok ((loop (fun s:(List aZ)×Bool×Int=>gV u l (dZ.mk r.Key r.Value) s.1 s.2.1 s.2.2) (([]:List aZ),false,0)).bind fun q=>fq u g (dZ.mk r.Key r.Value) q.1 q.2) fun y=>fp g (uI l r)=some y:=by
  refine bG (fun n t=>n≤l.length∧t.2.2=(n:Int)∧((t.1=l.take n∧t.2.1=false∧∀ x∈l.take n,cu x.Key r.Key<0)∨(t.1=uI (l.take n) r∧t.2.1=true∧∃ x∈l.take n,¬ cu x.Key r.Key<0)))
   (fun t=>(t.1=l∧t.2=false∧∀ x∈l,cu x.Key r.Key<0)∨(t.1=uI l r∧t.2=true)) l.length ⟨fE _,rfl,.inl ⟨rfl,rfl,by simp⟩⟩ (fun n t hn hI=>?_) (fun t ht=>?_)
  ·obtain⟨out,put,i⟩:=t;obtain⟨_,h1,h2⟩:=hI;dsimp only at h1 h2;subst h1;unfold gV;dsimp only;by_cases hi:n<l.length
   ·have hx:l[n]? = some l[n]:=bq hi;obtain⟨x,hxe⟩:∃ x,x=l[n]:=⟨_,rfl⟩;rw [← hxe] at hx;rw [dlt hi,cond_true,aM,hx,aq,jK,aq];have tk:=bw hx;have hle:=hpl n;rcases h2 with⟨rfl,rfl,h3⟩|⟨rfl,rfl,y,hy,h3⟩
    ·have e0:((l.take n).filter fun x=>decide (cu x.Key r.Key<0))=l.take n:=u9.2 fun x hx=>by simpa using h3 x hx
     have e1:((l.take n).filter fun x=>decide (0<cu x.Key r.Key))=[]:=E5.2 fun x hx=>by have:=h3 x hx; simp; omega
     rcases rb x.Key r.Key with hc | hc | hc
     ·rw [hc];unfold fv fu ft;dsimp only;simp only [hrev];rw [show bT ((l.take n).length+[x].length)=true from dX (by simp; omega),cc (by omega)];refine ap ⟨hi,hi,rfl,.inl ⟨tk.symm,rfl,fun z hz=>?_⟩⟩;rw [tk] at hz;rcases dc.1 hz with hz | hz
      ·exact h3 z hz
      ·simp only [ee,ou,or_false] at hz; subst hz; omega
     ·rw [hc];unfold fv fu ft;dsimp only;simp only [hrev];rw [cc (by omega)];rw [show bT ((l.take n).length+[r].length)=true from dX (by simp; omega)];refine ap ⟨hi,hi,rfl,.inr ⟨?_,rfl,x,by rw [tk]; simp,by omega⟩⟩;unfold uI;rw [tk,kH,kH,e0,e1];simp [hc]
     ·rw [hc];unfold fv fu ft;dsimp only;simp only [hrev];rw [cc (by omega)];rw [show bT ((l.take n).length+[r].length)=true from dX (by simp; omega),show bT ((l.take n++[r]).length+[x].length)=true from dX (by simp; omega)];refine ap ⟨hi,hi,rfl,.inr ⟨?_,rfl,x,by rw [tk]; simp,by omega⟩⟩;unfold uI;rw [tk,kH,kH,e0,e1];simp [hc]
    ·have hyx:cu y.Key x.Key<0:=by
      obtain⟨j,hj⟩:=gt.1 hy;rw [mO] at hj;split at hj
      ·rename_i hjn;obtain⟨q1,q2⟩:=bH.1 hj;have:=gv.1 h j n q1 hi hjn;rw [q2,← hxe] at this; exact this
      ·cases hj
     have hc:0<cu x.Key r.Key:=by
      rw [pB];exact uT (b:=y.Key) h3 hyx
     have hc1:cu x.Key r.Key=1:=by rcases rb x.Key r.Key with h | h | h <;> omega
     rw [hc1];unfold fv fu ft;dsimp only;simp only [hrev];rw [cc (by omega),show bT ((uI (l.take n) r).length+[x].length)=true from dX (by unfold uI; simp only [bL,d8,jR]; omega)];refine ap ⟨hi,hi,rfl,.inr ⟨?_,rfl,y,by rw [tk]; exact me _ hy,h3⟩⟩;unfold uI;rw [tk,kH,kH];simp [hc1]
   ·have hn2:n=l.length:=by omega
    rw [hn2,bA,cond_false];rw [hn2,i7] at h2;refine ap ?_;rcases h2 with⟨a,b,c⟩|⟨a,b,c⟩
    ·exact .inl ⟨a,b,c⟩
    ·exact .inr ⟨a,b⟩
  ·obtain⟨out,put⟩:=t;dsimp only at ht ⊢;unfold fq;dsimp only;simp only [hrev];rcases ht with⟨rfl,rfl,h3⟩|⟨rfl,rfl⟩
   ·simp only [nM,cond_true];rw [show bT (out.length+[r].length)=true from dX (by simp; omega)];refine⟨_,rfl,?_⟩;unfold uI;rw [u9.2 fun x hx=>by simpa using h3 x hx,E5.2 fun x hx=>by have:=h3 x hx; simp; omega];rfl
   ·exact⟨_,rfl,rfl⟩
 obtain⟨y,e,e2⟩:=key;exact e.trans e2.symm
end
section
set_option maxRecDepth 100000
set_option maxHeartbeats 4000000
open Go.RowKit
noncomputable section
def o8 (b:Int) (c:LI) (d:LR) (e:LN) (f:Int):Option (am×aW):=some (((am.mk b c d),(aW.mk e f)))
def dG (g:Int) (e:LN) (f:Int) (b:Int) (c:LI) (d:LR):Option (Fl (Int×LN×Int×Int×LI×LR) (Int×LI×LR×LN×Int)):=some (.go (IntKind.i64.wrap (g-1),e,f,b,c,d))
def o9 (g:Int) (h:Int) (i:LI) (j:LR) (k:Int) (e:LN) (f:Int) (l:LU) (m:Int) (n:LI) (o:LR) (p:LK) (q:LF) (r:LK):Option (Fl (Int×LN×Int×Int×LI×LR) (Int×LI×LR×LN×Int)):=cond (k==0) ((bJ (aW.mk e f) 30).bind fun c=>(sH vv (de.mk l (am.mk m n o) p q r) c.1).bind fun b=>(og (de.mk b.1.Rules (am.mk b.1.Base.Revision b.1.Base.Inputs b.1.Base.Records) b.1.Goals b.1.Stack b.1.Ran)).bind fun d=>dG g c.2.L c.2.At d.Revision d.Inputs d.Records) (dG g e f h i j)
def iP (d:LU) (h:Int) (e:Int) (f:LI) (g:LR) (b:(Int×aW)) (q:Bool):Option (Fl (Int×LN×Int×Int×LI×LR) (Int×LI×LR×LN×Int)):=cond q ((lW (aW.mk b.2.L b.2.At) 2).bind fun j=>(nA (am.mk e f g) j.1).bind fun k=>dG h j.2.L j.2.At k.1.Revision k.1.Inputs k.1.Records) (cond (b.1==3) ((oL (aW.mk b.2.L b.2.At) d 2).bind fun l=>(pL d (am.mk e f g) l.1).bind fun c=>o9 h e f g c.2 l.2.L l.2.At c.1.Rules c.1.Base.Revision c.1.Base.Inputs c.1.Base.Records c.1.Goals c.1.Stack c.1.Ran) (cond (b.1==4) ((bJ (aW.mk b.2.L b.2.At) 3).bind fun i=>cond (i.1==0) ((bJ (aW.mk i.2.L i.2.At) 200).bind fun m=>(eR (am.mk e f g) m.1 ([])).bind fun n=>dG h m.2.L m.2.At n.1.Revision n.1.Inputs n.1.Records) (dG h i.2.L i.2.At e f g)) ((oL (aW.mk b.2.L b.2.At) d 2).bind fun o=>(mJ uu d (am.mk e f g) o.1).bind fun p=>dG h o.2.L o.2.At p.1.Revision p.1.Inputs p.1.Records)))
def pd (c:LU) (g:Int) (h:LN) (i:Int) (d:Int) (e:LI) (f:LR):Option (Fl (Int×LN×Int×Int×LI×LR) (Int×LI×LR×LN×Int)):=cond (decide ((0:Int)<g)) ((bJ (aW.mk h i) 8).bind fun b=>cond (b.1==0) (iP c g d e f b (b.1==0)) (cond (b.1==1) (iP c g d e f b (b.1==1)) (iP c g d e f b (b.1==2)))) (some (.out (d,e,f,h,i)))
def rh (f:aW) (d:LU) (c:am) (e:Int):Option (am×aW):=(bJ f (IntKind.i64.wrap (e+1))).bind fun b=>(loop (fun s:Int×LN×Int×Int×LI×LR=>pd d s.1 s.2.1 s.2.2.1 s.2.2.2.1 s.2.2.2.2.1 s.2.2.2.2.2) (b.1,b.2.L,b.2.At,c.Revision,c.Inputs,c.Records)).bind fun r=>o8 r.1 r.2.1 r.2.2.1 r.2.2.2.1 r.2.2.2.2
theorem BD (T:Nat→Prop) (W0:World) (hT:TW T W0) (f:aW) (b:LU) (F:am) (b6:Int) (e:Value) (x:Value) (v4:Value) (v5:Value) (g:Nat) (k4:W0.heap[g]? = some (.cells (a6 f e).toArray 73 (0,0))) (hX:¬ T g) (k6:aD (aS.int .i64) (dT T [.box g (a6 f e) 73]) W0 e f.L) (kl:aD aw (dT T [.box g (a6 f e) 73]) W0 x b) (ks:aD ad (dT T [.box g (a6 f e) 73]) W0 v4 F.Inputs) (kt:aD aa (dT T [.box g (a6 f e) 73]) W0 v5 F.Records) (hLv:dx (dT T [.box g (a6 f e) 73]) W0) (P0:Nat→Prop) (e2:∀ k,(fun k=>k=g) k∨W0.heap.size≤k→P0 k) (hY:(oy P0 [aK ad v4 F.Inputs,aK (aS.int .i64) e f.L,aK aw x b] aa 33 v5 F.Records).p (dT T [.box g (a6 f e) 73]) W0) (y:am×aW) (hM:rh f b F b6=some y):bc aQ (fun k=>k=g) 57 [pt g 0,x,.agg (aY F v4 v5).toArray,aj b6] W0 (fun v w'=>∃ (v6:Value) (v7:Value) (v8:Value),v = .agg (aY y.1 v6 v7).toArray∧aD ad (dT T [.box g (a6 y.2 v8) 73]) w' v6 y.1.Inputs∧aD aa (dT T [.box g (a6 y.2 v8) 73]) w' v7 y.1.Records∧w'.heap[g]? = some (.cells (a6 y.2 v8).toArray 73 (0,0))∧aD (aS.int .i64) (dT T [.box g (a6 y.2 v8) 73]) w' v8 y.2.L∧e=v8∧(oy P0 [aK ad v6 y.1.Inputs,aK (aS.int .i64) e f.L,aK aw x b] aa 33 v7 y.1.Records).p (dT T [.box g (a6 y.2 v8) 73]) w'):=by
 refine rY (c:=_) Tryz.func57 rfl T 80 Tryz.ntmps57 hT rfl k4 hX fun a hS=>?_;replace hS:=(((((hS.fact (oy P0 [aK ad v4 F.Inputs,aK (aS.int .i64) e f.L,aK aw x b] aa 33 v5 F.Records) hY).fact bu hLv).fS k6).fS kl).fS ks).fS kt;unfold rh at hM;refine al hS fun a hS=>?_;refine kb hS fun u m4 a w hk hS=>?_;refine ka hS i8 fun z md a w hk hS=>?_;refine al hS fun a hS=>?_;refine aJ (J:=fun a w=>∃ (c1:Int) (a1:LI) (a2:LR) (cs:LN) (cv:Int) (S:Value) (U:Value),St W0 (fun k=>k=g) T 80 [(6,pt u 0),(8,pt z 0)] [.box u [aj c1,S,U] 25,.box z [aj 0,.slice none 0 0,.slice none 0 0] 25,.box g [e,aj cv] 73] [aK ad S a1,aK aa U a2,aK (aS.int .i64) e cs,aK (aS.int .i64) e f.L,aK aw x b,bu,oy P0 [aK ad S a1,aK (aS.int .i64) e f.L,aK aw x b] aa 33 U a2] a w∧o8 c1 a1 a2 cs cv=some y) ?_ ?_
 ·skip;refine al hS fun a hS=>?_;obtain⟨i5,hj,hM⟩:=bd hM;refine wl rfl (cn hS lO rfl rfl 2 rfl (bn _ _ (hS.drop 2).dlt f (IntKind.i64.wrap (b6+1)) _ _ (hS.boxRow 2 rfl) (hS.notin 2 rfl) (aD.lent (i:=2) rfl (hS.get 3 rfl)) _ hj) fun _ w hR hk=>?_);obtain⟨n0,he,hrow,ep,ag⟩:=hR;obtain rfl:=he.symm;subst ag;refine⟨(a6 i5.2 e),hrow,fun a hS=>?_⟩;replace hS:=hS.fS (aD.back (i:=2) rfl ep);refine al hS fun a hS=>?_;obtain⟨r1,k5,hMo1⟩:=bd hM;refine bB _ (fun s a w=>∃ (A:Int) (C:LN) (D:Int) (d:Int) (m:LI) (n:LR) (o:Value) (q:Value),(A,C,D,d,m,n)=s∧St W0 (fun k=>k=g) T 80 [(0,pt g 0),(1,x),(6,pt u 0),(8,pt z 0),(9,aj A)] [.box g [e,aj D] 73,.box u [aj d,o,q] 25,.box z [aj 0,.slice none 0 0,.slice none 0 0] 25] [aK aw x b,aK (aS.int .i64) e C,aK ad o m,aK aa q n,aK (aS.int .i64) e f.L,bu,oy P0 [aK ad o m,aK (aS.int .i64) e f.L,aK aw x b] aa 33 q n] a w) k5 ⟨_,_,_,_,_,_,_,_,rfl,hS.mt [2,1,0] [3,0,2,1,4,5,6]⟩ ?_;rintro s a w f1 ⟨A,C,D,d,m,n,o,q,rfl,hS⟩ hM hf1;have hM:pd b A C D d m n=some f1:=hM;unfold pd at hM;refine aA ?_;refine al hS fun a hS=>?_;rcases cd hM with⟨hy,hM⟩|⟨hy,hM⟩
  ·refine al hS fun a hS=>?_;refine aJ (J:=fun a w=>∃ (d0:LN) (d1:Int) (c2:Int) (a3:LI) (a4:LR) (bt:Value) (bF:Value),St W0 (fun k=>k=g) T 80 [(0,pt g 0),(1,x),(6,pt u 0),(8,pt z 0),(9,aj A)] [.box g [e,aj d1] 73,.box u [aj c2,bt,bF] 25,.box z [aj 0,.slice none 0 0,.slice none 0 0] 25] [aK aw x b,aK (aS.int .i64) e d0,aK ad bt a3,aK aa bF a4,aK (aS.int .i64) e f.L,bu,oy P0 [aK ad bt a3,aK (aS.int .i64) e f.L,aK aw x b] aa 33 bF a4] a w∧dG A d0 d1 c2 a3 a4=some f1) ?_ ?_
   ·skip;refine al hS fun a hS=>?_;obtain⟨t,ha,hM⟩:=bd hM;refine wl rfl (cn hS lO rfl rfl 0 rfl (bn _ _ (hS.drop 0).dlt (aW.mk C D) 8 _ _ (hS.boxRow 0 rfl) (hS.notin 0 rfl) (aD.lent (i:=0) rfl (hS.get 1 rfl)) _ ha) fun _ w hR hk=>?_);obtain⟨n1,he,hrow,eq,ak⟩:=hR;obtain rfl:=he.symm;subst ak;refine⟨(a6 t.2 e),hrow,fun a hS=>?_⟩;replace hS:=hS.fS (aD.back (i:=0) rfl eq);refine al hS fun a hS=>?_;refine aJ (J:=fun a w=>∃ (d3:Bool),St W0 (fun k=>k=g) T 80 [(0,pt g 0),(1,x),(6,pt u 0),(8,pt z 0),(9,aj A),(21,aj t.1),(32,.bool d3)] [.box g (a6 t.2 e) 73,.box u [aj d,o,q] 25,.box z [aj 0,.slice none 0 0,.slice none 0 0] 25] [aK aw x b,aK (aS.int .i64) e t.2.L,aK ad o m,aK aa q n,aK (aS.int .i64) e f.L,bu,oy P0 [aK ad o m,aK (aS.int .i64) e f.L,aK aw x b] aa 33 q n] a w∧iP b A d m n t d3=some f1) ?_ ?_
    ·exact fz
    rintro a w ⟨d3,hS,hM⟩;unfold iP at hM;rcases cd hM with⟨hz,hM⟩|⟨hz,hM⟩
    ·refine al hS fun a hS=>?_;refine dr [(2,.blk (some g)),(7,.blk (some u))] hS fun w hQ hS=>?_;refine dy (l:=[.blk (some g)]) 0 (v:=.agg #[aj d,o,q]) rfl (by kernel_rfl) (by kernel_rfl) (by kernel_rfl) (by kernel_rfl) hQ hS (dQ hS rfl gK 1 rfl (iZ hS 1 rfl rfl 0 rfl rfl (by decide) br) (us:=[aj d,o,q]) rfl rfl (fun h=>by cases h)) rfl rfl rfl fun a hS=>?_;refine gE [1] hS fun a hS=>?_;obtain⟨h2,hb,hM⟩:=bd hM;refine e1 2 (lg hS ME rfl rfl 0 rfl (tN _ _ (hS.drop 0).dlt (aW.mk t.2.L t.2.At) 2 _ _ (hS.boxRow 0 rfl) (hS.notin 0 rfl) (aD.lent (i:=0) rfl (hS.get 1 rfl)) (bu.keep (hS.get 5 rfl) (ai _ _) (fun k hk=>.inl ((nV (i:=0) rfl k).1 hk))) _ hb) fun _ w hR hk=>?_);obtain⟨d6,c3,n2,he,⟨ed,e5,er⟩,hrow,et,an⟩:=hR;obtain rfl:=he.symm;subst an;refine⟨(a6 h2.2 e),[mr d6 c3],hrow,fG ⟨ed,by decide⟩ e5,uz _,fun a hS=>⟨jl rfl hk jn,?_⟩⟩;replace hS:=((hS.fR (er.keep (ai _ _) (Nw.back2 (i:=0) rfl [mr d6 c3] _))).fS (et.sub (Nw.back2 (i:=0) rfl [mr d6 c3] _))).freeze (R:=bm) 0 rfl 1 rfl;obtain⟨i2,hc,hM⟩:=bd hM;refine ec 3 hS MC (uY _ _ hS.dlt (hS.get 8 rfl) (am.mk d m n) h2.1 _ _ _ (hS.get 5 rfl) (hS.get 6 rfl) (hS.get 0 rfl) _ hc) fun _ w hR a hk hA=>?_;obtain⟨i9,l0,na,l1,he,ew,ex,c0⟩:=hR;obtain rfl:=he.symm;have hS:=Aw hA ew ex c0;refine gE [4,5,6] hS fun a hS=>?_;refine es 7 hS fun w hS=>?_;refine eD ?_;replace hS:=(hS.freeze (R:=ad) 0 rfl 1 rfl).freezeFr (P:=P0) (R:=aa) e2 [aK ad i9 i2.1.Inputs,aK (aS.int .i64) e f.L,aK aw x b] ⟨⟨0,rfl⟩,⟨10,rfl⟩,⟨6,rfl⟩,trivial⟩ 0 rfl 1 rfl;exact⟨_,_,_,_,_,_,_,hS.mt [0,1,2] [8,6,2,0,12,13,1],hM⟩
    refine al hS fun a hS=>?_;rcases cd hM with⟨hB,hM⟩|⟨hB,hM⟩
    ·refine al hS fun a hS=>?_;refine aJ (J:=fun a w=>∃ (d2:Int) (a9:LN) (af:Int) (b8:LU) (E:Int) (b9:LI) (bb:LR) (bi:LK) (bl:LF) (bs:LK) (a5:Nat) (V:Value) (c4:LV) (W:Value) (c5:LV) (X:Value) (c6:LV) (Y:Value) (c9:LV) (Z:Value) (ca:LV) (a0:Value) (ch:LV),St W0 (fun k=>k=g) T 80 [(0,pt g 0),(1,x),(6,pt u 0),(8,pt z 0),(9,aj A),(10,pt a5 0),(11,aj d2)] [.box g [e,aj af] 73,.box u [aj d,o,q] 25,.box z [aj 0,.slice none 0 0,.slice none 0 0] 25,bU V c4,aT W c5,ae X c6,ay Y c9,dC Z ca,ay a0 ch,.box a5 [V,aj E,W,X,Y,Z,a0] 122] [aK aw x b,aK (aS.int .i64) e a9,aK ad o m,aK aa q n,ao aw c4 b8,ao ad c5 b9,ao aa c6 bb,ao ac c9 bi,ao ax ca bl,ao ac ch bs,aK (aS.int .i64) e f.L,bu,oy P0 [aK ad o m,aK (aS.int .i64) e f.L,aK aw x b] aa 33 q n] a w∧o9 A d m n d2 a9 af b8 E b9 bb bi bl bs=some f1) ?_ ?_
     ·skip;obtain⟨N178,h6⟩:∃ N,N=w.heap.size:=⟨_,rfl⟩;replace hS:=hS.fact (Ds N178) (qh h6);refine dr [(4,.blk (some g)),(5,.bks []),(10,.new N178)] hS fun w hQ hS=>?_;refine gE [0] hS fun a hS=>?_;refine dy (l:=[.blk (some g)]) 1 (v:=.agg #[aj d,o,q]) rfl (by kernel_rfl) (by kernel_rfl) (by kernel_rfl) (by kernel_rfl) hQ hS (dQ hS rfl gK 1 rfl (iZ hS 1 rfl rfl 0 rfl rfl (by decide) br) (us:=[aj d,o,q]) rfl rfl (fun h=>by cases h)) rfl rfl rfl fun a hS=>?_;refine gE [2,3] hS fun a hS=>?_;obtain⟨Q,e3,hM⟩:=bd hM;refine di (i:=4) (j:=9) rfl rfl (by kernel_rfl) rfl rfl ?_ ?_
      ·skip;skip;refine id (lg hS Kl rfl rfl 0 rfl (s5 _ _ (hS.drop 0).dlt (aW.mk t.2.L t.2.At) b 2 _ _ _ (hS.boxRow 0 rfl) (hS.notin 0 rfl) (aD.lent (i:=0) rfl (hS.get 2 rfl)) (aD.lent (i:=0) rfl (hS.get 1 rfl)) (bu.keep (hS.get 6 rfl) (ai _ _) (fun k hk=>.inl ((nV (i:=0) rfl k).1 hk))) _ e3) fun _ w hR hk=>?_);obtain⟨dl,ck,nb,he,⟨ek,e6,ey⟩,hrow,f2,b0⟩:=hR;obtain rfl:=he.symm;subst b0;refine⟨(a6 Q.2 e),[ay dl ck],hrow,fG ⟨ek,by decide⟩ e6,uz _,fun a hS=>⟨jl rfl hk jn,?_⟩⟩;replace hS:=((hS.fR (ey.keep (ai _ _) (Nw.back2 (i:=0) rfl [ay dl ck] _))).fS (f2.sub (Nw.back2 (i:=0) rfl [ay dl ck] _))).freeze (R:=ac) 0 rfl 1 rfl;obtain⟨ms,e4,hM⟩:=bd hM;refine di (i:=5) (j:=9) rfl rfl (by kernel_rfl) rfl rfl ?_ ?_
       ·skip;skip;replace hS:=hS.re [] [0,1,2];refine id (bC hS Kv rfl rfl (se _ _ hS.dltD b (am.mk d m n) Q.1 _ _ _ _ hS.dok (hS.getD 4 rfl) (hS.getD 6 rfl) (hS.getD 7 rfl) (hS.getD 0 rfl) (hS.getD 9 rfl) _ e4) fun _ w hR a hk hA=>⟨jl rfl hk pW,?_⟩);obtain⟨nd,l2,ng,l3,nl,la,nm,le,no,ll,np,ls,he,f3,f4,f6,f7,fd,fl,hC⟩:=hR;obtain rfl:=he.symm;have hS:=hA _ hC;replace hS:=(((((hS.fR (f3.keep (ai _ _) (au _))).fR (f4.keep (ai _ _) (au _))).fR (f6.keep (ai _ _) (au _))).fR (f7.keep (ai _ _) (au _))).fR (fd.keep (ai _ _) (au _))).fR (fl.keep (ai _ _) (au _));refine gE [6,7,8] hS fun a hS=>?_;have hD:=(hS.get 9 rfl:N178≤w.heap.size);refine e1 9 (cm hS ul rfl fun ho hE a w hk hS=>⟨eS (hk),?_⟩);refine cw 10 (.blk (some ho)) _ (by kernel_rfl) (k8 (cx hD hE)) ?_;refine es 10 hS fun w hS=>?_;refine gE [11] hS fun a hS=>?_;refine eD ?_;exact⟨_,_,_,_,_,_,_,_,_,_,_,_,_,_,_,_,_,_,_,_,_,_,_,hS.mt [7,8,9,1,2,3,4,5,6,0] [10,7,12,13,5,4,3,2,1,0,14,15,16],hM⟩
       skip;have hF:=(hS.get 3 rfl:N178≤w.heap.size);refine id (cm hS ul rfl fun hp hG a w hk hS=>⟨eS (hk),?_⟩);refine cw 10 (.blk (some hp)) _ (by kernel_rfl) (k8 (cx hF hG)) ?_;replace hS:=hS.re [] [0,1,2,3];refine e1 5 (bC hS Kv rfl rfl (se _ _ hS.dltD b (am.mk d m n) Q.1 _ _ _ _ hS.dok (hS.getD 4 rfl) (hS.getD 6 rfl) (hS.getD 7 rfl) (hS.getD 0 rfl) (hS.getD 9 rfl) _ e4) fun _ w hR a hk hA=>⟨jl rfl hk pW,?_⟩);obtain⟨ib,hs,ih,ht,ii,hu,it,hv,ja,hw,jb,hx,he,G,H,I,K,M,O,d4⟩:=hR;obtain rfl:=he.symm;have hS:=hA _ d4;replace hS:=(((((hS.fR (G.keep (ai _ _) (au _))).fR (H.keep (ai _ _) (au _))).fR (I.keep (ai _ _) (au _))).fR (K.keep (ai _ _) (au _))).fR (M.keep (ai _ _) (au _))).fR (O.keep (ai _ _) (au _));refine gE [6,7,8] hS fun a hS=>?_;refine es 10 hS fun w hS=>?_;refine gE [11] hS fun a hS=>?_;refine eD ?_;exact⟨_,_,_,_,_,_,_,_,_,_,_,_,_,_,_,_,_,_,_,_,_,_,_,hS.mt [7,8,9,0,1,2,3,4,5,6] [10,7,12,13,5,4,3,2,1,0,14,15,16],hM⟩
      skip;have hI:=(hS.get 0 rfl:N178≤w.heap.size);refine id (cm hS ul rfl fun hq hK a w hk hS=>⟨eS (hk),?_⟩);refine cw 10 (.blk (some hq)) _ (by kernel_rfl) (k8 (cx hI hK)) ?_;refine e1 4 (lg hS Kl rfl rfl 1 rfl (s5 _ _ (hS.drop 1).dlt (aW.mk t.2.L t.2.At) b 2 _ _ _ (hS.boxRow 1 rfl) (hS.notin 1 rfl) (aD.lent (i:=1) rfl (hS.get 2 rfl)) (aD.lent (i:=1) rfl (hS.get 1 rfl)) (bu.keep (hS.get 6 rfl) (ai _ _) (fun k hk=>.inl ((nV (i:=1) rfl k).1 hk))) _ e3) fun _ w hR hk=>?_);obtain⟨dn,cl,nX,he,⟨el,ea,fn⟩,hrow,fr,b2⟩:=hR;obtain rfl:=he.symm;subst b2;refine⟨(a6 Q.2 e),[ay dn cl],hrow,fG ⟨el,by decide⟩ ea,uz _,fun a hS=>⟨jl rfl hk jn,?_⟩⟩;replace hS:=((hS.fR (fn.keep (ai _ _) (Nw.back2 (i:=1) rfl [ay dn cl] _))).fS (fr.sub (Nw.back2 (i:=1) rfl [ay dn cl] _))).freeze (R:=ac) 0 rfl 1 rfl;obtain⟨mv,hl,hM⟩:=bd hM;replace hS:=hS.re [] [0,1,2,3];refine e1 5 (bC hS Kv rfl rfl (se _ _ hS.dltD b (am.mk d m n) Q.1 _ _ _ _ hS.dok (hS.getD 4 rfl) (hS.getD 6 rfl) (hS.getD 7 rfl) (hS.getD 0 rfl) (hS.getD 9 rfl) _ hl) fun _ w hR a hk hA=>⟨jl rfl hk pW,?_⟩);obtain⟨ib,hs,ih,ht,ii,hu,it,hv,ja,hw,jb,hx,he,G,H,I,K,M,O,d4⟩:=hR;obtain rfl:=he.symm;have hS:=hA _ d4;replace hS:=(((((hS.fR (G.keep (ai _ _) (au _))).fR (H.keep (ai _ _) (au _))).fR (I.keep (ai _ _) (au _))).fR (K.keep (ai _ _) (au _))).fR (M.keep (ai _ _) (au _))).fR (O.keep (ai _ _) (au _));refine gE [6,7,8] hS fun a hS=>?_;refine es 10 hS fun w hS=>?_;refine gE [11] hS fun a hS=>?_;refine eD ?_;exact⟨_,_,_,_,_,_,_,_,_,_,_,_,_,_,_,_,_,_,_,_,_,_,_,hS.mt [7,8,9,0,1,2,3,4,5,6] [10,7,12,13,5,4,3,2,1,0,14,15,16],hM⟩
     rintro a w ⟨d2,a9,af,b8,E,b9,bb,bi,bl,bs,a5,V,c4,W,c5,X,c6,Y,c9,Z,ca,a0,ch,hS,hM⟩;unfold o9 at hM;refine al hS fun a hS=>?_;rcases cd hM with⟨hN,hM⟩|⟨hN,hM⟩
     ·refine al hS fun a hS=>?_;refine aA ?_;refine dr [(2,.blk (some g)),(8,.blk (some a5))] hS fun w hQ hS=>?_;refine dy (l:=[.blk (some g)]) 0 (v:=.agg #[V,aj E,W,X,Y,Z,a0]) rfl (by kernel_rfl) (by kernel_rfl) (by kernel_rfl) (by kernel_rfl) hQ hS (dQ hS rfl sI 9 rfl (iZ hS 9 rfl rfl 0 rfl rfl (by decide) br) (us:=[V,aj E,W,X,Y,Z,a0]) rfl rfl (fun h=>by cases h)) rfl rfl rfl fun a hS=>?_;refine gE [1] hS fun a hS=>?_;obtain⟨h1,h7,hM⟩:=bd hM;refine e1 2 (cn hS lO rfl rfl 0 rfl (bn _ _ (hS.drop 0).dlt (aW.mk a9 af) 30 _ _ (hS.boxRow 0 rfl) (hS.notin 0 rfl) (aD.lent (i:=0) rfl (hS.get 1 rfl)) _ h7) fun _ w hR hk=>?_);obtain⟨o1,he,hrow,fs,av⟩:=hR;obtain rfl:=he.symm;subst av;refine⟨(a6 h1.2 e),hrow,fun a hS=>⟨jl rfl hk jn,?_⟩⟩;replace hS:=((((((hS.fS (aD.back (i:=0) rfl fs)).freeze (R:=aw) 3 rfl 5 rfl).freeze (R:=ad) 3 rfl 7 rfl).freeze (R:=aa) 3 rfl 9 rfl).freeze (R:=ac) 3 rfl 11 rfl).freeze (R:=ax) 3 rfl 13 rfl).freeze (R:=ac) 3 rfl 15 rfl;obtain⟨B,h8,hM⟩:=bd hM;refine ec 3 hS Oh (C1 _ _ hS.dlt (hS.get 18 rfl) vv O2 (de.mk b8 (am.mk E b9 bb) bi bl bs) h1.1 _ _ _ _ _ _ (hS.get 5 rfl) (hS.get 4 rfl) (hS.get 3 rfl) (hS.get 2 rfl) (hS.get 1 rfl) (hS.get 0 rfl) _ h8) fun _ w hR a hk hA=>?_;obtain⟨o2,o3,of,oi,oj,ok,he,fM,g0,g1,g2,g3,g4⟩:=hR;obtain rfl:=he.symm;have hS:=hA [] (fun r hr=>by cases hr) uL;replace hS:=(((((hS.fS (fM.sub (oE _))).fS (g0.sub (oE _))).fS (g1.sub (oE _))).fS (g2.sub (oE _))).fS (g3.sub (oE _))).fS (g4.sub (oE _));refine gE [4,5,6,7] hS fun a hS=>?_;refine es 8 hS fun w hS=>?_;refine eD ?_;refine al hS fun a hS=>?_;obtain⟨i0,h9,hM⟩:=bd hM;refine kc hS Oi (ze _ _ hS.dlt (de.mk B.1.Rules (am.mk B.1.Base.Revision B.1.Base.Inputs B.1.Base.Records) B.1.Goals B.1.Stack B.1.Ran) _ _ _ _ _ _ (hS.get 5 rfl) (hS.get 4 rfl) (hS.get 3 rfl) (hS.get 2 rfl) (hS.get 1 rfl) (hS.get 0 rfl) _ h9) fun _ w hR a hk hA=>?_;obtain⟨js,lt,op,lv,he,g5,g6,c0⟩:=hR;obtain rfl:=he.symm;have hS:=Aw hA g5 g6 c0;refine go hS fun a w hS=>?_;replace hS:=(hS.freeze (R:=ad) 0 rfl 1 rfl).freezeFr (P:=P0) (R:=aa) e2 [aK ad js i0.Inputs,aK (aS.int .i64) e f.L,aK aw x b] ⟨⟨0,rfl⟩,⟨26,rfl⟩,⟨16,rfl⟩,trivial⟩ 0 rfl 1 rfl;exact⟨_,_,_,_,_,_,_,hS.mt [0,1,2] [18,17,2,0,28,29,1],hM⟩
     exact fz
    refine al hS fun a hS=>?_;rcases cd hM with⟨hP,hM⟩|⟨hP,hM⟩
    ·refine al hS fun a hS=>?_;obtain⟨d5,hd,hM⟩:=bd hM;refine wl rfl (cn hS lO rfl rfl 0 rfl (bn _ _ (hS.drop 0).dlt (aW.mk t.2.L t.2.At) 3 _ _ (hS.boxRow 0 rfl) (hS.notin 0 rfl) (aD.lent (i:=0) rfl (hS.get 1 rfl)) _ hd) fun _ w hR hk=>?_);obtain⟨os,he,hrow,g7,b3⟩:=hR;obtain rfl:=he.symm;subst b3;refine⟨(a6 d5.2 e),hrow,fun a hS=>?_⟩;replace hS:=hS.fS (aD.back (i:=0) rfl g7);refine al hS fun a hS=>?_;rcases cd hM with⟨hV,hM⟩|⟨hV,hM⟩
     ·refine al hS fun a hS=>?_;refine dr [(2,.blk (some g)),(3,.bks []),(8,.blk (some u))] hS fun w hQ hS=>?_;refine dy (l:=[.blk (some g)]) 0 (v:=.agg #[aj d,o,q]) rfl (by kernel_rfl) (by kernel_rfl) (by kernel_rfl) (by kernel_rfl) hQ hS (dQ hS rfl gK 1 rfl (iZ hS 1 rfl rfl 0 rfl rfl (by decide) br) (us:=[aj d,o,q]) rfl rfl (fun h=>by cases h)) rfl rfl rfl fun a hS=>?_;refine gE [1] hS fun a hS=>?_;obtain⟨h3,hf,hM⟩:=bd hM;refine e1 2 (cn hS lO rfl rfl 0 rfl (bn _ _ (hS.drop 0).dlt (aW.mk d5.2.L d5.2.At) 200 _ _ (hS.boxRow 0 rfl) (hS.notin 0 rfl) (aD.lent (i:=0) rfl (hS.get 0 rfl)) _ hf) fun _ w hR hk=>?_);obtain⟨p0,he,hrow,g8,b4⟩:=hR;obtain rfl:=he.symm;subst b4;refine⟨(a6 h3.2 e),hrow,fun a hS=>⟨jl rfl hk jn,?_⟩⟩;replace hS:=(hS.fS (aD.back (i:=0) rfl g8)).fact (aK ac (.slice none 0 0) []) (aD.nil_ _ _ _);obtain⟨i3,hg,hM⟩:=bd hM;replace hS:=hS.re [] [0,1,2];refine e1 3 (bC hS MA rfl rfl (u3 _ _ hS.dltD (am.mk d m n) h3.1 ([]) _ _ _ hS.dok (hS.getD 5 rfl) (hS.getD 6 rfl) (hS.getD 0 rfl) (hS.getD 8 rfl) _ hg) fun _ w hR a hk hA=>⟨jl rfl hk pW,?_⟩);obtain⟨k0,lz,p1,m0,p2,m1,he,gb,gi,gp,hW⟩:=hR;obtain rfl:=he.symm;have hS:=hA _ hW;replace hS:=((hS.fR (gb.keep (ai _ _) (au _))).fR (gi.keep (ai _ _) (au _))).fR (gp.keep (ai _ _) (au _));refine gE [4,5,6,7] hS fun a hS=>?_;refine es 8 hS fun w hS=>?_;refine eD ?_;replace hS:=(hS.freeze (R:=ad) 0 rfl 2 rfl).freezeFr (P:=P0) (R:=aa) e2 [aK ad k0 i3.1.Inputs,aK (aS.int .i64) e f.L,aK aw x b] ⟨⟨0,rfl⟩,⟨11,rfl⟩,⟨7,rfl⟩,trivial⟩ 0 rfl 2 rfl;exact⟨_,_,_,_,_,_,_,hS.mt [1,2,3] [9,7,2,0,13,14,1],hM⟩
     exact fz
    refine al hS fun a hS=>?_;refine dr [(4,.blk (some g)),(10,.blk (some u))] hS fun w hQ hS=>?_;refine gE [0] hS fun a hS=>?_;refine dy (l:=[.blk (some g)]) 1 (v:=.agg #[aj d,o,q]) rfl (by kernel_rfl) (by kernel_rfl) (by kernel_rfl) (by kernel_rfl) hQ hS (dQ hS rfl gK 1 rfl (iZ hS 1 rfl rfl 0 rfl rfl (by decide) br) (us:=[aj d,o,q]) rfl rfl (fun h=>by cases h)) rfl rfl rfl fun a hS=>?_;refine gE [2,3] hS fun a hS=>?_;obtain⟨h4,hh,hM⟩:=bd hM;refine e1 4 (lg hS Kl rfl rfl 0 rfl (s5 _ _ (hS.drop 0).dlt (aW.mk t.2.L t.2.At) b 2 _ _ _ (hS.boxRow 0 rfl) (hS.notin 0 rfl) (aD.lent (i:=0) rfl (hS.get 1 rfl)) (aD.lent (i:=0) rfl (hS.get 0 rfl)) (bu.keep (hS.get 5 rfl) (ai _ _) (fun k hk=>.inl ((nV (i:=0) rfl k).1 hk))) _ hh) fun _ w hR hk=>?_);obtain⟨ds,co,p3,he,⟨em,eb,gs⟩,hrow,gu,b5⟩:=hR;obtain rfl:=he.symm;subst b5;refine⟨(a6 h4.2 e),[ay ds co],hrow,fG ⟨em,by decide⟩ eb,uz _,fun a hS=>⟨jl rfl hk jn,?_⟩⟩;replace hS:=((hS.fR (gs.keep (ai _ _) (Nw.back2 (i:=0) rfl [ay ds co] _))).fS (gu.sub (Nw.back2 (i:=0) rfl [ay ds co] _))).freeze (R:=ac) 0 rfl 1 rfl;obtain⟨i4,hi,hM⟩:=bd hM;refine ec 5 hS NP (xP _ _ hS.dlt (hS.get 8 rfl) uu Pg b (am.mk d m n) h4.1 _ _ _ _ (hS.get 3 rfl) (hS.get 5 rfl) (hS.get 6 rfl) (hS.get 0 rfl) _ hi) fun _ w hR a hk hA=>?_;obtain⟨k1,p4,m2,p5,m3,he,gx,gy,h0,c0⟩:=hR;obtain rfl:=he.symm;have hS:=Aw hA gy h0 c0;replace hS:=hS.fS (gx.sub (oE _));refine gE [6,7,8,9] hS fun a hS=>?_;refine es 10 hS fun w hS=>?_;refine eD ?_;replace hS:=hS.freezeFr (P:=P0) (R:=aa) e2 [aK ad k1 i4.1.Inputs,aK (aS.int .i64) e f.L,aK aw x b] ⟨⟨0,rfl⟩,⟨10,rfl⟩,⟨6,rfl⟩,trivial⟩ 0 rfl 2 rfl;exact⟨_,_,_,_,_,_,_,hS.mt [1,2,3] [8,6,2,0,12,13,1],hM⟩
   rintro a w ⟨d0,d1,c2,a3,a4,bt,bF,hS,hM⟩;unfold dG at hM;exact fz
  refine al hS fun a hS=>?_;cases hM
  have hr:=hf1 _ rfl;subst hr;have hM:o8 d m n C D=some y:=hMo1;exact⟨_,_,_,_,_,_,_,hS.mt [1,2,0] [2,3,1,4,0,5,6],hM⟩
 rintro a w ⟨c1,a1,a2,cs,cv,S,U,hS,hM⟩;unfold o8 at hM;refine go hS fun a w hS=>?_;cases hM
 refine aH hS rfl (rC 1 hS) ?_;exact⟨S,U,e,rfl,(aD.up ⟨.inr (aG (i:=2) rfl),trivial⟩ (hS.get 0 rfl)),(aD.up ⟨.inr (aG (i:=2) rfl),trivial⟩ (hS.get 1 rfl)),hS.boxRow 2 rfl,(aD.up ⟨.inr (aG (i:=2) rfl),trivial⟩ (hS.get 2 rfl)),rfl,(bQ.up _ ⟨.inr (aG (i:=2) rfl),trivial⟩ (hS.get 6 rfl))⟩
def sE (g:aW) (f:Int):Option (LU×am×aW):=(ri g).bind fun c=>(lW (aW.mk c.2.L c.2.At) 4).bind fun d=>(nA (am.mk 0 ([]) ([])) d.1).bind fun e=>(rh (aW.mk d.2.L d.2.At) c.1 (am.mk e.1.Revision e.1.Inputs e.1.Records) f).bind fun b=>some ((c.1,(am.mk b.1.Revision b.1.Inputs b.1.Records),(aW.mk b.2.L b.2.At)))
theorem CS (T:Nat→Prop) (W0:World) (hT:TW T W0) (l:aW) (m:Int) (j:Value) (b:Nat) (a2:W0.heap[b]? = some (.cells (a6 l j).toArray 73 (0,0))) (Z:¬ T b) (a3:aD (aS.int .i64) (dT T [.box b (a6 l j) 73]) W0 j l.L) (hLv:dx (dT T [.box b (a6 l j) 73]) W0) (y:LU×am×aW) (hM:sE l m=some y):bc aQ (fun k=>k=b) 25 [pt b 0,aj m] W0 (fun v w'=>∃ (v3:Value) (v4:Value) (A:Value) (vJ:bh) (z:Value),v = .tuple #[v3,.agg (aY y.2.1 v4 A).toArray]∧aD aw (dT T [ae A vJ,.box b (a6 y.2.2 z) 73]) w' v3 y.1∧aD ad (dT T [ae A vJ,.box b (a6 y.2.2 z) 73]) w' v4 y.2.1.Inputs∧ip aa T W0 w' [ae A vJ,.box b (a6 y.2.2 z) 73] 33 A vJ y.2.1.Records∧w'.heap[b]? = some (.cells (a6 y.2.2 z).toArray 73 (0,0))∧aD (aS.int .i64) (dT T [ae A vJ,.box b (a6 y.2.2 z) 73]) w' z y.2.2.L∧j=z):=by
 refine rY (c:=_) Tryz.func25 rfl T 24 Tryz.ntmps25 hT rfl a2 Z fun a hS=>?_;replace hS:=(hS.fact bu hLv).fS a3;unfold sE at hM;refine al hS fun a hS=>?_;refine ka hS i8 fun a9 an a w hk hS=>?_;refine al hS fun a hS=>?_;obtain⟨d,U,hM⟩:=bd hM;refine wl rfl (lg hS N0 rfl rfl 1 rfl (BE _ _ (hS.drop 1).dlt l _ _ (hS.boxRow 1 rfl) (hS.notin 1 rfl) (aD.lent (i:=1) rfl (hS.get 0 rfl)) _ U) fun _ w hR hk=>?_);obtain⟨g,q,b0,he,⟨D,B,F⟩,hrow,G,s⟩:=hR;obtain rfl:=he.symm;subst s;refine⟨(a6 d.2 j),[bU g q],hrow,fG ⟨D,by decide⟩ B,uz _,fun a hS=>?_⟩;replace hS:=(hS.fR (F.keep (ai _ _) (Nw.back2 (i:=1) rfl [bU g q] _))).fS (G.sub (Nw.back2 (i:=1) rfl [bU g q] _));refine al hS fun a hS=>?_;refine qy hS (bE (ps:=[]) hS CY i8 rfl (us:=[]) trivial (ws:=[aj 0,.slice none 0 0,.slice none 0 0]) rfl) fun a hS=>?_;refine al hS fun a hS=>?_;obtain⟨e,V,hM⟩:=bd hM;refine wl rfl (lg hS ME rfl rfl 2 rfl (tN _ _ (hS.drop 2).dlt (aW.mk d.2.L d.2.At) 4 _ _ (hS.boxRow 2 rfl) (hS.notin 2 rfl) (aD.lent (i:=2) rfl (hS.get 0 rfl)) (bu.keep (hS.get 3 rfl) (ai _ _) (fun k hk=>.inl ((nV (i:=2) rfl k).1 hk))) _ V) fun _ w hR hk=>?_);obtain⟨x,r,b2,he,⟨E,C,H⟩,hrow,I,t⟩:=hR;obtain rfl:=he.symm;subst t;refine⟨(a6 e.2 j),[mr x r],hrow,fG ⟨E,by decide⟩ C,uz _,fun a hS=>?_⟩;replace hS:=((((hS.fR (H.keep (ai _ _) (Nw.back2 (i:=2) rfl [mr x r] _))).fS (I.sub (Nw.back2 (i:=2) rfl [mr x r] _))).fact (aK ad (.slice none 0 0) []) (aD.nil_ _ _ _)).fact (aK aa (.slice none 0 0) []) (aD.nil_ _ _ _)).freeze (R:=bm) 0 rfl 3 rfl;obtain⟨n,W,hM⟩:=bd hM;refine kc hS MC (uY _ _ hS.dlt (hS.get 8 rfl) (am.mk 0 ([]) ([])) e.1 _ _ _ (hS.get 2 rfl) (hS.get 1 rfl) (hS.get 0 rfl) _ W) fun _ w hR a hk hA=>?_;obtain⟨a0,ag,b3,ak,he,J,K,a1⟩:=hR;obtain rfl:=he.symm;have hS:=Aw hA J K a1;refine al hS fun a hS=>?_;refine ka hS i8 fun af av a w hk hS=>?_;refine go hS fun a w hS=>?_;replace hS:=((hS.freeze (R:=aw) 3 rfl 8 rfl).freeze (R:=ad) 1 rfl 2 rfl).freezeFr (P:=(fun k=>(fun k=>k=b) k∨W0.heap.size≤k)) (R:=aa) (fun _ h=>h) [aK ad a0 n.1.Inputs,aK (aS.int .i64) j e.2.L,aK aw g d.1] ⟨⟨0,rfl⟩,⟨7,rfl⟩,⟨1,rfl⟩,trivial⟩ 1 rfl 2 rfl;obtain⟨o,X,hM⟩:=bd hM;refine wl rfl (cn hS N1 rfl rfl 2 rfl (BD _ _ (hS.drop 2).dlt (aW.mk e.2.L e.2.At) d.1 (am.mk n.1.Revision n.1.Inputs n.1.Records) m _ _ _ _ _ (hS.boxRow 2 rfl) (hS.notin 2 rfl) (aD.lent (i:=2) rfl (hS.get 9 rfl)) (aD.lent (i:=2) rfl (hS.get 3 rfl)) (aD.lent (i:=2) rfl (hS.get 2 rfl)) (aD.lent (i:=2) rfl (hS.get 0 rfl)) (bu.keep (hS.get 14 rfl) (ai _ _) (fun k hk=>.inl ((nV (i:=2) rfl k).1 hk))) (fun k=>(fun k=>k=b) k∨W0.heap.size≤k) (hS.toPm (P:=(fun k=>(fun k=>k=b) k∨W0.heap.size≤k)) 2 rfl (fun _ h=>h)) (bQ.lent (i:=2) _ rfl (hS.get 1 rfl)) _ X) fun _ w hR hk=>?_);obtain⟨Q,S,b4,he,M,N,hrow,O,u,p⟩:=hR;obtain rfl:=he.symm;subst u;refine⟨(a6 o.2 j),hrow,fun a hS=>?_⟩;replace hS:=(((hS.fS (aD.back (i:=2) rfl M)).fS (aD.back (i:=2) rfl N)).fS (aD.back (i:=2) rfl O)).fact (oy (fun k=>(fun k=>k=b) k∨W0.heap.size≤k) [aK ad Q o.1.Inputs,aK (aS.int .i64) j e.2.L,aK aw g d.1] aa 33 S o.1.Records) (bQ.back (i:=2) _ rfl p);refine go hS fun a w hS=>?_;obtain⟨Y,hS⟩:=hS.thawFr (F1:=[aK (aS.int .i64) j o.2.L]) 0 rfl (fun _ h=>h) (List.forall_mem_cons.2 ⟨⟨aG (i:=1) rfl,KX (fun _ _ _ _ _ h=>h) 1 rfl⟩,(fun f hf=>nomatch hf)⟩);cases hM
 refine aH hS Tryz.results25 (az hS rfl (bj hS rfl 2 rfl gK rfl (fun h=>by cases h) aF)) ?_;exact⟨g,Q,S,Y,j,rfl,(aD.up ⟨.inr (aG (i:=0) rfl),⟨.inr (aG (i:=3) rfl),trivial⟩⟩ (hS.get 4 rfl)),(aD.up ⟨.inr (aG (i:=0) rfl),⟨.inr (aG (i:=3) rfl),trivial⟩⟩ (hS.get 2 rfl)),hS.retOwnm ⟨.inr (aG (i:=0) rfl),⟨.inr (aG (i:=3) rfl),trivial⟩⟩ 0 rfl 0 rfl 3 rfl (by decide),hS.boxRow 3 rfl,(aD.up ⟨.inr (aG (i:=0) rfl),⟨.inr (aG (i:=3) rfl),trivial⟩⟩ (hS.get 1 rfl)),rfl⟩
end
end
section
open Go.RowKit
open Go.Lib hiding intOf
structure FZ (c:dZ):Prop where
 key:∃ n,n<10∧c.Key=gN n
 value:c.Value.size≤1000
theorem vM.le {rev rev':Int} {x:aZ} (h:vM rev x) (hl:rev≤rev'):vM rev' x:=⟨h.key,h.value,h.low,by have:=h.high; omega⟩
section
variable {l:List aR} {b:am}
theorem ku.le {rev rev':Int} {r:ab} (h:ku l rev r) (hl:rev≤rev'):ku l rev' r:=⟨h.key,h.value,h.reads,h.good,h.low,h.mid,by have:=h.high; omega,h.cost,h.dirty⟩
theorem jm.rise (h:jm l b) (hr:b.Revision+1≤1000000) {ins:List aZ} (h1:yg ins) (h2:∀ x∈ins,vM (b.Revision+1) x):jm l (am.mk (b.Revision+1) ins b.Records) :=
 ⟨⟨by have:=h.rev; show 0≤b.Revision+1; omega,hr⟩,h2,h1,fun r hm=>(h.recs r hm).le (by show b.Revision≤b.Revision+1; omega),h.recsA⟩
theorem I5 {ins:List aZ} {rev:Int} (h:∀ x∈ins,vM rev x) {x:aZ} (hx:vM rev x):∀ y∈uI ins x,vM rev y:=fun y hy=>by
 rcases GW.1 hy with rfl | ⟨hy,_⟩
 ·exact hx
 ·exact h y hy
theorem Ey {ins:List aZ} (h1:yg ins) {rev:Int} (h2:∀ x∈ins,vM rev x):ins.length≤10:=by
 have h3:=lX (lV (f:=aZ.Key) h1) (m:=(List.range 10).map gN) fun k hk=>by
  obtain⟨r,hr,rfl⟩:=io.1 hk;obtain⟨n,hn,e⟩:=(h2 r hr).key;exact io.2 ⟨n,vG.2 hn,e.symm⟩
 simpa using h3
theorem yj (hR:bI l) (h:jm l b) (hr:b.Revision+1≤1000000) {cs:List dZ} (hc:∀ c∈cs,FZ c) (hn:cs.length≤32):Ok (nA b cs) fun y=>jm l y.1∧y.1.Revision≤b.Revision+1:=by
 have hl:=hR.high;have hcp:=tF (h.rm hl).1 (h.rm hl).2.1;have hrev:=h.rev;have hw:IntKind.i64.wrap (b.Revision+1)=b.Revision+1:=gM (by omega) (by omega);unfold nA;refine aN hcp (aN (BT h hl) ?_);rw [decide_eq_false (by omega)];simp only [eI,cond_false];refine aN (fK (r:=Fl.go ()) cs.length (fun k hk=>?_) ?_) ?_
 ·obtain⟨n,hn,e⟩:=(hc _ (ge hk)).key;unfold kB;rw [dlt hk,cond_true,bN hk,aq,e,vf (by omega),aq];simp only [eI,cond_false];rw [qQ,aq,cc (by omega)]; rfl
 ·unfold kB;rw [bA]; rfl
 show Ok (kz cs b) _;unfold kz;refine aN (fK (r:=Fl.go ()) cs.length (fun k hk=>?_) ?_) ?_
 ·have:=(hc _ (ge hk)).value;unfold kA;rw [dlt hk,cond_true,bN hk,aq,decide_eq_false (by omega),cc (by omega)]; rfl
 ·unfold kA;rw [bA]; rfl
 show Ok (kx cs b) _;unfold kx;refine aN hcp ?_;refine bG (fun (k:Nat) (s:Bool×Int×List aZ)=>s.2.1=k∧yg s.2.2∧(∀ x∈s.2.2,vM (b.Revision+1) x)∧k≤cs.length) (fun r=>yg r.2∧∀ x∈r.2,vM (b.Revision+1) x) cs.length ⟨rfl,h.insA,fun x hx=>(h.ins x hx).le (by omega),fE _⟩ ?_ ?_
 ·rintro k ⟨ch,g,ins⟩ hk ⟨rfl,h1,h2,_⟩;dsimp only at h1 h2 ⊢;unfold mZ;refine aC (fun hlt=>?_) (fun _=>ap ⟨h1,h2⟩);have hlt:k<cs.length:=by have:=of_decide_eq_true hlt; omega
  have hcO:=hc _ (ge hlt);refine aN (bN hlt) ?_;generalize cs[k]=c at hcO;rw [cc (by omega)];refine aN (uD (by omega)) ?_;have hd:(cs.drop (k+1)).length≤32:=by rw [pS]; omega
  have hj2:∀ ch' ins',yg ins'→(∀ x∈ins',vM (b.Revision+1) x)→Ok (jD (k:Int) ch' ins') fun y=>match y with
    | .go s=>k<cs.length∧(s.2.1=((k+1:Nat):Int)∧yg s.2.2∧(∀ x∈s.2.2,vM (b.Revision+1) x)∧k+1≤cs.length)
    | .out r=>yg r.2∧∀ x∈r.2,vM (b.Revision+1) x:=fun ch' ins' q1 q2=>ap ⟨hlt,cc (by omega),q1,q2,hlt⟩
  refine bG (fun (i:Nat) (s:Bool×Int)=>s.2=i∧i≤(cs.drop (k+1)).length) (fun _=>True) (cs.drop (k+1)).length ⟨rfl,fE _⟩ ?_ ?_
  ·rintro i ⟨la,q⟩ hi ⟨rfl,_⟩;dsimp only;unfold mY;refine aC (fun hlt2=>?_) (fun _=>ap trivial);have hlt2:i<(cs.drop (k+1)).length:=by have:=of_decide_eq_true hlt2; omega
   refine aN (bN hlt2) (aC (fun _=>ap ⟨hlt2,cc (by omega),hlt2⟩) (fun _=>ap ⟨hlt2,cc (by omega),hlt2⟩))
  ·intro la _;unfold ob;refine aC (fun _=>(hj2 _ _ h1 h2).mono fun y hy=>by cases y <;> exact hy) (fun _=>aN (GD (h.rm hl).2.1 _) (aC (fun _=>(hj2 _ _ h1 h2).mono fun y hy=>by cases y <;> exact hy) (fun _=>?_)));have hil:=Ey h1 h2;have hput:=FG (r:=aZ.mk c.Key c.Value (b.Revision+1)) h1 (by unfold Rm; omega) (u:=b) hw (k:Int);have hput2:((loop (fun s:(List aZ)×Bool×Int=>gV b ins c s.1 s.2.1 s.2.2) (([]:List aZ),false,0)).bind fun q=>fq b (k:Int) c q.1 q.2)=fp (k:Int) (uI ins (aZ.mk c.Key c.Value (b.Revision+1))):=hput;rw [hput2];unfold fp;exact (hj2 _ _ (He h1 _) (I5 h2 ⟨hcO.key,hcO.value,by show 0≤b.Revision+1; omega,uK _⟩)).mono fun y hy=>by cases y <;> exact hy
 ·rintro⟨ch,ins⟩ ⟨h1,h2⟩;dsimp only at h1 h2 ⊢;have hil:=Ey h1 h2;unfold lx;rw [hw];refine aC (fun _=>ap ⟨h,by show b.Revision≤b.Revision+1; omega⟩) (fun _=>?_);rw [decide_eq_false (by omega),decide_eq_false (by omega)];exact ap ⟨h.rise hr h1 h2,uK _⟩
theorem Fk {d:List Int} {i:Int} (hd:bO d i):Ok (pC ⟨d,i⟩) fun y=>FZ y.1∧bO y.2.L y.2.At:=by
 unfold pC;refine aL (cZ hd (by omega) (by omega)) fun y ⟨y1,y2,d1⟩=>?_;obtain⟨c,hc⟩:∃ c:Nat,y.1=c:=⟨y.1.toNat,by omega⟩;rw [hc];refine aN (vu (by omega)) (aL (Jk d1 (by simp) (by simp)) fun w ⟨w1,d2⟩=>ap ⟨⟨⟨c,by omega,rfl⟩,?_⟩,d2⟩);have:∀ s∈[(ByteArray.mk #[48]),(ByteArray.mk #[49]),(ByteArray.mk #[50]),(ByteArray.mk #[51]),(ByteArray.mk #[55]),(ByteArray.mk #[49,48,48]),cr,(ByteArray.mk #[120]),(ByteArray.mk #[49,54]),(ByteArray.mk #[49])],s.size≤1000:=by decide
 exact this _ w1
theorem yp {d:List Int} {i:Int} (hd:bO d i) {most:Int} (h1:0≤most) (h2:most≤30):Ok (lW ⟨d,i⟩ most) fun y=>(∀ c∈y.1,FZ c)∧(y.1.length:Int)≤most∧bO y.2.L y.2.At:=by
 unfold lW;rw [gM (by omega) (by omega)];refine aL (cZ hd (by omega) (by omega)) fun y ⟨y1,y2,d1⟩=>?_;refine bG (fun (k:Nat) (s:(List dZ)×Int×(List Int)×Int)=>(∀ q∈s.1,FZ q)∧s.1.length=k∧s.2.1=y.1-k∧0≤s.2.1∧bO s.2.2.1 s.2.2.2) (fun r=>(∀ q∈r.1,FZ q)∧(r.1.length:Int)≤most∧bO r.2.1 r.2.2) 31 ⟨fun q hq=>absurd hq ou,rfl,by simp,y1,d1⟩ ?_ (fun r hr=>ap hr);rintro k ⟨gs,c,d,i⟩ hk ⟨g1,g2,g3,g3',g4⟩;dsimp only at g1 g2 g3 g3' g4 ⊢;unfold mT;refine aC (fun hc=>?_) (fun _=>ap ⟨g1,by show (gs.length:Int)≤most; omega,g4⟩);have hc:=of_decide_eq_true hc;have hw:IntKind.i64.wrap (c-1)=c-1:=gM (by omega) (by omega);refine aL (Fk g4) fun z ⟨z1,z2⟩=>fF (dX (by simp; omega)) (ap ⟨by omega,?_,by rw [bL,g2]; rfl,?_,?_,z2⟩)
 ·intro q hq;rcases dc.1 hq with hq | hq
  ·exact g1 q hq
  ·rw [kG.1 hq]; exact z1
 ·show IntKind.i64.wrap (c-1)=_;rw [hw]; omega
 ·show 0≤IntKind.i64.wrap (c-1);rw [hw]; omega
theorem Fh (x y:ab):Ok (ki x y) fun _=>True:=by
 unfold ki cP;refine aN rfl (aN rfl (aC (fun _=>ap trivial) (fun _=>aC (fun _=>ap trivial) (fun _=>aN (jK _ _) (ap trivial)))))
theorem G8 {recs:List ab} (h:recs.length≤1000):Ok (iL recs) fun o=>o.length≤recs.length:=by
 unfold iL;refine bG (fun (k:Nat) (s:List ab×Int)=>s.2=k∧s.1.length=k∧k≤recs.length) (fun o=>o.length≤recs.length) recs.length ⟨rfl,rfl,fE _⟩ ?_ (fun o ho=>ap ho);rintro k ⟨out,g⟩ hk ⟨rfl,hlen,_⟩;dsimp only at hlen ⊢;unfold lH;refine aC (fun hlt=>?_) (fun _=>ap (by show out.length≤_; omega));have hlt:k<recs.length:=by have:=of_decide_eq_true hlt; omega
 refine aN (bN hlt) ?_;refine bG (fun (i:Nat) (s:Int)=>s=i∧i≤out.length) (fun r=>∃ i:Nat,r=i∧i≤out.length) out.length ⟨rfl,fE _⟩ ?_ ?_
 ·rintro i _ hi ⟨rfl,_⟩;unfold fB;refine aC (fun hlt2=>?_) (fun _=>ap ⟨i,rfl,hi⟩);have hlt2:i<out.length:=by have:=of_decide_eq_true hlt2; omega
  refine aN (bN hlt2) (aL (Fh _ _) fun y _=>aC (fun _=>ap ⟨hlt2,cc (by omega),hlt2⟩) (fun _=>ap ⟨i,rfl,hi⟩))
 ·rintro _ ⟨i,rfl,hi⟩;unfold jJ lG;refine aN (oX hi) (aN (uD hi) ?_);have e1:(out.take i).length=i:=by rw [dh]; omega
  have e2:(out.drop i).length=out.length-i:=pS;refine fF (dX (by simp; omega)) (fF (dX (by simp; omega)) (fF (dX (by simp; omega)) (ap ⟨hlt,cc (by omega),?_,hlt⟩)));simp only [rW,bL,d8,jR];omega
theorem HI {recs:List ab} (h:recs.length≤1000):Ok (jQ recs) fun _=>True:=by
 unfold jQ;refine bG (fun (k:Nat) (s:Int×Int)=>s.2=k∧k≤recs.length) (fun _=>True) recs.length ⟨rfl,fE _⟩ ?_ (fun r _=>ap trivial);rintro k ⟨n,g⟩ hk ⟨rfl,_⟩;dsimp only;unfold hJ;refine aC (fun hlt=>?_) (fun _=>ap trivial);have hlt:k<recs.length:=by have:=of_decide_eq_true hlt; omega
 exact aN (bN hlt) (aN rfl (ap ⟨hlt,cc (by omega),hlt⟩))
theorem Gy (hR:bI l) (h:jm l b) {budget:Int} (h1:0≤budget) (h2:budget≤1000):Ok (eR b budget []) fun y=>vc l b y.1:=by
 have hl:=hR.high;have hnr:=h.nrec;unfold eR;refine aN (BT h hl) ?_;rw [decide_eq_false (by omega),decide_eq_false (by omega)];simp only [eI,cond_false];refine aN (tF (h.rm hl).1 (h.rm hl).2.1) (aL (G8 (by omega)) fun o ho=>?_);refine bG (fun (k:Nat) (s:List ah×Int×List ab)=>s.2.1=k∧k≤o.length∧s.1.length≤k∧jm l (am.mk b.Revision b.Inputs s.2.2)) (fun r=>jm l (am.mk b.Revision b.Inputs r.2)) o.length ⟨rfl,fE _,fE _,h⟩ ?_ (fun r hr=>ap ⟨hr,rfl,rfl⟩);rintro k ⟨gone,g,recs⟩ hk ⟨rfl,_,hg,hb⟩;dsimp only at hg hb ⊢;have hrl:recs.length≤l.length:=hb.nrec;unfold hH;refine aC (fun hlt=>?_) (fun _=>ap hb);have hlt:k<o.length:=by have:=of_decide_eq_true hlt; omega
 refine aN (bN hlt) (aL (HI (by omega)) fun t _=>?_);have hj3:∀ q,Ok (dJ gone (k:Int) recs o[k] q) fun y=>match y with
   | .go s=>k<o.length∧(s.2.1=((k+1:Nat):Int)∧k+1≤o.length∧s.1.length≤k+1∧jm l (am.mk b.Revision b.Inputs s.2.2))
   | .out r=>jm l (am.mk b.Revision b.Inputs r.2):=fun q=>by
  unfold dJ fA;refine aC (fun _=>aN (vA (by unfold Rm; omega) _) (fF (dX (by simp; omega)) (ap ⟨hlt,cc (by omega),hlt,by rw [bL]; simp; omega,hb.filter _⟩))) (fun _=>ap ⟨hlt,cc (by omega),hlt,by show gone.length≤k+1; omega,hb⟩)
 exact aC (fun _=>aN (qM (by unfold Rm; simp) _) ((hj3 _).mono fun y hy=>by cases y <;> exact hy)) (fun _=>(hj3 _).mono fun y hy=>by cases y <;> exact hy)
theorem GR (hR:bI l) (h:jm l b) {d:List Int} {i:Int} (hd:bO d i) {most:Int} (h1:0≤most) (h2:most≤1000) (h3:b.Revision≤1000):Ok (rh ⟨d,i⟩ l b most) fun y=>jm l y.1∧y.1.Revision≤b.Revision+most∧bO y.2.L y.2.At:=by
 unfold rh;rw [gM (by omega) (by omega)];refine aL (cZ hd (by omega) (by omega)) fun y ⟨y1,y2,d1⟩=>?_;refine bG (fun (k:Nat) (s:Int×(List Int)×Int×Int×(List aZ)×(List ab))=>s.1=y.1-k∧0≤s.1∧bO s.2.1 s.2.2.1∧jm l (am.mk s.2.2.2.1 s.2.2.2.2.1 s.2.2.2.2.2)∧s.2.2.2.1≤b.Revision+k) (fun r=>jm l (am.mk r.1 r.2.1 r.2.2.1)∧r.1≤b.Revision+most∧bO r.2.2.2.1 r.2.2.2.2) 2000 ⟨by simp,y1,d1,h,by show b.Revision≤_; simp⟩ ?_ (fun r hr=>ap hr);rintro k ⟨c,d,i,rev,ins,recs⟩ hk ⟨g1,g2,g3,g4,g5⟩;dsimp only at g1 g2 g3 g4 g5 ⊢;unfold pd;refine aC (fun hc=>?_) (fun _=>ap ⟨g4,by show rev≤_; omega,g3⟩);have hc:=of_decide_eq_true hc;have hw:IntKind.i64.wrap (c-1)=c-1:=gM (by omega) (by omega);have hj2:∀ {d i rev' ins' recs'},bO d i→jm l (am.mk rev' ins' recs')→rev'≤rev+1→Ok (dG c d i rev' ins' recs') fun y'=>match y' with
   | .go s=>k<2000∧(s.1=y.1-((k+1:Nat):Int)∧0≤s.1∧bO s.2.1 s.2.2.1∧jm l (am.mk s.2.2.2.1 s.2.2.2.2.1 s.2.2.2.2.2)∧s.2.2.2.1≤b.Revision+((k+1:Nat):Int))
   | .out r=>jm l (am.mk r.1 r.2.1 r.2.2.1)∧r.1≤b.Revision+most∧bO r.2.2.2.1 r.2.2.2.2:=by
  intro d i rev' ins' recs' q1 q2 q3;unfold dG;rw [hw];exact ap ⟨by omega,by show c-1=_; omega,by show 0≤c-1; omega,q1,q2,by show rev'≤_; omega⟩
 have hL:∀ {d i} {b':am},bO d i→vc l (am.mk rev ins recs) b'→Ok (dG c d i b'.Revision b'.Inputs b'.Records) fun y'=>match y' with
   | .go s=>k<2000∧(s.1=y.1-((k+1:Nat):Int)∧0≤s.1∧bO s.2.1 s.2.2.1∧jm l (am.mk s.2.2.2.1 s.2.2.2.2.1 s.2.2.2.2.2)∧s.2.2.2.1≤b.Revision+((k+1:Nat):Int))
   | .out r=>jm l (am.mk r.1 r.2.1 r.2.2.1)∧r.1≤b.Revision+most∧bO r.2.2.2.1 r.2.2.2.2:=fun q1 q2=>hj2 q1 q2.ok (by have:=q2.rev; rw [this]; show rev≤rev+1; omega)
 refine aL (cZ g3 (by omega) (by omega)) fun w ⟨w1,w2,d2⟩=>?_;have hj4:∀ q,Ok (iP l c rev ins recs w q) fun y'=>match y' with
   | .go s=>k<2000∧(s.1=y.1-((k+1:Nat):Int)∧0≤s.1∧bO s.2.1 s.2.2.1∧jm l (am.mk s.2.2.2.1 s.2.2.2.2.1 s.2.2.2.2.2)∧s.2.2.2.1≤b.Revision+((k+1:Nat):Int))
   | .out r=>jm l (am.mk r.1 r.2.1 r.2.2.1)∧r.1≤b.Revision+most∧bO r.2.2.2.1 r.2.2.2.2:=fun q=>by
  unfold iP;refine aC (fun _=>?_) (fun _=>aC (fun _=>?_) (fun _=>aC (fun _=>?_) (fun _=>?_)))
  ·refine aL (yp d2 (by omega) (by omega)) fun z ⟨z1,z2,d3⟩=>aL (yj hR g4 (by show rev+1≤1000000; omega) z1 (by omega)) fun u ⟨u1,u2⟩=>hj2 d3 u1 u2
  ·refine aL (CD hR d2 (by omega) (by omega)) fun z ⟨z1,z2,d3⟩=>?_;obtain⟨t,ht,ht2,ht3⟩:=HE hR g4 z1 z2;refine aN ht ?_;unfold o9;simp only [show ((0:Int)==0)=true from rfl,cond_true];refine aL (cZ d3 (by omega) (by omega)) fun u ⟨u1,u2,d4⟩=>aL (Ht hR g4 ht2 ht3 (by omega)) fun t2 ht4=>aL (Fi hR ht4 (by omega)) fun b2 hb2=>hL d4 hb2
  ·refine aL (cZ d2 (by omega) (by omega)) fun z ⟨z1,z2,d3⟩=>aC (fun _=>?_) (fun _=>hL d3 ⟨g4,rfl,rfl⟩);exact aL (cZ d3 (by omega) (by omega)) fun u ⟨u1,u2,d4⟩=>aL (Gy hR g4 u1 (by omega)) fun v hv=>hL d4 hv
  ·exact aL (CD hR d2 (by omega) (by omega)) fun z ⟨z1,z2,d3⟩=>aL (DU hR g4 z1 z2) fun u hu=>hL d3 hu
 exact aC (fun _=>(hj4 _).mono fun y hy=>by cases y <;> exact hy) (fun _=>aC (fun _=>(hj4 _).mono fun y hy=>by cases y <;> exact hy) (fun _=>(hj4 _).mono fun y hy=>by cases y <;> exact hy))
end
theorem H6 {d:List Int} {i:Int} (hd:bO d i) {most:Int} (h1:0≤most) (h2:most≤900):Ok (sE ⟨d,i⟩ most) fun y=>bI y.1∧jm y.1 y.2.1∧y.2.1.Revision≤most+1∧bO y.2.2.L y.2.2.At:=by
 unfold sE;refine aL (Hs hd) fun y ⟨hR,d1⟩=>aL (yp d1 (by omega) (by omega)) fun z ⟨z1,z2,d2⟩=>?_;have h0:jm y.1 (am.mk 0 [] []):=⟨⟨by show (0:Int)≤0; omega,by show (0:Int)≤1000000; omega⟩,fun x hx=>absurd hx ou,uL,fun x hx=>absurd hx ou,uL⟩;refine aL (yj hR h0 (by show (0:Int)+1≤1000000; omega) z1 (by omega)) fun u ⟨u1,u2⟩=>?_;have u2:u.1.Revision≤0+1:=u2;exact aL (GR hR u1 d2 h1 (by omega) (by omega)) fun v ⟨v1,v2,d3⟩=>ap ⟨hR,v1,by show v.1.Revision≤most+1; omega,d3⟩
end
section
open Go.RowKit
open Go.Lib hiding intOf
theorem Fn {s:List ah} (h:Rm s.length):ss s=some s:=by
 unfold ss Rm at *;rw [show bT (([]:List ah).length+s.length)=true from dX (by simp; omega)]; rfl
theorem wP {s:List ab} (h:Rm s.length):lP s=some s:=by
 unfold lP Rm at *;rw [show bT (([]:List ab).length+s.length)=true from dX (by simp; omega)]; rfl
theorem G9 {r:ab} (h:Rm r.Reads.length):oM r=some r:=by
 unfold oM;rw [Fn h]; rfl
theorem Bj {l:List ab} (h:Bc l):nw l=some l:=by
 unfold nw;rw [wP h.1,aq];refine d7 (cG (xs:=l) (fun k=>(l,(k:Int))) rfl (r:=l) (fun k x hx=>?_) ?_) rfl
 ·unfold lm;dsimp only;rw [cM hx,cond_true,aM,hx,aq,G9 (h.2 x (aG hx)),cc (by have:=aV hx; have:=h.1; unfold Rm at this; omega)];simp only [aq,pQ];rw [Hy hx]
 ·unfold lm;dsimp only;rw [bA]; rfl
theorem AO (k:ah):rc k=some (pA k):=by
 unfold rc jW n4 pA kK fO ej k7;have hb:∀ n:Int,((k.Kind:Int)==n)=decide (k.Kind=n):=fun n=>by rw [Bool.eq_iff_iff]; simp
 rw [hb,hb,hb,hb,hb];by_cases h32:k.Kind=32
 ·simp [h32]
 ·by_cases h7:k.Kind=7
  ·simp [h7]
  ·by_cases h14:k.Kind=14
   ·simp [h14]
   ·by_cases h17:k.Kind=17
    ·simp [h17]
    ·by_cases h18:k.Kind=18
     ·simp [h18]
     ·simp only [h32,h7,h14,h17,h18,decide_false,Bool.or_false,cond_false];cases decide ((1:Int)≤k.Kind) <;> cases decide ((k.Kind:Int)≤22) <;> rfl
section
variable {l:List aR} {b:am}
theorem I1 {f:ah→Option Bool} {s:List ah} (hl:Rm s.length) (h:∀ x∈s,f x=some false):gm f s=some false:=by
 unfold Rm at hl;have e:oH f s=some (-1):=by
  unfold oH;refine d7 (fK (r:=Fl.go ()) s.length (fun k hk=>?_) ?_) rfl
  ·unfold ff;rw [dlt hk,cond_true,bN hk,aq,h _ (ge hk),cc (by omega)]; rfl
  ·unfold ff;rw [bA]; rfl
 unfold gm;rw [e]; rfl
theorem I2 {f:ab→Option Bool} {s:List ab} (hl:Rm s.length) (h:∀ x∈s,f x=some false):ba f s=some false:=by
 unfold Rm at hl;have e:dt f s=some (-1):=by
  unfold dt;refine d7 (fK (r:=Fl.go ()) s.length (fun k hk=>?_) ?_) rfl
  ·unfold cg;rw [dlt hk,cond_true,bN hk,aq,h _ (ge hk),cc (by omega)]; rfl
  ·unfold cg;rw [bA]; rfl
 unfold ba;rw [e]; rfl
theorem A2 {n:Nat} (h:n<100):dv (rk l n)=some true:=by
 unfold rk;exact HN (by split <;> simp) h
theorem xm {n:Nat} (h:n<100):dv (gN n)=some true:=GO h
theorem BB (k:ah):oK k=cC k:=rfl
theorem oA.kvalid (hl:l.length≤8) {k:ah} (h:oA l k):dv k=some true:=by
 rcases h with⟨c,hc,rfl⟩|⟨n,hn,rfl⟩
 ·exact xm (by omega)
 ·exact A2 (by omega)
theorem Hh (hl:l.length≤8) {rev:Int} (hrev:rev≤1000000) {r:ab} (h:ku l rev r):ke r=some true:=by
 obtain⟨n,hn,hk⟩:=h.key;have h3:=h.reads;have h4:=h.value;have h5:=h.low;have h6:=h.mid;have h7:=h.high;have h8:=h.cost;have hj:cY r false=some true:=by
  unfold cY;rw [cond_false,decide_eq_true (by omega),decide_eq_true (by omega),decide_eq_true (by omega),decide_eq_true (by omega),decide_eq_true (by omega)];simp only [cond_true];rw [I1 (by unfold Rm; omega) fun x hx=>by unfold gR; rw [(h.good x hx).kvalid hl]; rfl]; rfl
 unfold ke;rw [hk,A2 (by omega),aq,BB,wB,aq,decide_eq_false (by omega),decide_eq_false (by omega)];simp only [eI,cond_false];cases hd:r.Dirty with
 | false=>exact hj
 | true =>
  have:=h.dirty hd;rw [hk] at this;rw [cond_true,AO,this];exact hj
theorem LJ (h:jm l b) (hl:l.length≤8):e9 b.Records=some true:=by
 have hn:=h.nrec;unfold e9;refine d7 (fK (r:=Fl.go ()) b.Records.length (fun k hk=>?_) ?_) ?_
 ·unfold cK;rw [dlt hk,cond_true,bN hk,aq,Hh hl h.rev.2 (h.recs _ (ge hk)),aq];have hj:db (k:Int) false=some (.go ((k+1:Nat):Int)):=by unfold db; rw [cc (by omega)]; rfl
  simp only [eI,cond_false];rcases wK k with h0 | h0
  ·subst h0;exact hj
  ·rw [decide_eq_true (by omega),cond_true,show IntKind.i64.wrap ((k:Int)-1)=((k-1:Nat):Int) by rw [gM (by omega) (by omega)]; omega,bN (show k-1<b.Records.length by omega),aq,yu,aq];have:=gv.1 h.recsA (k-1) k (by omega) hk (by omega);rw [decide_eq_false (by omega)];exact hj
 ·unfold cK;rw [bA]; rfl
 ·show some (decide ((b.Records.length:Int)≤4000))=some true;rw [decide_eq_true (by omega)]
theorem Hk {c:Nat} (hc:c<100):jL (gN c)=some true:=by
 unfold jL;rw [xm hc,aq,cond_true,BB,qQ]; rfl
theorem Hl (h:jm l b) (hl:l.length≤8):hO b=some true:=by
 have hn:=h.nrec;have hi:=h.nin;have hrev:=h.rev;unfold hO;rw [decide_eq_false (by omega),decide_eq_false (by omega),decide_eq_false (by omega),LJ h hl];simp only [cond_false,aq,eI];refine d7 (fK (r:=Fl.go ()) b.Inputs.length (fun k hk=>?_) ?_) ?_
 ·have hx:=h.ins _ (ge hk);obtain⟨c,hc,hkey⟩:=hx.key;have h1:=hx.value;have h2:=hx.low;have h3:=hx.high;unfold df;rw [dlt hk,cond_true,bN hk,aq,hkey,Hk (by omega),aq];have hj:bW (k:Int) false=some (.go ((k+1:Nat):Int)):=by unfold bW; rw [cc (by omega)]; rfl
  simp only [eI,cond_false];rw [decide_eq_false (show ¬ (1073741824:Int)<(b.Inputs[k].Value.size:Int) by omega),decide_eq_false (show ¬ (b.Inputs[k].Changed:Int)<0 by omega),decide_eq_false (show ¬ (b.Revision:Int)<b.Inputs[k].Changed by omega)];rcases wK k with h0 | h0
  ·subst h0;exact hj
  ·rw [decide_eq_true (by omega),cond_true,show IntKind.i64.wrap ((k:Int)-1)=((k-1:Nat):Int) by rw [gM (by omega) (by omega)]; omega,bN (show k-1<b.Inputs.length by omega),aq,yu,aq];have:=gv.1 h.insA (k-1) k (by omega) hk (by omega);rw [hkey] at this;rw [decide_eq_false (by omega)];exact hj
 ·unfold df;rw [bA]; rfl
 ·show fN b=some true;unfold fN;rw [I2 (by unfold Rm; omega) fun x hx=>by unfold gH; rw [decide_eq_false (by have:=(h.recs x hx).high; omega)]]; rfl
theorem I6 (h:jm l b) (hl:l.length≤8):iV b=some b:=by
 have hi:=h.nin;unfold iV cE;rw [dX (by simp; omega),Bj (h.rm hl).1];simp [gd]
end
end
section
set_option maxRecDepth 100000
set_option maxHeartbeats 4000000
open Go.RowKit
noncomputable section
def jO (b:ab):Option Int:=some (IntKind.i64.wrap ((IntKind.i64.wrap ((IntKind.i64.wrap (16+(b.Key.Text.size:Int)))+(b.Value.size:Int)))+(IntKind.i64.wrap (8*(b.Reads.length:Int)))))
theorem pi (T:Nat→Prop) (W0:World) (hT:TW T W0) (b:ab) (d:Value) (c:aD ac T W0 d b.Reads) (y:Int) (hM:jO b=some y):bc aQ No 39 [.agg (aE b d).toArray] W0 (fun v w'=>v=aj y):=by
 refine en Tryz.func39 Tryz.ntmps39 hT fun a hS=>?_;replace hS:=hS.fS (aD.dn c);unfold jO at hM;refine al hS fun a hS=>?_;refine kb hS fun e f a w hk hS=>?_;exact fz
def qY (b:Int):Option Int:=some (b)
def jp (d:LR) (c:Int) (b:Int):Option (Fl (Int×Int) (Int)):=cond (decide (b<(d.length:Int))) ((bg d b).bind fun e=>(jO e).bind fun f=>some (.go (IntKind.i64.wrap (c+f),IntKind.i64.wrap (b+1)))) (some (.out c))
def dj (b:LR):Option Int:=(loop (fun s:Int×Int=>jp b s.1 s.2) (0,0)).bind fun r=>qY r
theorem eg (T:Nat→Prop) (W0:World) (hT:TW T W0) (d:LR) (i:Value) (n:aD aa T W0 i d) (y:Int) (hM:dj d=some y):bc aQ No 14 [i] W0 (fun v w'=>v=aj y):=by
 refine en Tryz.func14 Tryz.ntmps14 hT fun a hS=>?_;replace hS:=hS.fS (aD.dn n);unfold dj at hM;refine al hS fun a hS=>?_;refine aJ (J:=fun a w=>∃ (e:Int),St W0 No T 18 [(3,aj e)] [] [] a w∧qY e=some y) ?_ ?_
 ·skip;refine al hS fun a hS=>?_;obtain⟨A,m,hMo1⟩:=bd hM;refine bB _ (fun s a w=>∃ (c:Int) (b:Int),(c,b)=s∧St W0 No T 18 [(3,aj c),(6,i),(7,aj (d.length:Int)),(8,aj b)] [] [aK aa i d] a w) m ⟨_,_,rfl,hS.mt [] [0]⟩ ?_;rintro s a w r ⟨c,b,rfl,hS⟩ hM hf1;have hM:jp d c b=some r:=hM;unfold jp at hM;refine al hS fun a hS=>?_;refine aA ?_;rcases cd hM with⟨k,hM⟩|⟨k,hM⟩
  ·refine al hS fun a hS=>?_;refine aA ?_;refine al hS fun a hS=>?_;obtain⟨j,f,hM⟩:=bd hM;refine wl rfl (bD (R:=aa) hS dM bZ rfl rfl 0 rfl f rfl fun o u q l a hS=>?_);obtain⟨z,rfl,h⟩:=l;replace hS:=hS.fS h;refine al hS fun a hS=>?_;refine ka hS dq fun p t a w hk hS=>?_;refine go hS fun a w hS=>?_;obtain⟨x,g,hM⟩:=bd hM;refine kc hS Ie (pi _ _ hS.dlt j _ (hS.get 0 rfl) _ g) fun _ w hR a hk hA=>?_;obtain rfl:=hR;have hS:=bS hA;exact fz
  exact fz
 rintro a w ⟨e,hS,hM⟩;unfold qY at hM;exact fz
def kZ (b:LR):Option LR:=some (b)
def iB (c:Int) (b:LR):Option (Fl (LR×Int) (LR)):=some (.go (b,IntKind.i64.wrap (c+1)))
def ci (j:Int) (e:ab→ab→Option Int) (c:LR) (b:Int):Option (Fl (LR×Int) (LR)):=cond (decide (j<b)) ((bg c b).bind fun f=>(bg c (IntKind.i64.wrap (b-1))).bind fun g=>(e f g).bind fun i=>cond (decide (i<0)) ((bg c (IntKind.i64.wrap (b-1))).bind fun d=>(bg c b).bind fun h=>(bg c b).bind fun k=>(bg (c.set (Int.toNat b) d) (IntKind.i64.wrap (b-1))).bind fun l=>some (.go (((c.set (Int.toNat b) d).set (Int.toNat (IntKind.i64.wrap (b-1))) h),IntKind.i64.wrap (b-1)))) (some (.out c))) (some (.out c))
def fJ (e:Int) (f:Int) (d:ab→ab→Option Int) (c:LR) (b:Int):Option (Fl (LR×Int) (LR)):=cond (decide (b<f)) ((loop (fun s:LR×Int=>ci e d s.1 s.2) (c,b)).bind fun r=>iB b r) (some (.out c))
def b7 (d:ab→ab→Option Int) (b:LR) (c:Int) (e:Int):Option LR:=(loop (fun s:LR×Int=>fJ c e d s.1 s.2) (b,IntKind.i64.wrap (c+1))).bind fun r=>kZ r
theorem sw (T:Nat→Prop) (W0:World) (hT:TW T W0) (cmp_g:Nat) (K:aU aQ cmp_g=true) (cmp_k:bh) (cmp_P:bQ) (m:ab→ab→Option Int) (N:∀ (T:Nat→Prop) (W0:World) (hT:TW T W0) (hLv:dx T W0) (hP:cmp_P.p T W0) (x0:ab) (x1:ab) (a1:Value) (ek:aD ac T W0 a1 x0.Reads) (a2:Value) (el:aD ac T W0 a2 x1.Reads) (y:Int) (hM:m x0 x1=some y),bc aQ No cmp_g ([.agg (aE x0 a1).toArray,.agg (aE x1 a2).toArray]++cmp_k) W0 (fun v w'=>v=aj y)) (G:LR) (f:Int) (g:Int) (b:Value) (dR:bh) (hD:vL T W0 [ae b dR]) (ds:aB aa (dT T [ae b dR]) W0 dR G) (hLv:dx (dT T [ae b dR]) W0) (hPcmp_:cmp_P.p (dT T [ae b dR]) W0) (y:LR) (hM:b7 m G f g=some y):bc aQ (MD [ae b dR]) 102 [b,aj f,aj g,.func (.func cmp_g) #[] cmp_k.toArray] W0 (fun v w'=>∃ (jT:bh),v = .tuple #[]∧nO W0 w' [ae b dR] [ae b jT]∧aB aa (dT T [ae b jT]) w' jT y):=by
 refine gg (c:=_) Tryz.func102 rfl T 53 Tryz.ntmps102 hT rfl hD fun a hS=>?_;replace hS:=((hS.fact cmp_P hPcmp_).fact bu hLv).fR ds;unfold b7 at hM;refine i1 ?_;refine IR hS fun a hS=>?_;refine zx (J:=fun a w=>∃ (A:LR) (j:LV),St W0 (MD [ae b dR]) T 53 [] [ae b j] [ao aa j A,bu,cmp_P] a w∧kZ A=some y) ?_ ?_
 ·skip;refine al hS fun a hS=>?_;obtain⟨r1,dl,hMo1⟩:=bd hM;refine bB _ (fun s a w=>∃ (o:LR) (d:Int) (u:LV),(o,d)=s∧St W0 (MD [ae b dR]) T 53 [(0,b),(1,aj f),(2,aj g),(3,.func (.func cmp_g) #[] cmp_k.toArray),(8,aj d)] [ae b u] [ao aa u o,bu,cmp_P] a w) dl ⟨_,_,_,rfl,hS.mt [0] [0,1,2]⟩ ?_;rintro s a w f1 ⟨o,d,u,rfl,hS⟩ hM hf1;have hM:fJ f g m o d=some f1:=hM;unfold fJ at hM;refine aA ?_;refine al hS fun a hS=>?_;rcases cd hM with⟨av,hM⟩|⟨av,hM⟩
  ·refine al hS fun a hS=>?_;refine aJ (J:=fun a w=>∃ (B:LR) (x:LV),St W0 (MD [ae b dR]) T 53 [(0,b),(1,aj f),(2,aj g),(3,.func (.func cmp_g) #[] cmp_k.toArray),(8,aj d)] [ae b x] [ao aa x B,bu,cmp_P] a w∧iB d B=some f1) ?_ ?_
   ·skip;refine al hS fun a hS=>?_;obtain⟨r2,dn,hMo2⟩:=bd hM;refine bB _ (fun s a w=>∃ (n:LR) (t:Int) (z:LV),(n,t)=s∧St W0 (MD [ae b dR]) T 53 [(0,b),(1,aj f),(2,aj g),(3,.func (.func cmp_g) #[] cmp_k.toArray),(8,aj d),(9,aj t)] [ae b z] [ao aa z n,bu,cmp_P] a w) dn ⟨_,_,_,rfl,hS.mt [0] [0,1,2]⟩ ?_;rintro s a w f2 ⟨n,t,z,rfl,hS⟩ hM hf2;have hM:ci f m n t=some f2:=hM;unfold ci at hM;refine aA ?_;refine aA ?_;refine dr [] hS fun w hQ hS=>?_;refine gE [0,1,2,3] hS fun a hS=>?_;rcases cd hM with⟨e,hM⟩|⟨e,hM⟩
    ·refine gE [4,5,6] hS fun a hS=>?_;obtain⟨C,O,hM⟩:=bd hM;obtain⟨a3,ck,em,e0,b0,b1,b2,b3⟩:=bP (R:=aa) hS dM bZ 0 rfl 0 rfl O;obtain⟨L,rfl,V⟩:=b0;replace hS:=hS.fS V;refine yG 7 (v:=pt a3 ck) rfl (by kernel_rfl) (by kernel_rfl) (by kernel_rfl) rfl hQ hS (b3 rfl rfl) rfl rfl rfl e rfl rfl fun a hS=>?_;refine yG (l:=[]) 8 (v:=.agg (aE C L).toArray) rfl (by kernel_rfl) (by kernel_rfl) (by kernel_rfl) (by kernel_rfl) hQ hS (bp (k:=0) hS bZ 0 rfl b1 b2 rfl br (us:=(aE C L)) rfl rfl (fun h=>by cases h)) rfl rfl rfl e rfl rfl fun a hS=>?_;refine gE [9,10,11] hS fun a hS=>?_;obtain⟨D,P,hM⟩:=bd hM;obtain⟨a4,cl,ep,e2,b4,b5,b6,b8⟩:=bP (R:=aa) hS dM bZ 0 rfl 1 rfl P;obtain⟨M,rfl,W⟩:=b4;replace hS:=hS.fS W;refine yG 12 (v:=pt a4 cl) rfl (by kernel_rfl) (by kernel_rfl) (by kernel_rfl) rfl hQ hS (b8 rfl rfl) rfl rfl rfl e rfl rfl fun a hS=>?_;refine yG (l:=[]) 13 (v:=.agg (aE D M).toArray) rfl (by kernel_rfl) (by kernel_rfl) (by kernel_rfl) (by kernel_rfl) hQ hS (bp (k:=0) hS bZ 0 rfl b5 b6 rfl br (us:=(aE D M)) rfl rfl (fun h=>by cases h)) rfl rfl rfl e rfl rfl fun a hS=>?_;obtain⟨ex,U,hM⟩:=bd hM;refine bV (i:=14) rfl (by kernel_rfl) hS rfl rfl rfl e (sU (cap:=cmp_k) hS rfl K rfl rfl (N _ _ hS.dlt (hS.get 3 rfl) (hS.get 4 rfl) C D _ (hS.get 1 rfl) _ (hS.get 0 rfl) _ U) fun _ w hR a hk hA=>⟨eS (hk),?_⟩);obtain rfl:=hR;have hS:=bS hA;refine gE [15,16] hS fun a hS=>?_;refine eD ?_;refine al hS fun a hS=>?_;rcases cd hM with⟨b9,hM⟩|⟨b9,hM⟩
     ·refine al hS fun a hS=>?_;refine aA ?_;refine al hS fun a hS=>?_;refine dr [(15,.blk (Value.ownBlock b)),(17,.blk (Value.ownBlock b))] hS fun w hQ hS=>?_;refine gE [0,1,2,3,4,5,6,7] hS fun a hS=>?_;obtain⟨q,Q,hM⟩:=bd hM;obtain⟨a5,co,eq,e3,bb,bi,bl,bs⟩:=bP (R:=aa) hS dM bZ 0 rfl 2 rfl Q;obtain⟨E,rfl,X⟩:=bb;replace hS:=hS.fS X;refine dy 8 (v:=pt a5 co) rfl (by kernel_rfl) (by kernel_rfl) (by kernel_rfl) rfl hQ hS (bs rfl rfl) rfl rfl rfl fun a hS=>?_;refine dy (l:=[]) 9 (v:=.agg (aE q E).toArray) rfl (by kernel_rfl) (by kernel_rfl) (by kernel_rfl) (by kernel_rfl) hQ hS (bp (k:=0) hS bZ 0 rfl bi bl rfl br (us:=(aE q E)) rfl rfl (fun h=>by cases h)) rfl rfl rfl fun a hS=>?_;refine gE [10,11] hS fun a hS=>?_;obtain⟨r,S,hM⟩:=bd hM;obtain⟨a9,cv,er,e4,bt,bF,c0,c1⟩:=bP (R:=aa) hS dM bZ 0 rfl 3 rfl S;obtain⟨F,rfl,Y⟩:=bt;replace hS:=hS.fS Y;refine dy 12 (v:=pt a9 cv) rfl (by kernel_rfl) (by kernel_rfl) (by kernel_rfl) rfl hQ hS (c1 rfl rfl) rfl rfl rfl fun a hS=>?_;refine dy (l:=[]) 13 (v:=.agg (aE r F).toArray) rfl (by kernel_rfl) (by kernel_rfl) (by kernel_rfl) (by kernel_rfl) hQ hS (bp (k:=0) hS bZ 0 rfl bF c0 rfl br (us:=(aE r F)) rfl rfl (fun h=>by cases h)) rfl rfl rfl fun a hS=>?_;obtain⟨ak,H,hM⟩:=bd hM;obtain⟨af,d0,et,e5,c2,c3,c4,c5⟩:=bP (R:=aa) hS dM bZ 0 rfl 4 rfl H;obtain⟨d2,rfl,Z⟩:=c2;replace hS:=hS.fS Z;refine dy 14 (v:=pt af d0) rfl (by kernel_rfl) (by kernel_rfl) (by kernel_rfl) rfl hQ hS (c5 rfl rfl) rfl rfl rfl fun a hS=>?_;refine e1 15 (fW (R:=aa) (k:=0) (cs:=(aE ak d2)) (us:=(aE q E)) (x':=q) hS rfl rfl rfl bZ 0 rfl 5 rfl c3 c4 H (⟨_,rfl,(hS.get 0 rfl)⟩) rfl rfl (⟨_,rfl,(hS.get 2 rfl)⟩) fun e6 w hk hS=>⟨jl rfl hk im,?_⟩);obtain⟨an,I,hM⟩:=bd hM;obtain⟨ag,d1,ew,ea,c6,c9,ca,ch⟩:=bP (R:=aa) hS dM bZ 0 rfl 0 rfl I;obtain⟨d3,rfl,a0⟩:=c6;replace hS:=hS.fS a0;refine dy 16 (v:=pt ag d1) rfl (by kernel_rfl) (by kernel_rfl) (by kernel_rfl) rfl hQ hS (ch rfl rfl) rfl rfl rfl fun a hS=>?_;refine e1 17 (fW (R:=aa) (k:=0) (cs:=(aE an d3)) (us:=(aE r F)) (x':=r) hS rfl rfl rfl bZ 0 rfl 1 rfl c9 ca I (⟨_,rfl,(hS.get 0 rfl)⟩) rfl rfl (⟨_,rfl,(hS.get 3 rfl)⟩) fun eb w hk hS=>⟨jl rfl hk im,?_⟩);refine eD ?_;exact fz
     exact fz
    refine gE [4,5,6,7,8,9,10,11,12,13,14,15,16] hS fun a hS=>?_;refine eD ?_;exact fz
   rintro a w ⟨B,x,hS,hM⟩;unfold iB at hM;exact fz
  exact fz
 rintro a w ⟨A,j,hS,hM⟩;unfold kZ at hM;refine Ab ?_;cases hM
 refine aH hS Tryz.results102 aF ?_;have hZ:=hS.sl [0] [0];exact⟨j,rfl,hZ.dnew,(hZ.get 0 rfl)⟩
def tg (b:LR):Option LR:=some (b)
def qx (d:Int) (e:Int) (h:Int) (c:LR) (b:Int):Option (Fl (LR×Int) (LR)):=cond (decide (b<h)) ((bg c (IntKind.i64.wrap (e+b))).bind fun f=>(bg c (IntKind.i64.wrap (d+b))).bind fun g=>(bg c (IntKind.i64.wrap (d+b))).bind fun i=>(bg (c.set (Int.toNat (IntKind.i64.wrap (d+b))) f) (IntKind.i64.wrap (e+b))).bind fun j=>some (.go (((c.set (Int.toNat (IntKind.i64.wrap (d+b))) f).set (Int.toNat (IntKind.i64.wrap (e+b))) g),IntKind.i64.wrap (b+1)))) (some (.out c))
def mc (f:ab→ab→Option Int) (b:LR) (c:Int) (d:Int) (e:Int):Option LR:=(loop (fun s:LR×Int=>qx c d e s.1 s.2) (b,0)).bind fun r=>tg r
theorem t8 (T:Nat→Prop) (W0:World) (hT:TW T W0) (cmp_g:Nat) (b5:aU aQ cmp_g=true) (cmp_k:bh) (cmp_P:bQ) (A:ab→ab→Option Int) (b9:∀ (T:Nat→Prop) (W0:World) (hT:TW T W0) (hLv:dx T W0) (hP:cmp_P.p T W0) (x0:ab) (x1:ab) (H:Value) (c1:aD ac T W0 H x0.Reads) (I:Value) (c2:aD ac T W0 I x1.Reads) (y:Int) (hM:A x0 x1=some y),bc aQ No cmp_g ([.agg (aE x0 H).toArray,.agg (aE x1 I).toArray]++cmp_k) W0 (fun v w'=>v=aj y)) (t:LR) (q:Int) (r:Int) (z:Int) (b:Value) (dR:bh) (hD:vL T W0 [ae b dR]) (b8:aB aa (dT T [ae b dR]) W0 dR t) (hLv:dx (dT T [ae b dR]) W0) (hPcmp_:cmp_P.p (dT T [ae b dR]) W0) (y:LR) (hM:mc A t q r z=some y):bc aQ (MD [ae b dR]) 146 [b,aj q,aj r,aj z,.func (.func cmp_g) #[] cmp_k.toArray] W0 (fun v w'=>∃ (jT:bh),v = .tuple #[]∧nO W0 w' [ae b dR] [ae b jT]∧aB aa (dT T [ae b jT]) w' jT y):=by
 refine gg (c:=_) Tryz.func146 rfl T 38 Tryz.ntmps146 hT rfl hD fun a hS=>?_;replace hS:=((hS.fact cmp_P hPcmp_).fact bu hLv).fR b8;unfold mc at hM;refine i1 ?_;refine IR hS fun a hS=>?_;refine zx (J:=fun a w=>∃ (m:LR) (d:LV),St W0 (MD [ae b dR]) T 38 [] [ae b d] [ao aa d m,bu,cmp_P] a w∧tg m=some y) ?_ ?_
 ·skip;refine al hS fun a hS=>?_;obtain⟨r1,b6,hMo1⟩:=bd hM;refine bB _ (fun s a w=>∃ (e:LR) (i:Int) (j:LV),(e,i)=s∧St W0 (MD [ae b dR]) T 38 [(0,b),(1,aj q),(2,aj r),(3,aj z),(10,aj i)] [ae b j] [ao aa j e,bu,cmp_P] a w) b6 ⟨_,_,_,rfl,hS.mt [0] [0,1,2]⟩ ?_;rintro s a w f1 ⟨e,i,j,rfl,hS⟩ hM hf1;have hM:qx q r z e i=some f1:=hM;unfold qx at hM;refine aA ?_;refine al hS fun a hS=>?_;rcases cd hM with⟨Q,hM⟩|⟨Q,hM⟩
  ·refine al hS fun a hS=>?_;refine aA ?_;refine al hS fun a hS=>?_;refine dr [(21,.blk (Value.ownBlock b)),(23,.blk (Value.ownBlock b))] hS fun w hQ hS=>?_;refine gE [0,1,2,3,4,5,6,7,8,9,10,11] hS fun a hS=>?_;obtain⟨f,B,hM⟩:=bd hM;obtain⟨K,ak,c3,bb,S,U,V,W⟩:=bP (R:=aa) hS dM bZ 0 rfl 0 rfl B;obtain⟨n,rfl,D⟩:=S;replace hS:=hS.fS D;refine dy 12 (v:=pt K ak) rfl (by kernel_rfl) (by kernel_rfl) (by kernel_rfl) rfl hQ hS (W rfl rfl) rfl rfl rfl fun a hS=>?_;refine dy (l:=[]) 13 (v:=.agg (aE f n).toArray) rfl (by kernel_rfl) (by kernel_rfl) (by kernel_rfl) (by kernel_rfl) hQ hS (bp (k:=0) hS bZ 0 rfl U V rfl br (us:=(aE f n)) rfl rfl (fun h=>by cases h)) rfl rfl rfl fun a hS=>?_;refine gE [14,15,16,17] hS fun a hS=>?_;obtain⟨g,C,hM⟩:=bd hM;obtain⟨L,an,c4,bi,X,Y,Z,a0⟩:=bP (R:=aa) hS dM bZ 0 rfl 1 rfl C;obtain⟨o,rfl,E⟩:=X;replace hS:=hS.fS E;refine dy 18 (v:=pt L an) rfl (by kernel_rfl) (by kernel_rfl) (by kernel_rfl) rfl hQ hS (a0 rfl rfl) rfl rfl rfl fun a hS=>?_;refine dy (l:=[]) 19 (v:=.agg (aE g o).toArray) rfl (by kernel_rfl) (by kernel_rfl) (by kernel_rfl) (by kernel_rfl) hQ hS (bp (k:=0) hS bZ 0 rfl Y Z rfl br (us:=(aE g o)) rfl rfl (fun h=>by cases h)) rfl rfl rfl fun a hS=>?_;obtain⟨O,u,hM⟩:=bd hM;obtain⟨M,av,c5,bl,a1,a2,a3,a4⟩:=bP (R:=aa) hS dM bZ 0 rfl 2 rfl u;obtain⟨b1,rfl,F⟩:=a1;replace hS:=hS.fS F;refine dy 20 (v:=pt M av) rfl (by kernel_rfl) (by kernel_rfl) (by kernel_rfl) rfl hQ hS (a4 rfl rfl) rfl rfl rfl fun a hS=>?_;refine e1 21 (fW (R:=aa) (k:=0) (cs:=(aE O b1)) (us:=(aE f n)) (x':=f) hS rfl rfl rfl bZ 0 rfl 3 rfl a2 a3 u (⟨_,rfl,(hS.get 0 rfl)⟩) rfl rfl (⟨_,rfl,(hS.get 2 rfl)⟩) fun bs w hk hS=>⟨jl rfl hk im,?_⟩);obtain⟨P,x,hM⟩:=bd hM;obtain⟨N,b0,c6,bt,a5,a9,af,ag⟩:=bP (R:=aa) hS dM bZ 0 rfl 0 rfl x;obtain⟨b2,rfl,G⟩:=a5;replace hS:=hS.fS G;refine dy 22 (v:=pt N b0) rfl (by kernel_rfl) (by kernel_rfl) (by kernel_rfl) rfl hQ hS (ag rfl rfl) rfl rfl rfl fun a hS=>?_;refine e1 23 (fW (R:=aa) (k:=0) (cs:=(aE P b2)) (us:=(aE g o)) (x':=g) hS rfl rfl rfl bZ 0 rfl 1 rfl a9 af x (⟨_,rfl,(hS.get 0 rfl)⟩) rfl rfl (⟨_,rfl,(hS.get 3 rfl)⟩) fun bF w hk hS=>⟨jl rfl hk im,?_⟩);refine eD ?_;exact fz
  exact fz
 rintro a w ⟨m,d,hS,hM⟩;unfold tg at hM;refine Ab ?_;cases hM
 refine aH hS Tryz.results146 aF ?_;have hZ:=hS.sl [0] [0];exact⟨d,rfl,hZ.dnew,(hZ.get 0 rfl)⟩
def qN (c:Int) (d:ab→ab→Option Int) (e:LR) (b:Int):Option LR:=(mc d e (IntKind.i64.wrap (c-b)) c b).bind fun f=>some (f)
def kV (e:Int) (f:ab→ab→Option Int) (d:LR) (b:Int) (c:Int):Option (Fl (LR×Int×Int) (LR×Int)):=cond (b != c) (cond (decide (c<b)) ((mc f d (IntKind.i64.wrap (e-b)) e c).bind fun g=>some (.go (g,IntKind.i64.wrap (b-c),c))) ((mc f d (IntKind.i64.wrap (e-b)) (IntKind.i64.wrap ((IntKind.i64.wrap (e+c))-b)) b).bind fun h=>some (.go (h,b,IntKind.i64.wrap (c-b))))) (some (.out (d,b)))
def zn (c:ab→ab→Option Int) (d:LR) (e:Int) (b:Int) (f:Int):Option LR:=(loop (fun s:LR×Int×Int=>kV b c s.1 s.2.1 s.2.2) (d,IntKind.i64.wrap (b-e),IntKind.i64.wrap (f-b))).bind fun r=>qN b c r.1 r.2
theorem Hq (T:Nat→Prop) (W0:World) (hT:TW T W0) (cmp_g:Nat) (i:aU aQ cmp_g=true) (cmp_k:bh) (cmp_P:bQ) (e:ab→ab→Option Int) (l:∀ (T:Nat→Prop) (W0:World) (hT:TW T W0) (hLv:dx T W0) (hP:cmp_P.p T W0) (L:ab) (M:ab) (C:Value) (S:aD ac T W0 C L.Reads) (D:Value) (U:aD ac T W0 D M.Reads) (y:Int) (hM:e L M=some y),bc aQ No cmp_g ([.agg (aE L C).toArray,.agg (aE M D).toArray]++cmp_k) W0 (fun v w'=>v=aj y)) (o:LR) (A:Int) (b:Int) (B:Int) (g:Value) (dR:bh) (hD:vL T W0 [ae g dR]) (O:aB aa (dT T [ae g dR]) W0 dR o) (hLv:dx (dT T [ae g dR]) W0) (hPcmp_:cmp_P.p (dT T [ae g dR]) W0) (y:LR) (hM:zn e o A b B=some y):bc aQ (MD [ae g dR]) 126 [g,aj A,aj b,aj B,.func (.func cmp_g) #[] cmp_k.toArray] W0 (fun v w'=>∃ (jT:bh),v = .tuple #[]∧nO W0 w' [ae g dR] [ae g jT]∧aB aa (dT T [ae g jT]) w' jT y):=by
 refine gg (c:=_) Tryz.func126 rfl T 58 Tryz.ntmps126 hT rfl hD fun a hS=>?_;replace hS:=((hS.fact cmp_P hPcmp_).fact bu hLv).fR O;unfold zn at hM;refine al hS fun a hS=>?_;refine aJ (J:=fun a w=>∃ (k:LR) (j:Int) (m:LV),St W0 (MD [ae g dR]) T 58 [(0,g),(2,aj b),(4,.func (.func cmp_g) #[] cmp_k.toArray),(10,aj j)] [ae g m] [ao aa m k,bu,cmp_P] a w∧qN b e k j=some y) ?_ ?_
 ·skip;refine al hS fun a hS=>?_;obtain⟨Y,N,hMo1⟩:=bd hM;refine bB _ (fun s a w=>∃ (f:LR) (d:Int) (h:Int) (n:LV),(f,d,h)=s∧St W0 (MD [ae g dR]) T 58 [(0,g),(2,aj b),(4,.func (.func cmp_g) #[] cmp_k.toArray),(10,aj d),(11,aj h)] [ae g n] [ao aa n f,bu,cmp_P] a w) N ⟨_,_,_,_,rfl,hS.mt [0] [0,1,2]⟩ ?_;rintro s a w R ⟨f,d,h,n,rfl,hS⟩ hM hf1;have hM:kV b e f d h=some R:=hM;unfold kV at hM;refine aA ?_;refine al hS fun a hS=>?_;rcases cd hM with⟨F,hM⟩|⟨F,hM⟩
  ·refine al hS fun a hS=>?_;rcases cd hM with⟨G,hM⟩|⟨G,hM⟩
   ·refine al hS fun a hS=>?_;obtain⟨W,x,hM⟩:=bd hM;replace hS:=hS.re [0] [];refine wl rfl (bC hS Gj rfl rfl (t8 _ _ hS.dltD cmp_g i cmp_k cmp_P e l f (IntKind.i64.wrap (b-d)) b h _ _ hS.dok (hS.getD 0 rfl) (hS.getD 1 rfl) (hS.getD 2 rfl) _ x) fun _ w hR a hk hA=>?_);obtain⟨P,he,H,q⟩:=hR;obtain rfl:=he.symm;have hS:=hA _ H;replace hS:=hS.fR (q.keep (ai _ _) (au _));exact fz
   refine al hS fun a hS=>?_;obtain⟨X,z,hM⟩:=bd hM;replace hS:=hS.re [0] [];refine wl rfl (bC hS Gj rfl rfl (t8 _ _ hS.dltD cmp_g i cmp_k cmp_P e l f (IntKind.i64.wrap (b-d)) (IntKind.i64.wrap ((IntKind.i64.wrap (b+h))-d)) d _ _ hS.dok (hS.getD 0 rfl) (hS.getD 1 rfl) (hS.getD 2 rfl) _ z) fun _ w hR a hk hA=>?_);obtain⟨Q,he,I,r⟩:=hR;obtain rfl:=he.symm;have hS:=hA _ I;replace hS:=hS.fR (r.keep (ai _ _) (au _));exact fz
  refine al hS fun a hS=>?_;cases hM
  have hr:=hf1 _ rfl;subst hr;have hM:qN b e f d=some y:=hMo1;exact⟨_,_,_,hS.mt [0] [0,1,2],hM⟩
 rintro a w ⟨k,j,m,hS,hM⟩;unfold qN at hM;refine al hS fun a hS=>?_;obtain⟨V,u,hM⟩:=bd hM;replace hS:=hS.re [0] [];refine wl rfl (bC hS Gj rfl rfl (t8 _ _ hS.dltD cmp_g i cmp_k cmp_P e l k (IntKind.i64.wrap (b-j)) b j _ _ hS.dok (hS.getD 0 rfl) (hS.getD 1 rfl) (hS.getD 2 rfl) _ u) fun _ w hR a hk hA=>?_);obtain⟨E,he,K,t⟩:=hR;obtain rfl:=he.symm;have hS:=hA _ K;replace hS:=hS.fR (t.keep (ai _ _) (au _));refine al hS fun a hS=>?_;refine Ab ?_;cases hM
 refine aH hS Tryz.results126 aF ?_;have hZ:=hS.sl [0] [0];exact⟨E,rfl,hZ.dnew,(hZ.get 0 rfl)⟩
def zr (srec:(ab→ab→Option Int)→LR→Int→Int→Int→Option LR):Prop:=∀ (T:Nat→Prop) (W0:World) (hT:∀ k,T k→k<W0.heap.size) (x4_g:Nat) (o:aU aQ x4_g=true) (x4_k:bh) (x4_P:bQ) (n:ab→ab→Option Int) (t:∀ (T:Nat→Prop) (W0:World) (hT:∀ k,T k→k<W0.heap.size) (hLv:dx T W0) (hP:x4_P.p T W0) (d:ab) (e:ab) (g:Value) (q:aD ac T W0 g d.Reads) (h:Value) (r:aD ac T W0 h e.Reads) (y:Int) (hM:n d e=some y),bc aQ No x4_g ([.agg #[aj d.Key.Kind,a8 d.Key.Text,a8 d.Value,g,aj d.Changed,aj d.Verified,aj d.Cost,.bool d.Dirty],.agg #[aj e.Key.Kind,a8 e.Key.Text,a8 e.Value,h,aj e.Changed,aj e.Verified,aj e.Cost,.bool e.Dirty]]++x4_k) W0 (fun v w'=>v=aj y)) (i:LR) (j:Int) (l:Int) (m:Int) (c:Value) (b:bh) (hD:vL T W0 [.own c 33 aa.size b]) (s:aB aa (dT T [.own c 33 aa.size b]) W0 b i) (hLv:dx (dT T [.own c 33 aa.size b]) W0) (hPx4_:x4_P.p (dT T [.own c 33 aa.size b]) W0) (y:LR) (hM:srec n i j l m=some y),bc aQ (MD [.own c 33 aa.size b]) 103 [c,aj j,aj l,aj m,.func (.func x4_g) #[] x4_k.toArray] W0 (fun v w'=>∃ (f:bh),v = .tuple #[]∧nO W0 w' [.own c 33 aa.size b] [.own c 33 aa.size f]∧aB aa (dT T [.own c 33 aa.size f]) w' f y)
def nG (srec:(ab→ab→Option Int)→LR→Int→Int→Int→Option LR) (d:Int) (i:Int) (b:Int) (e:ab→ab→Option Int) (g:Int) (c:LR) (f:Bool):Option LR:=cond f ((srec e c (IntKind.i64.wrap (fC .u64 (IntKind.u64.wrap (IntKind.i64.wrap (d+b))) 1)) (IntKind.i64.wrap ((IntKind.i64.wrap ((IntKind.i64.wrap (fC .u64 (IntKind.u64.wrap (IntKind.i64.wrap (d+b))) 1))+i))-g)) b).bind fun h=>some (h)) (some (c))
def lJ (srec:(ab→ab→Option Int)→LR→Int→Int→Int→Option LR) (d:Int) (e:Int) (b:Int) (f:ab→ab→Option Int) (c:Int) (g:LR):Option LR:=cond (decide ((IntKind.i64.wrap (fC .u64 (IntKind.u64.wrap (IntKind.i64.wrap (d+b))) 1):Int)<(IntKind.i64.wrap ((IntKind.i64.wrap ((IntKind.i64.wrap (fC .u64 (IntKind.u64.wrap (IntKind.i64.wrap (d+b))) 1))+e))-c)))) (nG srec d e b f c g (decide ((IntKind.i64.wrap ((IntKind.i64.wrap ((IntKind.i64.wrap (fC .u64 (IntKind.u64.wrap (IntKind.i64.wrap (d+b))) 1))+e))-c):Int)<b))) (nG srec d e b f c g false)
def nH (srec:(ab→ab→Option Int)→LR→Int→Int→Int→Option LR) (d:Int) (g:Int) (e:Int) (b:ab→ab→Option Int) (c:Int) (f:LR) (h:Bool):Option LR:=cond h ((srec b f d c (IntKind.i64.wrap (fC .u64 (IntKind.u64.wrap (IntKind.i64.wrap (d+e))) 1))).bind fun i=>lJ srec d g e b c i) (lJ srec d g e b c f)
def lK (srec:(ab→ab→Option Int)→LR→Int→Int→Int→Option LR) (c:Int) (g:Int) (d:Int) (e:ab→ab→Option Int) (b:Int) (f:LR):Option LR:=cond (decide (c<b)) (nH srec c g d e b f (decide (b<(IntKind.i64.wrap (fC .u64 (IntKind.u64.wrap (IntKind.i64.wrap (c+d))) 1))))) (nH srec c g d e b f false)
def nI (srec:(ab→ab→Option Int)→LR→Int→Int→Int→Option LR) (d:LR) (f:Int) (e:Int) (g:Int) (c:ab→ab→Option Int) (b:Int) (h:Bool):Option LR:=cond h ((zn c d b e (IntKind.i64.wrap ((IntKind.i64.wrap ((IntKind.i64.wrap (fC .u64 (IntKind.u64.wrap (IntKind.i64.wrap (f+g))) 1))+e))-b))).bind fun i=>lK srec f e g c b i) (lK srec f e g c b d)
def nJ (srec:(ab→ab→Option Int)→LR→Int→Int→Int→Option LR) (d:LR) (e:Int) (c:Int) (f:Int) (g:ab→ab→Option Int) (b:Int):Option LR:=cond (decide (b<c)) (nI srec d e c f g b (decide (c<(IntKind.i64.wrap ((IntKind.i64.wrap ((IntKind.i64.wrap (fC .u64 (IntKind.u64.wrap (IntKind.i64.wrap (e+f))) 1))+c))-b))))) (nI srec d e c f g b false)
def lL (d:LR) (i:Int) (k:Int) (j:Int) (e:ab→ab→Option Int) (b:Int) (c:Int):Option (Fl (Int×Int) (Int)):=cond (decide (b<c)) ((bg d (IntKind.i64.wrap ((IntKind.i64.wrap ((IntKind.i64.wrap ((IntKind.i64.wrap (fC .u64 (IntKind.u64.wrap (IntKind.i64.wrap (i+j))) 1))+k))-1))-(IntKind.i64.wrap (fC .u64 (IntKind.u64.wrap (IntKind.i64.wrap (b+c))) 1))))).bind fun f=>(bg d (IntKind.i64.wrap (fC .u64 (IntKind.u64.wrap (IntKind.i64.wrap (b+c))) 1))).bind fun g=>(e f g).bind fun h=>cond (!(decide (h<0))) (some (.go (IntKind.i64.wrap ((IntKind.i64.wrap (fC .u64 (IntKind.u64.wrap (IntKind.i64.wrap (b+c))) 1))+1),c))) (some (.go (b,IntKind.i64.wrap (fC .u64 (IntKind.u64.wrap (IntKind.i64.wrap (b+c))) 1))))) (some (.out b))
def nK (srec:(ab→ab→Option Int)→LR→Int→Int→Int→Option LR) (b:LR) (d:Int) (f:Int) (e:Int) (c:ab→ab→Option Int) (h:Int) (g:Int):Option LR:=(loop (fun s:Int×Int=>lL b d f e c s.1 s.2) (h,g)).bind fun r=>nJ srec b d f e c r
def rU (srec:(ab→ab→Option Int)→LR→Int→Int→Int→Option LR) (e:LR) (b:Int) (d:Int) (c:Int) (f:ab→ab→Option Int):Option LR:=cond (decide ((IntKind.i64.wrap (fC .u64 (IntKind.u64.wrap (IntKind.i64.wrap (b+c))) 1):Int)<d)) (nK srec e b d c f (IntKind.i64.wrap ((IntKind.i64.wrap ((IntKind.i64.wrap (fC .u64 (IntKind.u64.wrap (IntKind.i64.wrap (b+c))) 1))+d))-c)) (IntKind.i64.wrap (fC .u64 (IntKind.u64.wrap (IntKind.i64.wrap (b+c))) 1))) (nK srec e b d c f b d)
def qz (b:LR):Option LR:=some (b)
def kk (f:Int) (c:LR) (b:Int):Option (Fl (LR×Int) (LR)):=cond (decide (f<b)) ((bg c (IntKind.i64.wrap (b-1))).bind fun d=>(bg c b).bind fun e=>(bg c b).bind fun g=>(bg (c.set (Int.toNat b) d) (IntKind.i64.wrap (b-1))).bind fun h=>some (.go (((c.set (Int.toNat b) d).set (Int.toNat (IntKind.i64.wrap (b-1))) e),IntKind.i64.wrap (b-1)))) (some (.out c))
def qA (b:LR) (d:Int) (c:Int):Option LR:=(loop (fun s:LR×Int=>kk c s.1 s.2) (b,d)).bind fun r=>qz r
def km (d:LR) (i:Int) (e:ab→ab→Option Int) (b:Int) (c:Int):Option (Fl (Int×Int) (Int)):=cond (decide (b<c)) ((bg d i).bind fun f=>(bg d (IntKind.i64.wrap (fC .u64 (IntKind.u64.wrap (IntKind.i64.wrap (b+c))) 1))).bind fun g=>(e f g).bind fun h=>cond (!(decide (h<0))) (some (.go (IntKind.i64.wrap ((IntKind.i64.wrap (fC .u64 (IntKind.u64.wrap (IntKind.i64.wrap (b+c))) 1))+1),c))) (some (.go (b,IntKind.i64.wrap (fC .u64 (IntKind.u64.wrap (IntKind.i64.wrap (b+c))) 1))))) (some (.out b))
def ot (srec:(ab→ab→Option Int)→LR→Int→Int→Int→Option LR) (b:LR) (e:Int) (c:Int) (f:Int) (d:ab→ab→Option Int):Option LR:=cond ((IntKind.i64.wrap (f-c):Int)==1) ((loop (fun s:Int×Int=>km b c d s.1 s.2) (e,c)).bind fun r=>qA b c r) (rU srec b e c f d)
def qB (b:LR):Option LR:=some (b)
def ko (f:Int) (c:LR) (b:Int):Option (Fl (LR×Int) (LR)):=cond (decide (b<(IntKind.i64.wrap (f-1)))) ((bg c (IntKind.i64.wrap (b+1))).bind fun d=>(bg c b).bind fun e=>(bg c b).bind fun g=>(bg (c.set (Int.toNat b) d) (IntKind.i64.wrap (b+1))).bind fun h=>some (.go (((c.set (Int.toNat b) d).set (Int.toNat (IntKind.i64.wrap (b+1))) e),IntKind.i64.wrap (b+1)))) (some (.out c))
def qC (b:LR) (d:Int) (c:Int):Option LR:=(loop (fun s:LR×Int=>ko c s.1 s.2) (b,d)).bind fun r=>qB r
def kp (d:LR) (i:Int) (e:ab→ab→Option Int) (b:Int) (c:Int):Option (Fl (Int×Int) (Int)):=cond (decide (b<c)) ((bg d (IntKind.i64.wrap (fC .u64 (IntKind.u64.wrap (IntKind.i64.wrap (b+c))) 1))).bind fun f=>(bg d i).bind fun g=>(e f g).bind fun h=>cond (decide (h<0)) (some (.go (IntKind.i64.wrap ((IntKind.i64.wrap (fC .u64 (IntKind.u64.wrap (IntKind.i64.wrap (b+c))) 1))+1),c))) (some (.go (b,IntKind.i64.wrap (fC .u64 (IntKind.u64.wrap (IntKind.i64.wrap (b+c))) 1))))) (some (.out b))
def lI (d:ab→ab→Option Int) (srec:(ab→ab→Option Int)→LR→Int→Int→Int→Option LR) (b:LR) (c:Int) (e:Int) (f:Int):Option LR:=cond ((IntKind.i64.wrap (e-c):Int)==1) ((loop (fun s:Int×Int=>kp b c d s.1 s.2) (e,f)).bind fun r=>qC b c r) (ot srec b c e f d)
theorem DY (T:Nat→Prop) (W0:World) (hT:TW T W0) (cmp_g:Nat) (m:aU aQ cmp_g=true) (cmp_k:bh) (cmp_P:bQ) (j:ab→ab→Option Int) (n:∀ (T:Nat→Prop) (W0:World) (hT:TW T W0) (hLv:dx T W0) (hP:cmp_P.p T W0) (x0:ab) (x1:ab) (ea:Value) (n2:aD ac T W0 ea x0.Reads) (eb:Value) (na:aD ac T W0 eb x1.Reads) (y:Int) (hM:j x0 x1=some y),bc aQ No cmp_g ([.agg (aE x0 ea).toArray,.agg (aE x1 eb).toArray]++cmp_k) W0 (fun v w'=>v=aj y)) (srec:(ab→ab→Option Int)→LR→Int→Int→Int→Option LR) (hsrec:zr srec) (f:LR) (b:Int) (g:Int) (d:Int) (e:Value) (dR:bh) (hD:vL T W0 [ae e dR]) (l1:aB aa (dT T [ae e dR]) W0 dR f) (hLv:dx (dT T [ae e dR]) W0) (hPcmp_:cmp_P.p (dT T [ae e dR]) W0) (y:LR) (hM:lI j srec f b g d=some y):bc aQ (MD [ae e dR]) 103 [e,aj b,aj g,aj d,.func (.func cmp_g) #[] cmp_k.toArray] W0 (fun v w'=>∃ (jT:bh),v = .tuple #[]∧nO W0 w' [ae e dR] [ae e jT]∧aB aa (dT T [ae e jT]) w' jT y):=by
 refine gg (c:=_) Tryz.func103 rfl T 220 Tryz.ntmps103 hT rfl hD fun a hS=>?_;replace hS:=((hS.fact cmp_P hPcmp_).fact bu hLv).fR l1;unfold lI at hM;refine aJ (J:=fun a w=>St W0 (MD [ae e dR]) T 220 [(0,e),(1,aj b),(2,aj g),(3,aj d),(4,.func (.func cmp_g) #[] cmp_k.toArray)] [ae e dR] [ao aa dR f,bu,cmp_P] a w∧ot srec f b g d j=some y) ?_ ?_
 ·skip;refine al hS fun a hS=>?_;rcases cd hM with⟨fr,hM⟩|⟨fr,hM⟩
  ·refine al hS fun a hS=>?_;refine aJ (J:=fun a w=>∃ (z:Int),St W0 (MD [ae e dR]) T 220 [(0,e),(1,aj b),(10,aj z)] [ae e dR] [ao aa dR f,bu,cmp_P] a w∧qC f b z=some y) ?_ ?_
   ·skip;refine al hS fun a hS=>?_;obtain⟨r1,o,hMo1⟩:=bd hM;refine bB _ (fun s a w=>∃ (L:Int) (N:Int),(L,N)=s∧St W0 (MD [ae e dR]) T 220 [(0,e),(1,aj b),(4,.func (.func cmp_g) #[] cmp_k.toArray),(10,aj L),(11,aj N)] [ae e dR] [ao aa dR f,bu,cmp_P] a w) o ⟨_,_,rfl,hS.mt [0] [0,1,2]⟩ ?_;rintro s a w I ⟨L,N,rfl,hS⟩ hM hf1;have hM:kp f b j L N=some I:=hM;unfold kp at hM;refine aA ?_;refine al hS fun a hS=>?_;rcases cd hM with⟨fs,hM⟩|⟨fs,hM⟩
    ·refine al hS fun a hS=>?_;refine qy hS (Di hS rfl rfl rfl) fun a hS=>?_;refine al hS fun a hS=>?_;refine aA ?_;refine dr [] hS fun w hQ hS=>?_;refine gE [0,1,2] hS fun a hS=>?_;obtain⟨a2,c9,hM⟩:=bd hM;obtain⟨ed,i5,nb,l2,fM,g0,g1,g2⟩:=bP (R:=aa) hS dM bZ 0 rfl 0 rfl c9;obtain⟨b9,rfl,d1⟩:=fM;replace hS:=hS.fS d1;refine dy 3 (v:=pt ed i5) rfl (by kernel_rfl) (by kernel_rfl) (by kernel_rfl) rfl hQ hS (g2 rfl rfl) rfl rfl rfl fun a hS=>?_;refine dy (l:=[]) 4 (v:=.agg (aE a2 b9).toArray) rfl (by kernel_rfl) (by kernel_rfl) (by kernel_rfl) (by kernel_rfl) hQ hS (bp (k:=0) hS bZ 0 rfl g0 g1 rfl br (us:=(aE a2 b9)) rfl rfl (fun h=>by cases h)) rfl rfl rfl fun a hS=>?_;refine gE [5,6] hS fun a hS=>?_;obtain⟨a3,ca,hM⟩:=bd hM;obtain⟨ek,i9,nd,l3,g3,g4,g5,g6⟩:=bP (R:=aa) hS dM bZ 0 rfl 1 rfl ca;obtain⟨bb,rfl,d2⟩:=g3;replace hS:=hS.fS d2;refine dy 7 (v:=pt ek i9) rfl (by kernel_rfl) (by kernel_rfl) (by kernel_rfl) rfl hQ hS (g6 rfl rfl) rfl rfl rfl fun a hS=>?_;refine dy (l:=[]) 8 (v:=.agg (aE a3 bb).toArray) rfl (by kernel_rfl) (by kernel_rfl) (by kernel_rfl) (by kernel_rfl) hQ hS (bp (k:=0) hS bZ 0 rfl g4 g5 rfl br (us:=(aE a3 bb)) rfl rfl (fun h=>by cases h)) rfl rfl rfl fun a hS=>?_;obtain⟨p2,d0,hM⟩:=bd hM;refine e1 9 (sU (cap:=cmp_k) hS rfl m rfl rfl (n _ _ hS.dlt (hS.get 3 rfl) (hS.get 4 rfl) a2 a3 _ (hS.get 1 rfl) _ (hS.get 0 rfl) _ d0) fun _ w hR a hk hA=>⟨eS (hk),?_⟩);obtain rfl:=hR;have hS:=bS hA;refine gE [10] hS fun a hS=>?_;refine eD ?_;exact fz
    exact fz
   rintro a w ⟨z,hS,hM⟩;unfold qC at hM;refine aJ (J:=fun a w=>∃ (X:LR) (A:LV),St W0 (MD [ae e dR]) T 220 [] [ae e A] [ao aa A X,bu,cmp_P] a w∧qB X=some y) ?_ ?_
   ·skip;refine al hS fun a hS=>?_;obtain⟨r1,o,hMo1⟩:=bd hM;refine bB _ (fun s a w=>∃ (D:LR) (P:Int) (U:LV),(D,P)=s∧St W0 (MD [ae e dR]) T 220 [(0,e),(10,aj z),(13,aj P)] [ae e U] [ao aa U D,bu,cmp_P] a w) o ⟨_,_,_,rfl,hS.mt [0] [0,1,2]⟩ ?_;rintro s a w I ⟨D,P,U,rfl,hS⟩ hM hf1;have hM:ko z D P=some I:=hM;unfold ko at hM;refine aA ?_;refine al hS fun a hS=>?_;rcases cd hM with⟨g7,hM⟩|⟨g7,hM⟩
    ·refine al hS fun a hS=>?_;refine aA ?_;refine al hS fun a hS=>?_;refine dr [(15,.blk (Value.ownBlock e)),(17,.blk (Value.ownBlock e))] hS fun w hQ hS=>?_;refine gE [0,1,2,3,4,5,6,7] hS fun a hS=>?_;obtain⟨G,c5,hM⟩:=bd hM;obtain⟨el,ib,ng,la,g8,gb,gi,gp⟩:=bP (R:=aa) hS dM bZ 0 rfl 0 rfl c5;obtain⟨ak,rfl,d3⟩:=g8;replace hS:=hS.fS d3;refine dy 8 (v:=pt el ib) rfl (by kernel_rfl) (by kernel_rfl) (by kernel_rfl) rfl hQ hS (gp rfl rfl) rfl rfl rfl fun a hS=>?_;refine dy (l:=[]) 9 (v:=.agg (aE G ak).toArray) rfl (by kernel_rfl) (by kernel_rfl) (by kernel_rfl) (by kernel_rfl) hQ hS (bp (k:=0) hS bZ 0 rfl gb gi rfl br (us:=(aE G ak)) rfl rfl (fun h=>by cases h)) rfl rfl rfl fun a hS=>?_;refine gE [10,11] hS fun a hS=>?_;obtain⟨H,c6,hM⟩:=bd hM;obtain⟨em,ih,nl,le,gs,gu,gx,gy⟩:=bP (R:=aa) hS dM bZ 0 rfl 1 rfl c6;obtain⟨an,rfl,d4⟩:=gs;replace hS:=hS.fS d4;refine dy 12 (v:=pt em ih) rfl (by kernel_rfl) (by kernel_rfl) (by kernel_rfl) rfl hQ hS (gy rfl rfl) rfl rfl rfl fun a hS=>?_;refine dy (l:=[]) 13 (v:=.agg (aE H an).toArray) rfl (by kernel_rfl) (by kernel_rfl) (by kernel_rfl) (by kernel_rfl) hQ hS (bp (k:=0) hS bZ 0 rfl gu gx rfl br (us:=(aE H an)) rfl rfl (fun h=>by cases h)) rfl rfl rfl fun a hS=>?_;obtain⟨fl,b3,hM⟩:=bd hM;obtain⟨ep,ii,nm,ll,h0,h1,h2,h3⟩:=bP (R:=aa) hS dM bZ 0 rfl 2 rfl b3;obtain⟨k5,rfl,d5⟩:=h0;replace hS:=hS.fS d5;refine dy 14 (v:=pt ep ii) rfl (by kernel_rfl) (by kernel_rfl) (by kernel_rfl) rfl hQ hS (h3 rfl rfl) rfl rfl rfl fun a hS=>?_;refine e1 15 (fW (R:=aa) (k:=0) (cs:=(aE fl k5)) (us:=(aE G ak)) (x':=G) hS rfl rfl rfl bZ 0 rfl 3 rfl h1 h2 b3 (⟨_,rfl,(hS.get 0 rfl)⟩) rfl rfl (⟨_,rfl,(hS.get 2 rfl)⟩) fun ls w hk hS=>⟨jl rfl hk im,?_⟩);obtain⟨fn,b4,hM⟩:=bd hM;obtain⟨eq,it,no,lt,h4,h5,h6,h7⟩:=bP (R:=aa) hS dM bZ 0 rfl 0 rfl b4;obtain⟨k6,rfl,d6⟩:=h4;replace hS:=hS.fS d6;refine dy 16 (v:=pt eq it) rfl (by kernel_rfl) (by kernel_rfl) (by kernel_rfl) rfl hQ hS (h7 rfl rfl) rfl rfl rfl fun a hS=>?_;refine e1 17 (fW (R:=aa) (k:=0) (cs:=(aE fn k6)) (us:=(aE H an)) (x':=H) hS rfl rfl rfl bZ 0 rfl 1 rfl h5 h6 b4 (⟨_,rfl,(hS.get 0 rfl)⟩) rfl rfl (⟨_,rfl,(hS.get 3 rfl)⟩) fun lv w hk hS=>⟨jl rfl hk im,?_⟩);refine eD ?_;exact fz
    exact fz
   rintro a w ⟨X,A,hS,hM⟩;unfold qB at hM;refine al hS fun a hS=>?_;cases hM
   refine aH hS Tryz.results103 aF ?_;have hZ:=hS.sl [0] [0];exact⟨A,rfl,hZ.dnew,(hZ.get 0 rfl)⟩
  exact fz
 rintro a w ⟨hS,hM⟩;unfold ot at hM;refine aJ (J:=fun a w=>St W0 (MD [ae e dR]) T 220 [(0,e),(1,aj b),(2,aj g),(3,aj d),(4,.func (.func cmp_g) #[] cmp_k.toArray)] [ae e dR] [ao aa dR f,bu,cmp_P] a w∧rU srec f b g d j=some y) ?_ ?_
 ·skip;refine al hS fun a hS=>?_;rcases cd hM with⟨h8,hM⟩|⟨h8,hM⟩
  ·refine al hS fun a hS=>?_;refine aJ (J:=fun a w=>∃ (x:Int),St W0 (MD [ae e dR]) T 220 [(0,e),(2,aj g),(14,aj x)] [ae e dR] [ao aa dR f,bu,cmp_P] a w∧qA f g x=some y) ?_ ?_
   ·skip;refine al hS fun a hS=>?_;obtain⟨r1,o,hMo1⟩:=bd hM;refine bB _ (fun s a w=>∃ (K:Int) (M:Int),(K,M)=s∧St W0 (MD [ae e dR]) T 220 [(0,e),(2,aj g),(4,.func (.func cmp_g) #[] cmp_k.toArray),(14,aj K),(15,aj M)] [ae e dR] [ao aa dR f,bu,cmp_P] a w) o ⟨_,_,rfl,hS.mt [0] [0,1,2]⟩ ?_;rintro s a w I ⟨K,M,rfl,hS⟩ hM hf1;have hM:km f g j K M=some I:=hM;unfold km at hM;refine aA ?_;refine al hS fun a hS=>?_;rcases cd hM with⟨h9,hM⟩|⟨h9,hM⟩
    ·refine al hS fun a hS=>?_;refine qy hS (Di hS rfl rfl rfl) fun a hS=>?_;refine al hS fun a hS=>?_;refine aA ?_;refine dr [] hS fun w hQ hS=>?_;refine gE [0,1,2] hS fun a hS=>?_;obtain⟨a0,c3,hM⟩:=bd hM;obtain⟨er,ja,np,lz,ha,hb,hc,hd⟩:=bP (R:=aa) hS dM bZ 0 rfl 0 rfl c3;obtain⟨bi,rfl,dl⟩:=ha;replace hS:=hS.fS dl;refine dy 3 (v:=pt er ja) rfl (by kernel_rfl) (by kernel_rfl) (by kernel_rfl) rfl hQ hS (hd rfl rfl) rfl rfl rfl fun a hS=>?_;refine dy (l:=[]) 4 (v:=.agg (aE a0 bi).toArray) rfl (by kernel_rfl) (by kernel_rfl) (by kernel_rfl) (by kernel_rfl) hQ hS (bp (k:=0) hS bZ 0 rfl hb hc rfl br (us:=(aE a0 bi)) rfl rfl (fun h=>by cases h)) rfl rfl rfl fun a hS=>?_;refine gE [5,6] hS fun a hS=>?_;obtain⟨a1,c4,hM⟩:=bd hM;obtain⟨et,jb,nX,m0,hf,hg,hh,hi⟩:=bP (R:=aa) hS dM bZ 0 rfl 1 rfl c4;obtain⟨bl,rfl,dn⟩:=hf;replace hS:=hS.fS dn;refine dy 7 (v:=pt et jb) rfl (by kernel_rfl) (by kernel_rfl) (by kernel_rfl) rfl hQ hS (hi rfl rfl) rfl rfl rfl fun a hS=>?_;refine dy (l:=[]) 8 (v:=.agg (aE a1 bl).toArray) rfl (by kernel_rfl) (by kernel_rfl) (by kernel_rfl) (by kernel_rfl) hQ hS (bp (k:=0) hS bZ 0 rfl hg hh rfl br (us:=(aE a1 bl)) rfl rfl (fun h=>by cases h)) rfl rfl rfl fun a hS=>?_;obtain⟨p1,cv,hM⟩:=bd hM;refine e1 9 (sU (cap:=cmp_k) hS rfl m rfl rfl (n _ _ hS.dlt (hS.get 3 rfl) (hS.get 4 rfl) a0 a1 _ (hS.get 1 rfl) _ (hS.get 0 rfl) _ cv) fun _ w hR a hk hA=>⟨eS (hk),?_⟩);obtain rfl:=hR;have hS:=bS hA;refine gE [10,11] hS fun a hS=>?_;refine eD ?_;exact fz
    exact fz
   rintro a w ⟨x,hS,hM⟩;unfold qA at hM;refine aJ (J:=fun a w=>∃ (W:LR) (B:LV),St W0 (MD [ae e dR]) T 220 [] [ae e B] [ao aa B W,bu,cmp_P] a w∧qz W=some y) ?_ ?_
   ·skip;refine al hS fun a hS=>?_;obtain⟨r1,o,hMo1⟩:=bd hM;refine bB _ (fun s a w=>∃ (C:LR) (O:Int) (V:LV),(C,O)=s∧St W0 (MD [ae e dR]) T 220 [(0,e),(14,aj x),(17,aj O)] [ae e V] [ao aa V C,bu,cmp_P] a w) o ⟨_,_,_,rfl,hS.mt [0] [0,1,2]⟩ ?_;rintro s a w I ⟨C,O,V,rfl,hS⟩ hM hf1;have hM:kk x C O=some I:=hM;unfold kk at hM;refine aA ?_;refine al hS fun a hS=>?_;rcases cd hM with⟨hj,hM⟩|⟨hj,hM⟩
    ·refine al hS fun a hS=>?_;refine aA ?_;refine al hS fun a hS=>?_;refine dr [(15,.blk (Value.ownBlock e)),(17,.blk (Value.ownBlock e))] hS fun w hQ hS=>?_;refine gE [0,1,2,3,4,5,6,7] hS fun a hS=>?_;obtain⟨E,c1,hM⟩:=bd hM;obtain⟨ew,js,o1,m1,hl,hm,hn,ho⟩:=bP (R:=aa) hS dM bZ 0 rfl 0 rfl c1;obtain⟨av,rfl,ds⟩:=hl;replace hS:=hS.fS ds;refine dy 8 (v:=pt ew js) rfl (by kernel_rfl) (by kernel_rfl) (by kernel_rfl) rfl hQ hS (ho rfl rfl) rfl rfl rfl fun a hS=>?_;refine dy (l:=[]) 9 (v:=.agg (aE E av).toArray) rfl (by kernel_rfl) (by kernel_rfl) (by kernel_rfl) (by kernel_rfl) hQ hS (bp (k:=0) hS bZ 0 rfl hm hn rfl br (us:=(aE E av)) rfl rfl (fun h=>by cases h)) rfl rfl rfl fun a hS=>?_;refine gE [10,11] hS fun a hS=>?_;obtain⟨F,c2,hM⟩:=bd hM;obtain⟨ex,k0,o2,m2,hp,hq,hr,hs⟩:=bP (R:=aa) hS dM bZ 0 rfl 1 rfl c2;obtain⟨b0,rfl,e0⟩:=hp;replace hS:=hS.fS e0;refine dy 12 (v:=pt ex k0) rfl (by kernel_rfl) (by kernel_rfl) (by kernel_rfl) rfl hQ hS (hs rfl rfl) rfl rfl rfl fun a hS=>?_;refine dy (l:=[]) 13 (v:=.agg (aE F b0).toArray) rfl (by kernel_rfl) (by kernel_rfl) (by kernel_rfl) (by kernel_rfl) hQ hS (bp (k:=0) hS bZ 0 rfl hq hr rfl br (us:=(aE F b0)) rfl rfl (fun h=>by cases h)) rfl rfl rfl fun a hS=>?_;obtain⟨f7,b1,hM⟩:=bd hM;obtain⟨ey,k1,o3,m3,ht,hu,hv,hw⟩:=bP (R:=aa) hS dM bZ 0 rfl 2 rfl b1;obtain⟨kl,rfl,e2⟩:=ht;replace hS:=hS.fS e2;refine dy 14 (v:=pt ey k1) rfl (by kernel_rfl) (by kernel_rfl) (by kernel_rfl) rfl hQ hS (hw rfl rfl) rfl rfl rfl fun a hS=>?_;refine e1 15 (fW (R:=aa) (k:=0) (cs:=(aE f7 kl)) (us:=(aE E av)) (x':=E) hS rfl rfl rfl bZ 0 rfl 3 rfl hu hv b1 (⟨_,rfl,(hS.get 0 rfl)⟩) rfl rfl (⟨_,rfl,(hS.get 2 rfl)⟩) fun m4 w hk hS=>⟨jl rfl hk im,?_⟩);obtain⟨fd,b2,hM⟩:=bd hM;obtain⟨f2,k2,of,md,hx,hy,hz,hB⟩:=bP (R:=aa) hS dM bZ 0 rfl 0 rfl b2;obtain⟨ks,rfl,e3⟩:=hx;replace hS:=hS.fS e3;refine dy 16 (v:=pt f2 k2) rfl (by kernel_rfl) (by kernel_rfl) (by kernel_rfl) rfl hQ hS (hB rfl rfl) rfl rfl rfl fun a hS=>?_;refine e1 17 (fW (R:=aa) (k:=0) (cs:=(aE fd ks)) (us:=(aE F b0)) (x':=F) hS rfl rfl rfl bZ 0 rfl 1 rfl hy hz b2 (⟨_,rfl,(hS.get 0 rfl)⟩) rfl rfl (⟨_,rfl,(hS.get 3 rfl)⟩) fun mk w hk hS=>⟨jl rfl hk im,?_⟩);refine eD ?_;exact fz
    exact fz
   rintro a w ⟨W,B,hS,hM⟩;unfold qz at hM;refine al hS fun a hS=>?_;cases hM
   refine aH hS Tryz.results103 aF ?_;have hZ:=hS.sl [0] [0];exact⟨B,rfl,hZ.dnew,(hZ.get 0 rfl)⟩
  exact fz
 rintro a w ⟨hS,hM⟩;unfold rU at hM;refine al hS fun a hS=>?_;refine qy hS (Di hS rfl rfl rfl) fun a hS=>?_;refine al hS fun a hS=>?_;refine aJ (J:=fun a w=>∃ (ag:Int) (af:Int),St W0 (MD [ae e dR]) T 220 [(0,e),(1,aj b),(2,aj g),(3,aj d),(4,.func (.func cmp_g) #[] cmp_k.toArray),(18,aj (IntKind.i64.wrap (fC .u64 (IntKind.u64.wrap (IntKind.i64.wrap (b+d))) 1))),(19,aj (IntKind.i64.wrap ((IntKind.i64.wrap (fC .u64 (IntKind.u64.wrap (IntKind.i64.wrap (b+d))) 1))+g))),(20,aj ag),(21,aj af)] [ae e dR] [ao aa dR f,bu,cmp_P] a w∧nK srec f b g d j ag af=some y) ?_ ?_
 ·exact fz
 rintro a w ⟨ag,af,hS,hM⟩;unfold nK at hM;refine al hS fun a hS=>?_;refine aJ (J:=fun a w=>∃ (i:Int),St W0 (MD [ae e dR]) T 220 [(0,e),(1,aj b),(2,aj g),(3,aj d),(4,.func (.func cmp_g) #[] cmp_k.toArray),(18,aj (IntKind.i64.wrap (fC .u64 (IntKind.u64.wrap (IntKind.i64.wrap (b+d))) 1))),(19,aj (IntKind.i64.wrap ((IntKind.i64.wrap (fC .u64 (IntKind.u64.wrap (IntKind.i64.wrap (b+d))) 1))+g))),(20,aj i)] [ae e dR] [ao aa dR f,bu,cmp_P] a w∧nJ srec f b g d j i=some y) ?_ ?_
 ·skip;refine al hS fun a hS=>?_;obtain⟨r1,o,hMo1⟩:=bd hM;refine bB _ (fun s a w=>∃ (S:Int) (Q:Int),(S,Q)=s∧St W0 (MD [ae e dR]) T 220 [(0,e),(1,aj b),(2,aj g),(3,aj d),(4,.func (.func cmp_g) #[] cmp_k.toArray),(18,aj (IntKind.i64.wrap (fC .u64 (IntKind.u64.wrap (IntKind.i64.wrap (b+d))) 1))),(19,aj (IntKind.i64.wrap ((IntKind.i64.wrap (fC .u64 (IntKind.u64.wrap (IntKind.i64.wrap (b+d))) 1))+g))),(20,aj S),(21,aj Q),(22,aj (IntKind.i64.wrap ((IntKind.i64.wrap ((IntKind.i64.wrap (fC .u64 (IntKind.u64.wrap (IntKind.i64.wrap (b+d))) 1))+g))-1)))] [ae e dR] [ao aa dR f,bu,cmp_P] a w) o ⟨_,_,rfl,hS.mt [0] [0,1,2]⟩ ?_;rintro s a w I ⟨S,Q,rfl,hS⟩ hM hf1;have hM:lL f b g d j S Q=some I:=hM;unfold lL at hM;refine aA ?_;refine al hS fun a hS=>?_;rcases cd hM with⟨hC,hM⟩|⟨hC,hM⟩
  ·refine al hS fun a hS=>?_;refine qy hS (Di hS rfl rfl rfl) fun a hS=>?_;refine al hS fun a hS=>?_;refine aA ?_;refine dr [] hS fun w hQ hS=>?_;refine gE [0,1,2,3,4] hS fun a hS=>?_;obtain⟨Y,bF,hM⟩:=bd hM;obtain⟨f3,k3,oi,ms,hE,hF,hG,hI⟩:=bP (R:=aa) hS dM bZ 0 rfl 0 rfl bF;obtain⟨bs,rfl,e4⟩:=hE;replace hS:=hS.fS e4;refine dy 5 (v:=pt f3 k3) rfl (by kernel_rfl) (by kernel_rfl) (by kernel_rfl) rfl hQ hS (hI rfl rfl) rfl rfl rfl fun a hS=>?_;refine dy (l:=[]) 6 (v:=.agg (aE Y bs).toArray) rfl (by kernel_rfl) (by kernel_rfl) (by kernel_rfl) (by kernel_rfl) hQ hS (bp (k:=0) hS bZ 0 rfl hF hG rfl br (us:=(aE Y bs)) rfl rfl (fun h=>by cases h)) rfl rfl rfl fun a hS=>?_;refine gE [7,8] hS fun a hS=>?_;obtain⟨Z,c0,hM⟩:=bd hM;obtain⟨f4,k4,oj,mv,hK,hN,hV,hW⟩:=bP (R:=aa) hS dM bZ 0 rfl 1 rfl c0;obtain⟨bt,rfl,e5⟩:=hK;replace hS:=hS.fS e5;refine dy 9 (v:=pt f4 k4) rfl (by kernel_rfl) (by kernel_rfl) (by kernel_rfl) rfl hQ hS (hW rfl rfl) rfl rfl rfl fun a hS=>?_;refine dy (l:=[]) 10 (v:=.agg (aE Z bt).toArray) rfl (by kernel_rfl) (by kernel_rfl) (by kernel_rfl) (by kernel_rfl) hQ hS (bp (k:=0) hS bZ 0 rfl hN hV rfl br (us:=(aE Z bt)) rfl rfl (fun h=>by cases h)) rfl rfl rfl fun a hS=>?_;obtain⟨p0,co,hM⟩:=bd hM;refine e1 11 (sU (cap:=cmp_k) hS rfl m rfl rfl (n _ _ hS.dlt (hS.get 3 rfl) (hS.get 4 rfl) Y Z _ (hS.get 1 rfl) _ (hS.get 0 rfl) _ co) fun _ w hR a hk hA=>⟨eS (hk),?_⟩);obtain rfl:=hR;have hS:=bS hA;refine gE [12,13] hS fun a hS=>?_;refine eD ?_;exact fz
  exact fz
 rintro a w ⟨i,hS,hM⟩;unfold nJ at hM;refine al hS fun a hS=>?_;refine aJ (J:=fun a w=>∃ (t:LR) (u:LV),St W0 (MD [ae e dR]) T 220 [(0,e),(1,aj b),(3,aj d),(4,.func (.func cmp_g) #[] cmp_k.toArray),(18,aj (IntKind.i64.wrap (fC .u64 (IntKind.u64.wrap (IntKind.i64.wrap (b+d))) 1))),(20,aj i),(24,aj (IntKind.i64.wrap ((IntKind.i64.wrap ((IntKind.i64.wrap (fC .u64 (IntKind.u64.wrap (IntKind.i64.wrap (b+d))) 1))+g))-i)))] [ae e u] [ao aa u t,bu,cmp_P] a w∧lK srec b g d j i t=some y) ?_ ?_
 ·skip;refine aJ (J:=fun a w=>∃ (a9:Bool),St W0 (MD [ae e dR]) T 220 [(0,e),(1,aj b),(2,aj g),(3,aj d),(4,.func (.func cmp_g) #[] cmp_k.toArray),(18,aj (IntKind.i64.wrap (fC .u64 (IntKind.u64.wrap (IntKind.i64.wrap (b+d))) 1))),(20,aj i),(24,aj (IntKind.i64.wrap ((IntKind.i64.wrap ((IntKind.i64.wrap (fC .u64 (IntKind.u64.wrap (IntKind.i64.wrap (b+d))) 1))+g))-i))),(185,.bool a9)] [ae e dR] [ao aa dR f,bu,cmp_P] a w∧nI srec f b g d j i a9=some y) ?_ ?_
  ·exact fz
  rintro a w ⟨a9,hS,hM⟩;unfold nI at hM;rcases cd hM with⟨hX,hM⟩|⟨hX,hM⟩
  ·refine al hS fun a hS=>?_;obtain⟨os,cl,hM⟩:=bd hM;replace hS:=hS.re [0] [];refine wl rfl (bC hS Mk rfl rfl (Hq _ _ hS.dltD cmp_g m cmp_k cmp_P j n f i g (IntKind.i64.wrap ((IntKind.i64.wrap ((IntKind.i64.wrap (fC .u64 (IntKind.u64.wrap (IntKind.i64.wrap (b+d))) 1))+g))-i)) _ _ hS.dok (hS.getD 0 rfl) (hS.getD 1 rfl) (hS.getD 2 rfl) _ cl) fun _ w hR a hk hA=>?_);obtain⟨n0,he,hY,b5⟩:=hR;obtain rfl:=he.symm;have hS:=hA _ hY;replace hS:=hS.fR (b5.keep (ai _ _) (au _));exact fz
  exact fz
 rintro a w ⟨t,u,hS,hM⟩;unfold lK at hM;refine aJ (J:=fun a w=>∃ (r:LR) (q:LV),St W0 (MD [ae e dR]) T 220 [(0,e),(3,aj d),(4,.func (.func cmp_g) #[] cmp_k.toArray),(18,aj (IntKind.i64.wrap (fC .u64 (IntKind.u64.wrap (IntKind.i64.wrap (b+d))) 1))),(24,aj (IntKind.i64.wrap ((IntKind.i64.wrap ((IntKind.i64.wrap (fC .u64 (IntKind.u64.wrap (IntKind.i64.wrap (b+d))) 1))+g))-i)))] [ae e q] [ao aa q r,bu,cmp_P] a w∧lJ srec b g d j i r=some y) ?_ ?_
 ·skip;refine aJ (J:=fun a w=>∃ (a5:Bool),St W0 (MD [ae e dR]) T 220 [(0,e),(1,aj b),(3,aj d),(4,.func (.func cmp_g) #[] cmp_k.toArray),(18,aj (IntKind.i64.wrap (fC .u64 (IntKind.u64.wrap (IntKind.i64.wrap (b+d))) 1))),(20,aj i),(24,aj (IntKind.i64.wrap ((IntKind.i64.wrap ((IntKind.i64.wrap (fC .u64 (IntKind.u64.wrap (IntKind.i64.wrap (b+d))) 1))+g))-i))),(199,.bool a5)] [ae e u] [ao aa u t,bu,cmp_P] a w∧nH srec b g d j i t a5=some y) ?_ ?_
  ·exact fz
  rintro a w ⟨a5,hS,hM⟩;unfold nH at hM;rcases cd hM with⟨i0,hM⟩|⟨i0,hM⟩
  ·refine al hS fun a hS=>?_;obtain⟨op,ck,hM⟩:=bd hM;replace hS:=hS.re [0] [];refine wl rfl (bC hS En rfl rfl (hsrec _ _ hS.dltD cmp_g m cmp_k cmp_P j n t b i (IntKind.i64.wrap (fC .u64 (IntKind.u64.wrap (IntKind.i64.wrap (b+d))) 1)) _ _ hS.dok (hS.getD 0 rfl) (hS.getD 1 rfl) (hS.getD 2 rfl) _ ck) fun _ w hR a hk hA=>?_);obtain⟨n1,he,i2,b6⟩:=hR;obtain rfl:=he.symm;have hS:=hA _ i2;replace hS:=hS.fR (b6.keep (ai _ _) (au _));exact fz
  exact fz
 rintro a w ⟨r,q,hS,hM⟩;unfold lJ at hM;refine aJ (J:=fun a w=>∃ (a4:Bool),St W0 (MD [ae e dR]) T 220 [(0,e),(3,aj d),(4,.func (.func cmp_g) #[] cmp_k.toArray),(18,aj (IntKind.i64.wrap (fC .u64 (IntKind.u64.wrap (IntKind.i64.wrap (b+d))) 1))),(24,aj (IntKind.i64.wrap ((IntKind.i64.wrap ((IntKind.i64.wrap (fC .u64 (IntKind.u64.wrap (IntKind.i64.wrap (b+d))) 1))+g))-i))),(213,.bool a4)] [ae e q] [ao aa q r,bu,cmp_P] a w∧nG srec b g d j i r a4=some y) ?_ ?_
 ·exact fz
 rintro a w ⟨a4,hS,hM⟩;unfold nG at hM;rcases cd hM with⟨i3,hM⟩|⟨i3,hM⟩
 ·refine al hS fun a hS=>?_;obtain⟨ok,ch,hM⟩:=bd hM;replace hS:=hS.re [0] [];refine wl rfl (bC hS En rfl rfl (hsrec _ _ hS.dltD cmp_g m cmp_k cmp_P j n r (IntKind.i64.wrap (fC .u64 (IntKind.u64.wrap (IntKind.i64.wrap (b+d))) 1)) (IntKind.i64.wrap ((IntKind.i64.wrap ((IntKind.i64.wrap (fC .u64 (IntKind.u64.wrap (IntKind.i64.wrap (b+d))) 1))+g))-i)) d _ _ hS.dok (hS.getD 0 rfl) (hS.getD 1 rfl) (hS.getD 2 rfl) _ ch) fun _ w hR a hk hA=>?_);obtain⟨f6,he,i4,b8⟩:=hR;obtain rfl:=he.symm;have hS:=hA _ i4;replace hS:=hS.fR (b8.keep (ai _ _) (au _));refine al hS fun a hS=>?_;refine Ab ?_;cases hM
  refine aH hS Tryz.results103 aF ?_;have hZ:=hS.sl [0] [0];exact⟨f6,rfl,hZ.dnew,(hZ.get 0 rfl)⟩
 refine al hS fun a hS=>?_;refine Ab ?_;cases hM
 refine aH hS Tryz.results103 aF ?_;have hZ:=hS.sl [0] [0];exact⟨q,rfl,hZ.dnew,(hZ.get 0 rfl)⟩
end
end
section
open Go.RowKit
noncomputable def Du:Nat→(ab→ab→Option Int)→List ab→Int→Int→Int→Option (List ab)
 | 0=>fun _ _ _ _ _=>none
 | f+1=>fun c=>lI c (Du f)
theorem HB:∀ f,zr (Du f)
 | 0=>by
  unfold zr
  intros
  rename_i hM;cases hM
 | f+1=>by
  have ih:=HB f;unfold zr;intro T W0 hT g hg k P c hc d a m b v cl hD hv hLv hP y hM;have hM:lI c (Du f) d a m b=some y:=hM;exact DY T W0 hT g hg k P c hc (Du f) ih d a m b v cl hD hv hLv hP y hM
noncomputable def sm:=Du 16
theorem NC:zr sm:=HB 16
end
end Go.Proofs.YtdcojaccpnabkaaGreatDoor
