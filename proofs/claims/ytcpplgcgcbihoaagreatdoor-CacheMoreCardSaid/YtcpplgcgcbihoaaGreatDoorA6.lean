/- Texts of the proof, joined (6). -/
import Derived.Test.YtcpplgcgcbihoaaGreatDoorA5
import Derived.Test.YtcpplgcgcbihoaaGreatDoorA1
import Derived.Test.YtcpplgcgcbihoaaGreatDoorA4
import Derived.Test.YtcpplgcgcbihoaaGreatDoorA2
import Derived.Test.YtcpplgcgcbihoaaGreatDoorA3
import Derived.Test.YtcpplgcgcbihoaaGreatDoorA0
import Derived.Test.YtcpplgcgcbihoaaGreatDoorRows
import Derived.ProofKit
import Derived.LaidMore
import Derived.LaidLaws
import Derived.MakeChecks
import Derived.Lib.LaidTab
import Derived.SizedLaws
import Derived.Deep.Slices
import Derived.Deep.Fields
import Derived.Lib.SmallJoins
import Derived.OpenShut
import GoSem.ClaimGoes
set_option linter.unusedVariables false
set_option linter.unusedSimpArgs false
set_option linter.unusedSectionVars false
namespace Go.Proofs.YtcpplgcgcbihoaaGreatDoor
open Go.RowKit
section
open Go.Lib hiding intOf
theorem I2 {s:List ae} (h:Rm s.length):oA s=some s:=by
 unfold oA Rm at *;rw [show bP (([]:List ae).length+s.length)=true from du (by simp; omega)]; rfl
theorem I3 {s:List au} (h:Rm s.length):oY s=some s:=by
 unfold oY Rm at *;rw [show bP (([]:List au).length+s.length)=true from du (by simp; omega)]; rfl
theorem EO {r:au} (h:Rm r.k.length):ol r=some r:=by
 unfold ol;rw [I2 h]; rfl
theorem Ib {l:List au} (h:L7 l):oF l=some l:=by
 unfold oF;rw [I3 h.1,ax];refine iq (em (xs:=l) (fun k=>(l,(k:Int))) rfl (r:=l) (fun k x hx=>?_) ?_) rfl
 ·unfold lO;dsimp only;rw [m9 hx,cond_true,bx,hx,ax,EO (h.2 x (aO hx)),cH (by have:=aY hx; have:=h.1; unfold Rm at this; omega)];simp only [ax,oQ];rw [Lm hx]
 ·unfold lO;dsimp only;rw [bZ]; rfl
theorem Jh (k:ae):sQ k=some (ji k):=by
 unfold sQ o9 ph ji k6 kQ eu ly;have hb:∀ n:Int,((k.v:Int)==n)=decide (k.v=n):=fun n=>by rw [Bool.eq_iff_iff]; simp
 rw [hb,hb,hb,hb,hb];by_cases h32:k.v=32
 ·simp [h32]
 ·by_cases h7:k.v=7
  ·simp [h7]
  ·by_cases h14:k.v=14
   ·simp [h14]
   ·by_cases h17:k.v=17
    ·simp [h17]
    ·by_cases h18:k.v=18
     ·simp [h18]
     ·simp only [h32,h7,h14,h17,h18,decide_false,Bool.or_false,cond_false];cases decide ((1:Int)<=k.v) <;> cases decide ((k.v:Int)<=22) <;> rfl
section
variable {l:List aN} {b:ah}
theorem Kv {ins:List a7} (hl:Rm ins.length) (k:ae):cB (fun x0=>dE x0 k) ins=some (if ins.findIdx (fun x=>dt x.d k)<ins.length then (ins.findIdx (fun x=>dt x.d k):Int) else -1):=by
 unfold Rm at hl;unfold cB;have hgo:∀ (i:Nat) (x:a7),ins[i]? = some x->dt x.d k=false->ba ins (fun x0=>dE x0 k) (i:Int)=some (.go ((i+1:Nat):Int)):=fun i x hx hp=>by
  unfold ba;rw [m9 hx,cond_true,bx,hx,ax,cH (by have:=aY hx; omega)];show (some (dt x.d k)).bind _=_;rw [hp]; rfl
 have hy:∀ (i:Nat) (x:a7),ins[i]? = some x->dt x.d k=true->ba ins (fun x0=>dE x0 k) (i:Int)=some (.out (.out (i:Int))):=fun i x hx hp=>by
  unfold ba;rw [m9 hx,cond_true,bx,hx,ax];show (some (dt x.d k)).bind _=_;rw [hp]; rfl
 have hn:ba ins (fun x0=>dE x0 k) (ins.length:Int)=some (.out (.go ())):=by
  unfold ba;rw [bZ]; rfl
 have hlow:∀ i,i<ins.findIdx (fun x=>dt x.d k)->∀ x,ins[i]? = some x->dt x.d k=false:=fun i hi x hx=>by
  have h1:=HU hi;obtain⟨h2,h3⟩:=bS.1 hx;rw [<- h3];simpa using h1
 have hat:∀ x,ins[ins.findIdx (fun x=>dt x.d k)]? = some x->dt x.d k=true:=fun x hx=>by
  obtain⟨h2,h3⟩:=bS.1 hx;rw [<- h3];exact List.findIdx_getElem (p:=fun x:a7=>dt x.d k) (w:=h2)
 generalize ins.findIdx (fun x=>dt x.d k)=j at hlow hat;by_cases h:j<ins.length
 ·rw [if_pos h];have e:=bA h;have hlp:=tx (B:=fun s:Int=>ba ins (fun x0=>dE x0 k) s) (fun i=>(i:Int)) j (s0:=0) rfl (r:=Fl.out (j:Int)) (fun i hi=>hgo i _ (bA (show i<ins.length by omega)) (hlow i hi _ (bA (show i<ins.length by omega)))) (hy j _ e (hat _ e));rw [hlp]; rfl
 ·rw [if_neg h];have hlp:=tx (B:=fun s:Int=>ba ins (fun x0=>dE x0 k) s) (fun i=>(i:Int)) ins.length (s0:=0) rfl (r:=Fl.go ()) (fun i hi=>hgo i _ (bA hi) (hlow i (by omega) _ (bA hi))) hn;rw [hlp]; rfl
theorem HC (hb:Rm b.i.length) (k:ae):Ok (nL b k) fun x=>x.u=(nr b k).u/\x.a=(nr b k).a:=by
 unfold nL;refine aH (Kv hb k) ?_;unfold nr;by_cases h:b.i.findIdx (fun x=>dt x.d k)<b.i.length
 ·have e:=bA h;rw [if_pos h,decide_eq_false (by omega),cond_false];refine aH (by rw [bx]; exact e) (ai ?_);rw [List.find?_eq_getElem?_findIdx,e];exact⟨rfl,rfl⟩
 ·rw [if_neg h,show decide ((-1:Int)<0)=true from rfl,cond_true,List.find?_eq_getElem?_findIdx,uQ (by omega)];exact ai ⟨rfl,rfl⟩
theorem OM (hb:Rm b.i.length) (k:ae):pM b k=some (nr b k).u:=by
 unfold pM;obtain⟨x,e,h,_⟩:=HC hb k;rw [e,ax,h]
theorem MF {f:ae->Option Bool} {s:List ae} (hl:Rm s.length) (h:∀ x∈s,f x=some false):np f s=some false:=by
 unfold Rm at hl;have e:sJ f s=some (-1):=by
  unfold sJ;refine iq (db (r:=Fl.go ()) s.length (fun k O=>?_) ?_) rfl
  ·unfold nu;rw [dlt O,cond_true,bm O,ax,h _ (dR O),cH (by omega)]; rfl
  ·unfold nu;rw [bZ]; rfl
 unfold np;rw [e]; rfl
theorem MG {f:au->Option Bool} {s:List au} (hl:Rm s.length) (h:∀ x∈s,f x=some false):ce f s=some false:=by
 unfold Rm at hl;have e:nw f s=some (-1):=by
  unfold nw;refine iq (db (r:=Fl.go ()) s.length (fun k O=>?_) ?_) rfl
  ·unfold jE;rw [dlt O,cond_true,bm O,ax,h _ (dR O),cH (by omega)]; rfl
  ·unfold jE;rw [bZ]; rfl
 unfold ce;rw [e]; rfl
theorem wY {n:Nat} (h:n<100):ff (rk l n)=some true:=by
 unfold rk;exact LE (by split <;> simp) h
theorem As {n:Nat} (h:n<100):ff (bJ n)=some true:=KH h
theorem EI (k:ae):qd k=cu k:=rfl
theorem fP.kvalid (hl:l.length<=8) {k:ae} (h:fP l k):ff k=some true:=by
 rcases h with⟨c,hc,rfl⟩|⟨n,hn,rfl⟩
 ·exact As (by omega)
 ·exact wY (by omega)
theorem K8 (hl:l.length<=8) {rev:Int} (hrev:rev<=1000000) {r:au} (h:tZ l rev r):pi r=some true:=by
 obtain⟨n,hn,O⟩:=h.key;have h3:=h.reads;have h4:=h.value;have h5:=h.low;have h6:=h.mid;have h7:=h.high;have h8:=h.cost;have hj:dD r false=some true:=by
  unfold dD;rw [cond_false,decide_eq_true (by omega),decide_eq_true (by omega),decide_eq_true (by omega),decide_eq_true (by omega),decide_eq_true (by omega)];simp only [cond_true];rw [MF (by unfold Rm; omega) fun x hx=>by unfold lP; rw [(h.good x hx).kvalid hl]; rfl]; rfl
 unfold pi;rw [O,wY (by omega),ax,EI,k5,ax,decide_eq_false (by omega),decide_eq_false (by omega)];simp only [dC,cond_false];cases hd:r.w with
 | false=>exact hj
 | true =>
  have:=h.dirty hd;rw [O] at this;rw [cond_true,Jh,this];exact hj
theorem ON (h:dF l b) (hl:l.length<=8):jL b.s=some true:=by
 have hn:=h.nrec;unfold jL;refine iq (db (r:=Fl.go ()) b.s.length (fun k O=>?_) ?_) ?_
 ·unfold gq;rw [dlt O,cond_true,bm O,ax,K8 hl h.rev.2 (h.recs _ (dR O)),ax];have hj:dN (k:Int) false=some (.go ((k+1:Nat):Int)):=by unfold dN; rw [cH (by omega)]; rfl
  simp only [dC,cond_false];rcases yd k with h0 | h0
  ·subst h0;exact hj
  ·rw [decide_eq_true (by omega),cond_true,show IntKind.i64.wrap ((k:Int)-1)=((k-1:Nat):Int) by rw [qq (by omega) (by omega)]; omega,bm (show k-1<b.s.length by omega),ax,Hi,ax];have:=eI.1 h.recsA (k-1) k (by omega) O (by omega);rw [decide_eq_false (by omega)];exact hj
 ·unfold gq;rw [bZ]; rfl
 ·show some (decide ((b.s.length:Int)<=4000))=some true;rw [decide_eq_true (by omega)]
theorem Lc {c:Nat} (hc:c<100):mm (bJ c)=some true:=by
 unfold mm;rw [As hc,ax,cond_true,EI,ki]; rfl
theorem Ld (h:dF l b) (hl:l.length<=8):ml b=some true:=by
 have hn:=h.nrec;have hi:=h.nin;have hrev:=h.rev;unfold ml;rw [decide_eq_false (by omega),decide_eq_false (by omega),decide_eq_false (by omega),ON h hl];simp only [cond_false,ax,dC];refine iq (db (r:=Fl.go ()) b.i.length (fun k O=>?_) ?_) ?_
 ·have hx:=h.ins _ (dR O);obtain⟨c,hc,hkey⟩:=hx.key;have h1:=hx.value;have h2:=hx.low;have h3:=hx.high;unfold jc;rw [dlt O,cond_true,bm O,ax,hkey,Lc (by omega),ax];have hj:cG (k:Int) false=some (.go ((k+1:Nat):Int)):=by unfold cG; rw [cH (by omega)]; rfl
  simp only [dC,cond_false];rw [decide_eq_false (show ¬ (1073741824:Int)<(b.i[k].u.size:Int) by omega),decide_eq_false (show ¬ (b.i[k].a:Int)<0 by omega),decide_eq_false (show ¬ (b.r:Int)<b.i[k].a by omega)];rcases yd k with h0 | h0
  ·subst h0;exact hj
  ·rw [decide_eq_true (by omega),cond_true,show IntKind.i64.wrap ((k:Int)-1)=((k-1:Nat):Int) by rw [qq (by omega) (by omega)]; omega,bm (show k-1<b.i.length by omega),ax,Hi,ax];have:=eI.1 h.insA (k-1) k (by omega) O (by omega);rw [hkey] at this;rw [decide_eq_false (by omega)];exact hj
 ·unfold jc;rw [bZ]; rfl
 ·show ja b=some true;unfold ja;rw [MG (by unfold Rm; omega) fun x hx=>by unfold j5; rw [decide_eq_false (by have:=(h.recs x hx).high; omega)]]; rfl
theorem MO (h:dF l b) (hl:l.length<=8):nK b=some b:=by
 have hi:=h.nin;unfold nK dp;rw [du (by simp; omega),Ib (h.rm hl).1];simp [gd]
end
end
section
open Go.Lib hiding intOf
section
variable {l:List aN} {x y:aq}
theorem eU.reads (C:aV l) (h:eU l x):x.k.length<=3/\∀ r∈x.k,fP l r.d/\0<=r.d1.k1/\r.d1.k1<=8/\0<=r.d1.v1/\r.d1.v1<18446744073709551616:=by
 obtain⟨inp,n,r,hi,hn,e1,e2,e3⟩:=h.right;have ha:=(C.each n _ hn).asks;rw [e3];refine⟨by rw [m5,yX (bX _)]; omega,fun q hq=>?_⟩;obtain⟨k,O,rfl⟩:=fG.1 hq;have hg:=EP C hn O;have h8:=Rh C hi hg;have hlt:=(fN c0 (vK l inp k).toList).isLt;refine⟨hg,?_,?_,?_,?_⟩
 ·show (0:Int)<=((vK l inp k).size:Int); omega
 ·show ((vK l inp k).size:Int)<=8; omega
 ·show (0:Int)<=((fN c0 (vK l inp k).toList).toNat:Int); omega
 ·show ((fN c0 (vK l inp k).toList).toNat:Int)<18446744073709551616; omega
theorem eU.key (h:eU l x):∃ n,n<l.length/\x.d=rk l n:=by
 obtain⟨inp,n,r,hi,hn,e1,_⟩:=h.right;exact⟨n,aY hn,e1⟩
theorem eU.value (C:aV l) (h:eU l x):x.u.size<=8:=by
 obtain⟨inp,n,r,hi,hn,e1,e2,_⟩:=h.right;rw [e2]; exact Pg C (aY hn)
theorem Dl (C:aV l) (h:eU l x):dO x=some true:=by
 have hl:=C.high;obtain⟨h1,h2⟩:=h.reads C;obtain⟨n,hn,e⟩:=h.key;have hv:=h.value C;have hc:=h.cost;unfold dO;rw [db (r:=Fl.go ()) x.k.length (fun k O=>by
  obtain⟨g1,g2,_⟩:=h2 _ (dR O);unfold eG;rw [dlt O,cond_true,bm O,ax,g1.valid hl,ax,dC,cond_false,decide_eq_false (by omega),cond_false,cH (by omega)]) (by
  unfold eG; rw [bZ]; rfl),ax]
 show eF x=_;unfold eF cQ;rw [e,B9 (by omega),k5,ax,cond_true,ax,nO,cond_true,decide_eq_true (by omega),decide_eq_true (by omega),decide_eq_true (by omega)]; rfl
theorem I6 (C:aV l) (h:eU l x):o5 x=some true:=by
 have hl:=C.high;obtain⟨h1,h2⟩:=h.reads C;obtain⟨n,hn,e⟩:=h.key;have hv:=h.value C;have hc:=h.cost;unfold o5;rw [db (r:=Fl.go ()) x.k.length (fun k O=>by
  obtain⟨g1,g2,_⟩:=h2 _ (dR O);unfold kN;rw [dlt O,cond_true,bm O,ax,g1.kvalid hl,ax,dC,cond_false,decide_eq_false (by omega),cond_false,cH (by omega)]) (by
  unfold kN; rw [bZ]; rfl),ax]
 show kM x=_;unfold kM eM;rw [e,wY (by omega),EI,k5,ax,cond_true,ax,nO,cond_true,decide_eq_true (by omega),decide_eq_true (by omega),decide_eq_true (by omega)]; rfl
theorem Kq (C:aV l) {xs:List aq} (hn:xs.length<=1000) (h:∀ x∈xs,eU l x):jC xs=some true:=by
 unfold jC;rw [db (r:=Fl.go ()) xs.length (fun k O=>by
  unfold ge;rw [dlt O,cond_true,bm O,ax,I6 C (h _ (dR O)),ax,dC,cond_false,cH (by omega)]) (by
  unfold ge; rw [bZ]; rfl),ax]
 rfl
theorem Bh (n:Int):Ok (iV n) fun s=>s.size=8:=by
 unfold iV;refine bz (fun (k:Nat) (s:(List Int)×Int)=>k<=8/\s.1.length=k/\s.2=56-8*k) (fun r=>r.length=8) 8 ⟨bT _,rfl,rfl⟩ ?_ (fun r hr=>?_)
 ·rintro k ⟨b,s⟩ O ⟨_,h1,rfl⟩;dsimp only at h1 ⊢;unfold nY;refine aE (fun h=>?_) (fun h=>ai ?_)
  ·have h:=of_decide_eq_true h;have hw:IntKind.u64.wrap (56-8*(k:Int))=56-8*(k:Int):=by
    rw [show 56-8*(k:Int)=((56-8*k:Nat):Int) by omega,IF (by omega)]
   refine bY (decide_eq_true (by rw [hw]; omega)) (bY (du (by simp; omega)) (ai ⟨by omega,by omega,by simp [h1],?_⟩));show IntKind.i64.wrap (56-8*(k:Int)-8)=56-8*((k+1:Nat):Int);rw [qq (by omega) (by omega)]; omega
  ·have:=of_decide_eq_false h;show b.length=8;omega
 ·unfold nX;refine ai ?_;unfold JD;simp [ByteArray.size,hr]
theorem KV (n:Int):Ok (mT n) fun s=>s.size=8:=by
 unfold mT;exact aD (Bh _) fun s hs=>ai hs
theorem mp {n:Nat} (h:n<=1000000):Nat.ble n 140737488355328=true:=E1 (by omega)
theorem Lu {s:ByteArray} (h:s.size<=1000):Ok (sm s) fun y=>y.size=8+s.size:=by
 unfold sm;exact aD (Bh _) fun u hu=>bY (mp (by omega)) (ai (by rw [tG,hu]))
theorem Jb (hl:l.length<=8) {k:ae} (h:fP l k):k.x.size<=8:=by
 rcases h with⟨c,hc,rfl⟩|⟨n,hn,rfl⟩
 ·exact EF (n:=c) (by omega)
 ·exact EF (n:=n) (by omega)
theorem DB (hl:l.length<=8) {k:ae} (h:fP l k):Ok (sj k) fun y=>y.size<=24:=by
 have:=Jb hl h;unfold sj;refine aD (KV _) fun u hu=>aD (Lu (by omega)) fun v hv=>bY (mp (by omega)) (ai (by rw [tG]; omega))
theorem Ds (d:aT):Ok (oJ d) fun y=>y.size=16:=by
 unfold oJ;refine aD (Bh _) fun u hu=>aD (Bh _) fun v hv=>bY (mp (by omega)) (ai (by rw [tG]; omega))
theorem MQ {s:ByteArray} (h:s.size<=100000):Ok (s9 s) fun y=>y.size=s.size+16:=by
 unfold s9;exact aH (DO (s:=s) (by omega)) (aD (Ds _) fun u hu=>bY (mp (by omega)) (ai (by rw [tG]; omega)))
theorem DJ (C:aV l) (h:eU l x):Ok (iM [x]) fun _=>True:=by
 have hl:=C.high;obtain⟨h1,h2⟩:=h.reads C;obtain⟨n,hn,e⟩:=h.key;have hv:=h.value C;have hg:fP l x.d:=.inr ⟨n,hn,e⟩;unfold iM;rw [decide_eq_false (by simp),cond_false];refine aD (KV _) fun u hu=>aD (KV _) fun v hv2=>bY (mp (by omega)) ?_;refine bz (fun (k:Nat) (s:ByteArray×Int)=>s.2=k/\s.1.size<=1000*(k+1)) (fun r=>∃ s:ByteArray,r = .go s/\s.size<=5000) 1 ⟨rfl,by rw [tG]; omega⟩ ?_ ?_
 ·rintro k ⟨s,i⟩ O ⟨rfl,hs⟩;dsimp only at hs ⊢;unfold kC;refine aE (fun hlt=>?_) (fun _=>ai ⟨s,rfl,by omega⟩);have hlt:k<[x].length:=by have:=of_decide_eq_true hlt; omega
  obtain rfl:k=0:=by simp at hlt; omega
  refine aH (bm hlt) ?_;show Ok ((dO x).bind _) _;refine aH (Dl C h) ?_;simp only [dC,cond_false];refine aD (DB hl hg) fun u2 hu2=>aD (KV _) fun u3 hu3=>bY (mp (by omega)) (bY (mp (by rw [tG]; omega)) ?_);refine bz (fun (j:Nat) (t:ByteArray×Int)=>t.2=j/\t.1.size<=1100+50*j) (fun t=>t.size<=1400) x.k.length ⟨rfl,by rw [tG,tG]; omega⟩ ?_ ?_
  ·rintro j ⟨t,i⟩ hj ⟨rfl,ht⟩;dsimp only at ht ⊢;unfold kz;refine aE (fun hlt2=>?_) (fun _=>ai (by show t.size<=1400; omega));have hlt2:j<x.k.length:=by have h9:(j:Int)<(x.k.length:Int):=of_decide_eq_true hlt2; omega
   obtain⟨g1,_⟩:=h2 _ (dR hlt2);refine aH (bm hlt2) (aD (DB hl g1) fun a ha=>aD (Ds _) fun c hc=>bY (mp (by omega)) (bY (mp (by rw [tG]; omega)) (ai ⟨hlt2,cH (by omega),?_⟩)));show (t++(a++c)).size<=_;rw [tG,tG]; omega
  ·intro t ht;unfold kx kw;refine aD (Lu (s:=x.u) (by omega)) fun a ha=>aD (KV _) fun c hc=>bY (mp (by omega)) (bY (mp (by rw [tG]; omega)) (ai ⟨by omega,rfl,?_⟩));show (t++(a++c)).size<=_;rw [tG,tG]; omega
 ·rintro r ⟨s,rfl,hs⟩;show Ok (il s) _;unfold il;exact aD (MQ (by omega)) fun _ _=>ai trivial
theorem Dm (C:aV l) (hx:eU l x) (hy:eU l y):Ok (so x y) fun _=>True:=by
 unfold so;refine aH (oP _ _) (aE (fun _=>ai trivial) (fun _=>aD (DJ C hx) fun u _=>aD (DJ C hy) fun v _=>?_));exact aH (v:=Lib.compareBytes u.toList v.toList) rfl (ai trivial)
theorem Fu {xs:List aq} (hn:xs.length<=1000) (h:∀ x∈xs,x.k.length<=1000):gv xs=some xs:=by
 unfold gv;rw [show loop (fun s:(List aq)×Int=>dL xs s.1 s.2) (([]:List aq),0)=some xs from
  em (xs:=xs) (fun k=>(xs.take k,(k:Int))) rfl (fun k x hx=>by
   have O:=aY hx;dsimp only;unfold dL;have h1:=h x (aO hx);rw [dlt O,cond_true,bx,hx,ax,du (by simp; omega),du (by simp; omega)];simp only [gd,cond_true,vH];rw [cH (by omega),bV hx]) (by
   dsimp only;unfold dL;rw [bZ,cond_false,gz]),ax]
 rfl
theorem KP (C:aV l) {a b:List aq} (ha:∀ x∈a,eU l x) (hb:∀ x∈b,eU l x) (hn:a.length+b.length<=500):Ok (rv a b) fun y=>y.1.length<=a.length+b.length/\(∀ x∈y.1,eU l x):=by
 have hab:∀ x∈a++b,eU l x:=fun x hx=>by
  rcases cD.1 hx with hx | hx
  ·exact ha x hx
  ·exact hb x hx
 have hlen:(a++b).length<=500:=by rw [cS]; exact hn
 unfold rv;refine bY (du (by simp; omega)) (bY (du (by simp; omega)) ?_);refine aH (v:=Fl.go ()) (db (r:=Fl.go ()) (a++b).length (fun k O=>?_) ?_) ?_
 ·unfold mi;simp only [vH];rw [dlt O,cond_true,bm O,ax,Dl C (hab _ (dR O)),ax,dC,cond_false,cH (by omega)]
 ·unfold mi;simp only [vH];rw [bZ]; rfl
 show Ok (mh a b) _;unfold mh;refine bY (du (by simp; omega)) (bY (du (by simp; omega)) ?_);refine bz (fun (k:Nat) (s:(List aq)×Int)=>s.2=k/\s.1.length<=k/\∀ x∈s.1,eU l x) (fun r=>r.length<=(a++b).length/\∀ x∈r,eU l x) (a++b).length ⟨rfl,bX _,fun x hx=>absurd hx cJ⟩ ?_ ?_
 ·rintro k ⟨o,i⟩ O ⟨rfl,h2,h3⟩;dsimp only at h2 h3 ⊢;unfold pL;simp only [vH];refine aE (fun hlt=>?_) (fun _=>ai ⟨by show o.length<=_; omega,h3⟩);have hlt:k<(a++b).length:=by have:=of_decide_eq_true hlt; omega
  have hx:=hab _ (dR hlt);refine aH (bm hlt) ?_;refine bz (fun (j:Nat) (s:Int)=>s=j/\j<=o.length) (fun r=>∃ j:Nat,r=j/\j<=o.length) o.length ⟨rfl,bT _⟩ ?_ ?_
  ·rintro j s hj ⟨rfl,hj2⟩;unfold pK;refine aE (fun hlt2=>?_) (fun _=>ai ⟨j,rfl,hj2⟩);have hlt2:j<o.length:=by have:=of_decide_eq_true hlt2; omega
   refine aH (bm hlt2) (aD (Dm C (h3 _ (dR hlt2)) hx) fun u _=>aE (fun _=>ai ⟨hlt2,cH (by omega),hlt2⟩) (fun _=>ai ⟨j,rfl,hj2⟩))
  ·rintro r ⟨j,rfl,hj⟩;have hj3:∀ q,Ok (j4 o (k:Int) (a++b)[k] (j:Int) q) fun r=>match r with
     | .go s'=>k<(a++b).length/\(s'.2=((k+1:Nat):Int)/\s'.1.length<=k+1/\∀ x∈s'.1,eU l x)
     | .out r=>r.length<=(a++b).length/\∀ x∈r,eU l x:=fun q=>by
    unfold j4 mg;refine aE (fun _=>?_) (fun _=>ai ⟨hlt,cH (by omega),by show o.length<=k+1; omega,h3⟩);refine aH (qo hj) (aH (vA hj) ?_);refine bY (du (by simp; omega)) (bY (du (by simp; omega)) (bY (du (by simp; omega)) (ai ⟨hlt,cH (by omega),by simp; omega,fun x hm=>?_⟩)));rcases cD.1 hm with hm | hm
    ·rcases cD.1 hm with hm | hm
     ·exact h3 x (List.mem_of_mem_take (by simpa using hm))
     ·rw [bK.1 hm]; exact hx
    ·exact h3 x (GT hm)
   unfold pJ;refine aE (fun _=>(hj3 _).mono fun y hy=>by cases y <;> exact hy) (fun hne=>?_);have hlt2:j<o.length:=by
    have:((j:Int)==(o.length:Int))=false:=hne;have h5:(j:Int)≠(o.length:Int):=by simpa using this
    omega
   exact aH (bm hlt2) (aD (Dm C (h3 _ (dR hlt2)) hx) fun u _=>(hj3 _).mono fun y hy=>by cases y <;> exact hy)
 ·rintro r ⟨hr,hr2⟩;unfold pI;rw [cS] at hr;rw [decide_eq_false (by omega),cond_false,Fu (by omega) fun x hx=>by have:=((hr2 x hx).reads C).1; omega];exact ai ⟨hr,hr2⟩
theorem yp (C:aV l) {b:ah} (hB:dF l b) (hH:zF l b) (hrev:b.r<=1000) {d:List Int} {i:Int} (hd:cx d i):Ok (jF ⟨d,i⟩ l b) fun y=>y.1.length<=24/\(∀ x∈y.1,eU l x)/\cx y.2.L y.2.r1:=by
 unfold jF;refine aD (dJ hd (by omega) (by omega)) fun y ⟨y1,y2,d1⟩=>?_;rw [qq (by omega) (by omega)];refine bz (fun (k:Nat) (s:(List aq)×Int×(List Int)×Int×Int×(List a7)×(List au))=>s.2.1=1+y.1-k/\0<=s.2.1/\s.1.length<=8*k/\(∀ x∈s.1,eU l x)/\cx s.2.2.1 s.2.2.2.1/\(dF l (ah.mk s.2.2.2.2.1 s.2.2.2.2.2.1 s.2.2.2.2.2.2)/\zF l (ah.mk s.2.2.2.2.1 s.2.2.2.2.2.1 s.2.2.2.2.2.2))/\s.2.2.2.2.1<=1000+k) (fun r=>r.1.length<=24/\(∀ x∈r.1,eU l x)/\cx r.2.1 r.2.2) 3 ⟨by simp,by show 0<=1+y.1; omega,by show 0<=_; omega,fun x hx=>absurd hx cJ,d1,⟨hB,hH⟩,by show b.r<=_; omega⟩ ?_ (fun r hr=>ai hr);rintro k ⟨o,c,d,i,rev,ins,recs⟩ O ⟨g1,g2,g3,g4,g5,⟨g6,⟨H,g7⟩⟩,g8⟩;dsimp only at g1 g2 g3 g4 g5 g6 g7 g8 ⊢;unfold lx;refine aE (fun hc=>?_) (fun _=>ai ⟨by show o.length<=24; omega,g4,g5⟩);have hc:=of_decide_eq_true hc;refine aD (yH C g5 (by omega) (by omega)) fun z ⟨z1,z2,d2⟩=>aD (tC C g6 g7 z1 z2) fun u hu=>aD (Hj C hu.lv.ok hu.vi) fun a ⟨a1,a2⟩=>aD (KP C g4 a2 (by omega)) fun m ⟨m1,m2⟩=>aD (uX d2 (by omega) (by omega)) fun w ⟨w1,w2,d3⟩=>?_;have hur:u.1.r=rev:=hu.lv.rev;refine aD (qO C hu.lv.ok ⟨H,hu.vi⟩ (by rw [hur]; omega) w1 (by omega)) fun v ⟨v1,v2,v3,_⟩=>?_;rw [hur] at v2;exact ai ⟨by omega,by show IntKind.i64.wrap (c-1)=_; rw [qq (by omega) (by omega)]; omega,by show 0<=IntKind.i64.wrap (c-1); rw [qq (by omega) (by omega)]; omega,by show m.1.length<=_; omega,m2,d3,⟨v1,v3⟩,by show v.1.r<=_; omega⟩
end
end
section
open Go.Lib hiding intOf
variable {i:Nat} {l:List aN}
theorem JF {n:Nat} (h:n<l.length) (hl:l.length<=1000000):uH l n=some (((blk (aZ l) n).1:Int),((blk (aZ l) n).2:Int)):=by
 unfold uH;rw [show decide ((n:Int)<0)=false by simp,show decide (((l.length:Int):Int)<=(n:Int))=false by simp; omega,bm h];simp only [cond_false,ax];have hr:=kZ h;cases hb:l[n].f with
 | false =>
  rw [hb] at hr;rw [uc hr,qq (by omega) (by omega)];rfl
 | true =>
  rw [hb] at hr;have h1:loop (fun s:Int=>mX l s) (n:Int)=some ((ZZ (aZ l) n:Nat):Int):=by
   refine wT (I:=fun k s=>∃ a:Nat,a+k=n/\s=(a:Int)/\ZZ (aZ l) a=ZZ (aZ l) n) _ n ?_ ?_ ⟨n,rfl,rfl,rfl⟩
   ·rintro k _ O ⟨a,ha,rfl,e⟩;unfold mX;obtain⟨c,rfl⟩:∃ c,a=c+1:=⟨a-1,by omega⟩;have hc:c<l.length:=by omega
    rw [show decide ((0:Int)<((c+1:Nat):Int))=true by simp <;> omega,qq (by omega) (by omega),show (((c+1:Nat):Int)-1)=(c:Int) by omega,bm hc];simp only [cond_true,ax];have hr2:=kZ hc;rw [Be,hr2] at e;cases hb2:l[c].f with
    | true=>rw [hb2,if_pos rfl] at e; exact .inl ⟨_,rfl,c,by omega,rfl,e⟩
    | false=>rw [hb2,if_neg (by simp)] at e; right; rw [<- e]; rfl
   ·rintro _ ⟨a,ha,rfl,e⟩;obtain rfl:a=0:=by omega
    unfold mX;rw [<- e]; rfl
  have h2:loop (fun s:Int=>mW l s) ((n+1:Nat):Int)=some ((FH (aZ l) ((aZ l).length-(n+1)) (n+1):Nat):Int):=by
   have hlen:(aZ l).length=l.length:=by simp [aZ]
   rw [hlen];refine wT (I:=fun k s=>∃ a:Nat,a=n+1+k/\a<=l.length/\s=(a:Int)/\FH (aZ l) (l.length-a) a=FH (aZ l) (l.length-(n+1)) (n+1)) _ (l.length-(n+1)) ?_ ?_ ⟨n+1,rfl,h,rfl,rfl⟩
   ·rintro k _ O ⟨a,ha,hal,rfl,e⟩;unfold mW;have hc:a<l.length:=by omega
    rw [show decide ((a:Int)<(l.length:Int))=true by simp; omega,bm hc,qq (by omega) (by omega)];simp only [cond_true,ax];have hr2:=kZ hc;rw [show l.length-a=(l.length-(a+1))+1 by omega] at e;rw [BH,hr2] at e;cases hb2:l[a].f with
    | true=>rw [hb2,if_pos rfl] at e; exact .inl ⟨_,rfl,a+1,by omega,by omega,by simp,e⟩
    | false=>rw [hb2,if_neg (by simp)] at e; right; rw [<- e]; rfl
   ·rintro _ ⟨a,ha,hal,rfl,e⟩;obtain rfl:a=l.length:=by omega
    unfold mW;rw [yh] at e;rw [<- e];simp [FH]
  simp only [dC,cond_false];rw [h1];simp only [ax];unfold r5 rZ;rw [qq (by omega) (by omega),show ((n:Int)+1)=((n+1:Nat):Int) by omega,h2];simp [blk,hr]
theorem Ci (h:i<l.length) (hl:l.length<=1000000) (cell:Bool) (n:Int):vC l (i:Int) cell n=some (BR (aZ l) i cell n):=by
 unfold vC BR;cases cell with
 | true =>
  rw [cond_true,cond_true];cases decide (0<=n) <;> rfl
 | false =>
  rw [cond_false,cond_false,JF h hl,ax];dsimp only;have hb:=G6 (rs:=aZ l) (n:=i) (by unfold aZ; simpa using h);have hr:=kZ h;rw [bm h,ax];unfold CJ;rw [hr];cases hg:l[i].f with
  | true =>
   rw [hg] at hr;rw [if_pos rfl];unfold mr;by_cases h0:0<=n
   ·rw [decide_eq_true h0];by_cases h1:n<((blk (aZ l) i).1:Int)
    ·rw [decide_eq_true h1,decide_eq_true (show n<((blk (aZ l) i).2:Int) by omega)]; rfl
    ·rw [decide_eq_false h1]; rfl
   ·rw [decide_eq_false h0]; rfl
  | false =>
   rw [hg] at hr;rw [if_neg (by simp),uc hr];unfold mr;cases decide (0<=n) <;> cases decide (n<(i:Int)) <;> rfl
theorem Le (h:i<l.length) (hl:l.length<=1000000) (a:dd) (first:Bool):uJ l (i:Int) a first=some (IT (aZ l) i l[i].f first a):=by
 unfold uJ IT kH;rw [bm h,Ci h hl,Ci h hl];simp only [ax];cases a.u1 <;> cases l[i].f <;> cases first <;> cases BR (aZ l) i a.b1 a.N <;> cases BR (aZ l) i a.b1 a.t1 <;> rfl
theorem Ly (h:i<l.length) (hl:O5 l):loop (fun s:Int=>jd l (i:Int) l[i] s) 0=some (cond (yq (aZ l) i l[i]) (Fl.go ()) (Fl.out false)):=by
 have U:=hl.2 _ (dR h);have hB:=hl.1;have hstep:∀ k,(O:k<l[i].c.length)->jd l (i:Int) l[i] (k:Int)=some (cond (CQ (aZ l) i l[i] k) (.out (.out false)) (.go ((k+1:Nat):Int))):=fun k O=>by
  unfold CQ;rw [bA O];dsimp only;unfold jd;rw [dlt O,cond_true,bm O,ax,Le h (by omega),ax,cH (by omega)];generalize IT (aZ l) i l[i].f (((k:Nat):Int)==0) l[i].c[k]=x;cases x <;> rfl
 have e:=vk (B:=fun s:Int=>jd l (i:Int) l[i] s) l[i].c.length (CQ (aZ l) i l[i]) (y:=Fl.out false) (r:=Fl.go ()) (fun k O hp=>by rw [hstep k O,hp]; rfl) (fun k O hp=>by rw [hstep k O,hp]; rfl) (by unfold jd; rw [bZ]; rfl);rw [e];unfold yq;cases (List.range l[i].c.length).any (CQ (aZ l) i l[i]) <;> rfl
theorem JG (hl:O5 l):uI l=some (Ak l):=by
 have hB:=hl.1;unfold uI Ak;by_cases h24:(24:Int)<(l.length:Int)
 ·rw [decide_eq_true h24,decide_eq_false (by omega)]; rfl
 rw [decide_eq_false h24,decide_eq_true (by omega),cond_false];have hstep:∀ k,(O:k<l.length)->kG l (k:Int)=some (cond (CR l k) (.out (.out false)) (.go ((k+1:Nat):Int))):=fun k O=>by
  have hj:∀ low high most,mY l (k:Int) l[k] low high most=some (cond (AL (aZ l) k l[k] low high most) (.go ((k+1:Nat):Int)) (.out (.out false))):=fun low high most=>by
   unfold mY AL;rw [Ly O hl];unfold r6;rw [cH (by omega)];cases decide ((6:Int)<(l[k].c.length:Int)) <;> cases decide (l[k].n<low) <;> cases decide (high<l[k].n) <;> cases decide (l[k].C<0) <;> cases decide (most<l[k].C) <;> cases yq (aZ l) k l[k] <;> rfl
  unfold CR;rw [bA O];dsimp only;unfold kG Gh;rw [dlt O,cond_true,bm O,ax,hj,hj];generalize AL (aZ l) k l[k] 1 4 999=x1;generalize AL (aZ l) k l[k] 5 5 65535=x2;generalize l[k].f=rg;cases rg <;> cases x1 <;> cases x2 <;> rfl
 rw [vk (B:=fun s:Int=>kG l s) l.length (CR l) (y:=Fl.out false) (r:=Fl.go ()) (fun k O hp=>by rw [hstep k O,hp]; rfl) (fun k O hp=>by rw [hstep k O,hp]; rfl) (by unfold kG; rw [bZ]; rfl)];cases (List.range l.length).any (CR l) <;> rfl
theorem DM (r:au) (k:ae):jM r k=some (cc r.d k):=by
 unfold jM;rw [Hi]; rfl
def below (l:List au) (k:ae):Nat:=(l.filter fun r=>decide (cc r.d k<0)).length
theorem Dn {l:List au} (h:Ec l) (k:ae):l=(l.filter fun r=>decide (cc r.d k<0))++(l.filter fun r=>decide (¬ cc r.d k<0)):=by
 induction l with
 | nil=>rfl
 | cons x r ih =>
  have h2:=ow.1 h;by_cases hx:cc x.d k<0
  ·rw [uP (by simpa using hx),rK (by simpa using hx),List.cons_append,<- ih h2.2]
  ·have e:(r.filter fun r=>decide (cc r.d k<0))=[]:=by
    rw [GN];intro y hy;have:=h2.1 y hy;simp only [decide_eq_true_eq];exact fun h=>hx (lI this h)
   have e2:(r.filter fun r=>decide (¬ cc r.d k<0))=r:=by
    rw [xF];intro y hy;simp only [decide_eq_true_eq];exact fun h=>hx (lI (h2.1 y hy) h)
   rw [rK (by simpa using hx),uP (by simpa using hx),e,e2]; rfl
theorem Fi (l:List au) (k:ae):below l k<=l.length:=Ea _ _
theorem IW {l:List au} (h:Ec l) (k:ae) {x:au} (hx:l[i]? = some x):cc x.d k<0↔i<below l k:=by
 have e:=Dn h k;constructor
 ·intro hc;refine Nat.lt_of_not_ge fun hi=>?_;rw [e,pQ hi] at hx;have:=(iC.1 (aO hx)).2;simp only [decide_eq_true_eq] at this;exact this hc
 ·intro hi;rw [e,m4 hi] at hx;have:=(iC.1 (aO hx)).2;simpa using this
theorem K4 {l:List au} (h:Ec l) (hl:Rm l.length) (k:ae):mK l k=some ((below l k:Int),match l[below l k]? with | some x=>cc x.d k==0 | none=>false):=by
 have hl':=hl;unfold Rm at hl;have hb:=Fi l k;have key:Ok (mK l k) fun r=>r=((below l k:Int),match l[below l k]? with | some x=>cc x.d k==0 | none=>false):=by
  unfold mK A9;refine aD (Q:=fun r=>r=((below l k:Int),match l[below l k]? with | some x=>cc x.d k==0 | none=>false)) ?_ fun v hv=>ai (by rw [hv]);refine bz (fun n s=>∃ i j:Nat,s=((i:Int),(j:Int))/\i<=below l k/\below l k<=j/\j<=l.length/\(j-i)+n<=l.length) (fun r=>r=(below l k:Int)) l.length ⟨0,l.length,rfl,bT _,hb,bX _,by omega⟩ (fun n s hn hI=>?_) (fun r hr=>?_)
  ·obtain⟨i,j,rfl,h1,h2,h3,h4⟩:=hI;unfold uV;dsimp only;by_cases hij:i<j
   ·rw [dlt hij,cond_true,OA (by omega) (by omega),bx];have hm:(i+j) / 2<l.length:=by omega
    rw [bA hm,ax,DM,ax];have hg:=IW h k (bA hm);by_cases hc:cc l[(i+j) / 2].d k<0
    ·rw [decide_eq_true hc,cond_true,cH (by omega)];have:=hg.1 hc;exact ai ⟨by omega,(i+j) / 2+1,j,rfl,by omega,h2,h3,by omega⟩
    ·rw [decide_eq_false hc,cond_false];have:¬ (i+j) / 2<below l k:=fun hh=>hc (hg.2 hh);exact ai ⟨by omega,i,(i+j) / 2,rfl,h1,by omega,by omega,by omega⟩
   ·rw [Hm hij,cond_false];exact ai (by rw [show i=below l k by omega])
  ·subst hr;unfold uU sw;by_cases hlt:below l k<l.length
   ·rw [dlt hlt,cond_true,bx,bA hlt,ax,DM,ax];exact ai rfl
   ·rw [Hm hlt,cond_false,uQ (by omega)];exact ai rfl
 obtain⟨r,e,rfl⟩:=key;exact e
theorem OJ {l:List au} {r:au} (h:Ec l) (hl:L7 l) (hr:Rm r.k.length):s3 l r=some (gp l r):=by
 have hl1:=hl.1;unfold Rm at hl1;unfold s3;rw [Ib hl,ax,K4 h hl.1,ax];dsimp only;have hs:=Dn h r.d;have hb:=Fi l r.d;obtain⟨L,hL⟩:∃ L,L=l.filter fun x=>decide (cc x.d r.d<0):=⟨_,rfl⟩;obtain⟨H,hH⟩:∃ H,H=l.filter fun x=>decide (¬ cc x.d r.d<0):=⟨_,rfl⟩;have hbl:below l r.d=L.length:=by rw [hL]; rfl
 rw [<- hL,<- hH] at hs;have hasc:Ec H:=by rw [hH]; exact GK _ h
 have hge:∀ x∈H,¬ cc x.d r.d<0:=fun x hx=>by rw [hH] at hx; simpa using (iC.1 hx).2
 have hgt:l.filter (fun x=>decide (0<cc x.d r.d))=H.filter fun x=>decide (0<cc x.d r.d):=by
  rw [hH,List.filter_filter];refine List.filter_congr fun x _=>?_;by_cases h0:0<cc x.d r.d
  ·simp [h0]; omega
  ·simp [h0]
 have e0:gp l r=L++r::H.filter fun x=>decide (0<cc x.d r.d):=by unfold gp; rw [hgt,hL]
 rw [e0];cases hHc:H with
 | nil =>
  have:l[below l r.d]? = none:=by rw [hbl,uQ]; rw [hs,hHc]; simp
  rw [this];dsimp only;rw [cond_false,EO hr,ax,hbl];have hn:L.length=l.length:=by rw [hs,hHc]; simp
  rw [show decide (0<=(L.length:Int))=true from decide_eq_true (by omega),show decide ((L.length:Int)<=(l.length:Int))=true from decide_eq_true (by omega),show bP (l.length+1)=true from du (by omega)];simp only [gd,cond_true,oQ];have hl2:l=L:=by rw [hs,hHc,xD]
  rw [hl2]; simp
 | cons x r2 =>
  have hx:l[below l r.d]? = some x:=by rw [hbl,hs,hHc]; simp
  have hle:L.length<=l.length:=by rw [hs]; simp
  rw [hx];dsimp only;have hasc2:=hasc;rw [hHc] at hasc2;have hr2:=(ow.1 hasc2).1;have hge':=hge x (by rw [hHc]; simp);have tl:(r2.filter fun x=>decide (0<cc x.d r.d))=r2:=by
   rw [xF];intro y hy;simp only [decide_eq_true_eq];have h1:=hr2 y hy;rw [o7];refine ny (b:=x.d) ?_ h1;intro hh;exact hge' hh
  by_cases h0:cc x.d r.d=0
  ·rw [h0,show ((0:Int)==0)=true from rfl,cond_true,EO hr,ax,bx,hx,ax,oQ,hbl,rK (by simp [h0]),tl];rw [hs,hHc];simp
  ·have hpos:0<cc x.d r.d:=by omega
   rw [show (cc x.d r.d==0)=false from by simpa using h0,cond_false,EO hr,ax,hbl,show decide (0<=(L.length:Int))=true from decide_eq_true (by omega),show decide ((L.length:Int)<=(l.length:Int))=true from decide_eq_true (by omega),show bP (l.length+1)=true from du (by omega)];simp only [gd,cond_true,oQ];rw [uP (by simpa using hpos),tl,hs,hHc];simp
end
section
set_option maxRecDepth 100000
set_option maxHeartbeats 4000000
variable (T:Nat->Prop) (L:World) (hT:TW T L)
include hT
noncomputable section
def sA (c:ah) (b:(List (ae×aT))):=some ((eb.mk c b))
def oV (b:Int) (c:(List (ae×aT))):Option (Fl (Int×(List (ae×aT))) ((List (ae×aT)))):=some (.go (IntKind.i64.wrap (b+1),c))
def oW (f:ah) (b:Int) (e:(List (ae×aT))):=cond (decide (b<(f.s.length:Int))) ((bu f.s b).bind fun c=>cond (c.t==f.r) ((p9 c.u).bind fun g=>oV b (dS aK c.d g e)) (oV b e)) (some (.out e))
def lD (b:ah):=(loop (fun s:Int×(List (ae×aT))=>oW b s.1 s.2) (0,([]:(List (ae×aT))))).bind fun r=>sA b r
theorem tL (e:ah) (l g:Value) (Z:aF ac T L l e.i) (a0:aF aa T L g e.s) (y:eb) (B:lD e=some y):bg aR No 103 [.agg (aU e l g).toArray] L (fun v w'=>∃ (v3 v4:Value) (G:Nat) (F:Array MapEntry) (E:Nat),v = .agg #[aj y.b.r,v3,v4,.map (some G)]/\aF ac (dT T [om G F E]) w' v3 y.b.i/\aF aa (dT T [om G F E]) w' v4 y.b.s/\N8 ad true bN true T L w' [om G F E] G F E y.z):=by
 refine en Tryz.func103 Tryz.ntmps103 hT fun a I=>?_;replace I:=(I.fS (aF.dn Z)).fS (aF.dn a0);unfold lD at B;refine kB I fun m af a w O I=>?_;refine ka I GU fun h ag a w O I=>?_;refine am I fun a I=>?_;refine wl rfl (qu ad true bN true I rfl fun f ak a w O I=>?_);refine qy I (bw (ps:=[(0,.tmp 6),(1,.tmp 7)]) I Q3 GU rfl (us:=[(aU e l g),[.map (some f)]]) ⟨rfl,⟨rfl,trivial⟩⟩ (ws:=[aj e.r,l,g,.map (some f)]) rfl) fun a I=>?_;refine ka I GU fun j ao a w O I=>?_;refine go I fun a w I=>?_;refine aM (J:=fun a w=>∃ (A:(List (ae×aT))) (n:AM) (p:Nat),St L No T 30 [(2,pt h 0),(3,pt j 0)] [.box h [aj 0,.slice none 0 0,.slice none 0 0,.map none] 164,om f n p,.box j [aj e.r,l,g,.map (some f)] 164] [aL ac l e.i,aL aa g e.s,gw ad true bN true n A] a w/\sA e A=some y) ?_ ?_
 ·refine am I fun a I=>?_;obtain⟨r1,Y,hMo1⟩:=bd B;refine bF _ (fun s a w=>∃ (k:Int) (o:(List (ae×aT))) (t:AM) (H:Nat),(k,o)=s/\St L No T 30 [(1,pt m 0),(2,pt h 0),(3,pt j 0),(10,g),(11,aj (e.s.length:Int)),(12,aj k)] [.box m (aU e l g) 25,.box h [aj 0,.slice none 0 0,.slice none 0 0,.map none] 164,om f t H,.box j [aj e.r,l,g,.map (some f)] 164] [aL aa g e.s,aL ac l e.i,gw ad true bN true t o] a w) Y ⟨_,_,_,_,rfl,I.mt [3,2,1,0] [1,2,0]⟩ ?_;rintro s a w X ⟨k,o,t,H,rfl,I⟩ B hf1;have B:oW e k o=some X:=B;unfold oW at B;refine am I fun a I=>?_;refine aC ?_;rcases cd B with⟨S,B⟩|⟨S,B⟩
  ·refine am I fun a I=>?_;refine aM (J:=fun a w=>∃ (D:(List (ae×aT))) (x:AM) (K:Nat),St L No T 30 [(1,pt m 0),(2,pt h 0),(3,pt j 0),(10,g),(11,aj (e.s.length:Int)),(12,aj k)] [.box m (aU e l g) 25,.box h [aj 0,.slice none 0 0,.slice none 0 0,.map none] 164,om f x K,.box j [aj e.r,l,g,.map (some f)] 164] [aL aa g e.s,aL ac l e.i,gw ad true bN true x D] a w/\oV k D=some X) ?_ ?_
   ·refine am I fun a I=>?_;obtain⟨q,N,B⟩:=bd B;refine wl rfl (bn (R:=aa) I mV j6 rfl rfl 0 rfl N rfl fun a3 b0 a5 V a I=>?_);obtain⟨b1,rfl,Q⟩:=V;replace I:=I.fS Q;refine kA I eJ fun a4 av a w O I=>?_;refine go I fun a w I=>?_;rcases cd B with⟨W,B⟩|⟨W,B⟩
    ·refine am I fun a I=>?_;refine dr [(7,.blk (some f))] I fun w hQ I=>?_;refine gE [0,1,2,3,4,5] I fun a I=>?_;obtain⟨M,P,B⟩:=bd B;refine ec 6 I J2 (wd _ _ I.dlt q.u _ P) fun _ w C a O U=>?_;obtain rfl:=C;have I:=eL U;refine e1 7 (sN I In c6 3 rfl 4 rfl (c:=(aX q.d)) (cv:=(oU M)) (key:=q.d) (val:=M) rfl rfl rfl rfl rfl fun ab a9 w O I=>⟨jf rfl O gB,?_⟩);refine eD ?_;exact fin
    exact fz
   rintro a w ⟨D,x,K,I,B⟩;unfold oV at B;exact fz
  exact fz
 rintro a w ⟨A,n,p,I,B⟩;unfold sA at B;refine go I fun a w I=>?_;cases B
 refine aG I rfl (rC 0 I) ?_;exact⟨l,g,f,n,p,rfl,(aF.up ⟨.inr (aO (i:=1) rfl),trivial⟩ I.g0),(aF.up ⟨.inr (aO (i:=1) rfl),trivial⟩ I.g1),I.retMap ⟨.inr (aO (i:=1) rfl),trivial⟩ 1 rfl 2 rfl⟩
def fK (d:(List (ae×aT))) (e:Bool) (b:Int) (c:Int):=some (((aT.mk b c),e,d))
def fL (d:eb) (f:ae) (e:aT) (g:Bool):=cond g ((pM d.b f).bind fun h=>(p9 h).bind fun c=>fK (dS aK f c d.z) true c.k1 c.v1) (fK d.z ((cF aK f d.z).isSome) e.k1 e.v1)
def jB (c:eb) (b:ae):=(some ((cF aK b c.z).getD (aT.mk (0:Int) (0:Int)))).bind fun d=>cond (!((cF aK b c.z).isSome)) ((qd b).bind fun e=>fL c b d e) (fL c b d false)
theorem ue (d:eb) (f:ae) (P Q:Value) (j:Nat) (e:Array MapEntry) (g:Nat) (hD:xH T L [om j e g]) (Y:bE ad true bN true (dT T [om j e g]) L e d.z) (Z:aF ac (dT T [om j e g]) L P d.b.i) (a0:aF aa (dT T [om j e g]) L Q d.b.s) (hLv:dh (dT T [om j e g]) L) (y:aT×Bool×(List (ae×aT))) (B:jB d f=some y):bg aR (MD [om j e g]) 148 [.agg #[aj d.b.r,P,Q,.map (some j)],.agg (aX f).toArray] L (fun v w'=>∃ (E:Array MapEntry) (R:Nat),v = .tuple #[.agg (oU y.1).toArray,.bool y.2.1]/\mx L w' [om j e g] [om j E R]/\bE ad true bN true (dT T [om j E R]) w' E y.2.2):=by
 refine fT (c:=_) Tryz.func148 rfl T 32 Tryz.ntmps148 hT rfl hD fun a I=>?_;replace I:=(((I.fact bH hLv).fS Z).fS a0).fM Y;unfold jB at B;refine kB I fun A a4 a w O I=>?_;refine kb I fun D a5 a w O I=>?_;refine ka I AU fun k a9 a w O I=>?_;refine am I fun a I=>?_;obtain⟨x,H,B⟩:=bd B;obtain⟨a1,S,V⟩:=jr I In c6 3 rfl 0 rfl (c:=(aX f)) (key:=f) rfl Rs (zc:=[aj 0,.int .u64 0]) (z0:=(aT.mk (0:Int) (0:Int))) rfl rfl H;obtain rfl:=S;refine wl rfl (ky (v:=.tuple #[.agg (oU x).toArray,.bool ((cF aK f d.z).isSome)]) I (V rfl rfl id) rfl rfl fun a I=>?_);refine kA I AU fun l ab a w O I=>?_;refine go I fun a w I=>?_;refine aM (J:=fun a w=>∃ (t:(List (ae×aT))) (u:Bool) (o:Int) (p:Int) (m:AM) (n:Nat),St L (MD [om j e g]) T 32 [(4,pt k 0),(6,pt l 0),(7,.bool u)] [om j m n,.box k [aj 0,.int .u64 0] 105,.box l [aj o,.int .u64 p] 105] [gw ad true bN true m t,bH] a w/\fK t u o p=some y) ?_ ?_
 ·refine aM (J:=fun a w=>∃ (q:Bool),St L (MD [om j e g]) T 32 [(2,pt A 0),(3,pt D 0),(4,pt k 0),(6,pt l 0),(7,.bool ((cF aK f d.z).isSome)),(20,.bool q)] [om j e g,.box A [aj d.b.r,P,Q,.map (some j)] 164,.box D (aX f) 30,.box k [aj 0,.int .u64 0] 105,.box l (oU x) 105] [gw ad true bN true e d.z,aL ac P d.b.i,aL aa Q d.b.s,bH] a w/\fL d f x q=some y) ?_ ?_
  ·refine am I fun a I=>?_;rcases cd B with⟨F,B⟩|⟨F,B⟩
   ·refine am I fun a I=>?_;obtain⟨af,N,B⟩:=bd B;refine wg I rfl rfl rfl F (bB I H7 rfl rfl (tw _ _ I.dlt f _ N) fun _ w C a O U=>?_);obtain rfl:=C;have I:=eL U;exact fz
   exact fz
  rintro a w ⟨q,I,B⟩;unfold fL at B;rcases cd B with⟨W,B⟩|⟨W,B⟩
  ·refine am I fun a I=>?_;obtain⟨X,K,B⟩:=bd B;refine kE I Qh (B6 _ _ I.dlt I.g3 d.b f _ _ I.g1 I.g2 _ K) fun w a I=>?_;obtain⟨G,M,B⟩:=bd B;refine kE I J2 (wd _ _ I.dlt X _ M) fun w a I=>?_;refine go I fun a w I=>?_;refine wl rfl (sN I In c6 0 rfl 0 rfl (c:=(aX f)) (cv:=(oU G)) (key:=f) (val:=G) rfl rfl rfl rfl rfl fun a3 a2 w O I=>?_);exact fz
  exact fz
 rintro a w ⟨t,u,o,p,m,n,I,B⟩;unfold fK at B;refine go I fun a w I=>?_;cases B
 refine aG I Tryz.results148 (bC I rfl 1 rfl N0 rfl (fun h=>by cases h) (aw I rfl aI)) ?_;have hZ:=I.sl [0] [0];exact⟨m,n,rfl,hZ.zd,hZ.g0⟩
def eV (c:(aT×Bool×(List (ae×aT)))) (b:Bool):Option (Bool×(List (ae×aT))):=some ((b,c.2.2))
def gV (c:cz) (e:eb):=(jB e c.d).bind fun b=>cond (!(b.2.1)) (eV b true) (eV b (!(b.1.k1==c.d1.k1&&b.1.v1==c.d1.v1)))
theorem vZ (k:cz) (f:eb) (u x:Value) (A g:Nat) (e:Array MapEntry) (h:Nat) (hD:xH T L [om g e h]) (H:bE ad true bN true (dT T [om g e h]) L e f.z) (K:aF ac (dT T [om g e h]) L u f.b.i) (M:aF aa (dT T [om g e h]) L x f.b.s) (G:(co A 0 [aj f.b.r,u,x,.map (some g)]).p (dT T [om g e h]) L) (hLv:dh (dT T [om g e h]) L) (y:Bool×(List (ae×aT))) (B:gV k f=some y):bg aR (MD [om g e h]) 162 [.agg (Pq k).toArray,pt A 0] L (fun v w'=>∃ (o:Array MapEntry) (E:Nat),v = .bool y.1/\mx L w' [om g e h] [om g o E]/\bE ad true bN true (dT T [om g o E]) w' o y.2):=by
 refine fT (c:=_) Tryz.func162 rfl T 21 Tryz.ntmps162 hT rfl hD fun a I=>?_;replace I:=((((I.fact (co A 0 [aj f.b.r,u,x,.map (some g)]) G).fact bH hLv).fS K).fS M).fM H;unfold gV at B;refine kB I fun N Q a w O I=>?_;refine am I fun a I=>?_;obtain⟨j,D,B⟩:=bd B;replace I:=I.re [1] [0];refine wl rfl (ci I Np rfl rfl (ue _ _ I.zt f k.d _ _ _ _ _ I.dok I.d0 I.d2 I.d1 I.d3 _ D) fun _ w C a O U=>?_);obtain⟨l,n,he,F,t⟩:=C;obtain rfl:=he.symm;have I:=U _ F;replace I:=I.fM (t.keep (al _ _) (ay _));refine kA I AU fun P R a w O I=>?_;refine go I fun a w I=>?_;refine aM (J:=fun a w=>∃ (m:Bool),St L (MD [om g e h]) T 21 [(3,.bool m)] [om g l n] [gw ad true bN true l j.2.2,aL ac u f.b.i,aL aa x f.b.s,co A 0 [aj f.b.r,u,x,.map (some g)],bH] a w/\eV j m=some y) ?_ ?_
 ·refine am I fun a I=>?_;rcases cd B with⟨q,B⟩|⟨q,B⟩
  ·exact fz
  refine am I fun a I=>?_;refine wg I rfl rfl rfl q (ky (v:=.bool (!(j.1.k1==k.d1.k1&&j.1.v1==k.d1.v1))) I (On I rfl rfl) rfl rfl fun a I=>?_);exact fz
 rintro a w ⟨m,I,B⟩;unfold eV at B;refine am I fun a I=>?_;cases B
 refine aG I rfl (aw I rfl aI) ?_;have hZ:=I.sl [0] [0];exact⟨l,n,rfl,hZ.zd,hZ.g0⟩
def sK (b:(List (ae×aT))):=some (((-1),b))
def o6 (f:(List cz)) (h:eb) (e:(List (ae×aT))) (c:Int):Option (Fl ((List (ae×aT))×Int) (Fl ((List (ae×aT))) (Int×(List (ae×aT))))):=cond (decide (c<(f.length:Int))) ((bu f c).bind fun g=>(gV g (eb.mk h.b e)).bind fun d=>cond d.1 (some (.out (.out (c,d.2)))) (some (.go (d.2,IntKind.i64.wrap (c+1))))) (some (.out (.go e)))
def qU (c:(List cz)) (b:eb):=(loop (fun s:(List (ae×aT))×Int=>o6 c b s.1 s.2) (b.z,0)).bind fun r=>Fl.el r (fun s=>sK s) (fun y=>some (y))
theorem C1 (n:(List cz)) (d:eb) (H u x:Value) (m e:Nat) (f:Array MapEntry) (g:Nat) (hD:xH T L [om e f g]) (X:bE ad true bN true (dT T [om e f g]) L f d.z) (Z:aF bQ (dT T [om e f g]) L H n) (a0:aF ac (dT T [om e f g]) L u d.b.i) (a1:aF aa (dT T [om e f g]) L x d.b.s) (W:(co m 0 [aj d.b.r,u,x,.map (some e)]).p (dT T [om e f g]) L) (hLv:dh (dT T [om e f g]) L) (y:Int×(List (ae×aT))) (B:qU n d=some y):bg aR (MD [om e f g]) 199 [H,.func (.func 162) #[] #[pt m 0]] L (fun v w'=>∃ (D:Array MapEntry) (A:Nat),v=aj y.1/\mx L w' [om e f g] [om e D A]/\bE ad true bN true (dT T [om e D A]) w' D y.2):=by
 refine fT (c:=_) Tryz.func199 rfl T 19 Tryz.ntmps199 hT rfl hD fun a I=>?_;replace I:=(((((I.fact (co m 0 [aj d.b.r,u,x,.map (some e)]) W).fact bH hLv).fS Z).fS a0).fS a1).fM X;unfold qU at B;refine am I fun a I=>?_;refine aM (J:=fun a w=>∃ (t:(List (ae×aT))) (j:AM) (o:Nat),St L (MD [om e f g]) T 19 [] [om e j o] [gw ad true bN true j t,aL ac u d.b.i,aL aa x d.b.s,co m 0 [aj d.b.r,u,x,.map (some e)],bH] a w/\sK t=some y) ?_ ?_
 ·refine am I fun a I=>?_;obtain⟨r1,Y,hMo1⟩:=bd B;refine bF _ (fun s a w=>∃ (h:(List (ae×aT))) (l:Int) (k:AM) (q:Nat),(h,l)=s/\St L (MD [om e f g]) T 19 [(0,H),(1,.func (.func 162) #[] #[pt m 0]),(7,aj (n.length:Int)),(8,aj l)] [om e k q] [gw ad true bN true k h,aL ac u d.b.i,aL aa x d.b.s,co m 0 [aj d.b.r,u,x,.map (some e)],aL bQ H n,bH] a w) Y ⟨_,_,_,_,rfl,I.mt [0] [0,2,1,5,3,4]⟩ ?_;rintro s a w f1 ⟨h,l,k,q,rfl,I⟩ B hf1;have B:o6 n d h l=some f1:=B;unfold o6 at B;refine am I fun a I=>?_;refine aC ?_;rcases cd B with⟨P,B⟩|⟨P,B⟩
  ·refine am I fun a I=>?_;refine aC ?_;refine am I fun a I=>?_;obtain⟨M,F,B⟩:=bd B;refine wl rfl (bn (R:=bQ) I Jy DW rfl rfl 4 rfl F rfl fun a2 a5 a3 Q a I=>?_);obtain rfl:=Q;refine am I fun a I=>?_;obtain⟨a9,G,B⟩:=bd B;replace I:=I.re [0] [];refine wl rfl (FN (D0:=[om e k q]) (Dr:=[]) (cap:=[pt m 0]) I rfl PY rfl rfl (vZ _ _ I.zt M (eb.mk d.b h) _ _ m _ _ _ I.dok I.d1 I.d2 I.d3 I.d4 I.d6 _ G) fun _ w C a O U=>?_);obtain⟨N,K,he,S,E⟩:=C;obtain rfl:=he.symm;have I:=U _ S;replace I:=I.fM (E.keep (al _ _) (ay _));refine am I fun a I=>?_;rcases cd B with⟨V,B⟩|⟨V,B⟩
   ·refine am I fun a I=>?_;cases B
    have hr:=hf1 _ rfl;subst hr;replace hMo1:=iE hMo1;have B:=hMo1;cases B
    refine aG I rfl (aw I rfl aI) ?_;have hZ:=I.sl [0] [0];exact⟨N,K,rfl,hZ.zd,hZ.g0⟩
   exact fz
  exact fz
 rintro a w ⟨t,j,o,I,B⟩;unfold sK at B;refine am I fun a I=>?_;cases B
 refine aG I rfl (aw I rfl aI) ?_;have hZ:=I.sl [0] [0];exact⟨j,o,rfl,hZ.zd,hZ.g0⟩
def qt (d:(List cz)) (c:eb):=(qU d c).bind fun b=>some ((decide ((0:Int)<=b.1),b.2))
theorem A0 (l:(List cz)) (g:eb) (H x A:Value) (m f:Nat) (d:Array MapEntry) (e:Nat) (hD:xH T L [om f d e]) (D:bE ad true bN true (dT T [om f d e]) L d g.z) (E:aF bQ (dT T [om f d e]) L H l) (F:aF ac (dT T [om f d e]) L x g.b.i) (G:aF aa (dT T [om f d e]) L A g.b.s) (u:(co m 0 [aj g.b.r,x,A,.map (some f)]).p (dT T [om f d e]) L) (hLv:dh (dT T [om f d e]) L) (y:Bool×(List (ae×aT))) (B:qt l g=some y):bg aR (MD [om f d e]) 161 [H,.func (.func 162) #[] #[pt m 0]] L (fun v w'=>∃ (j:Array MapEntry) (h:Nat),v = .bool y.1/\mx L w' [om f d e] [om f j h]/\bE ad true bN true (dT T [om f j h]) w' j y.2):=by
 refine fT (c:=_) Tryz.func161 rfl T 9 Tryz.ntmps161 hT rfl hD fun a I=>?_;replace I:=(((((I.fact (co m 0 [aj g.b.r,x,A,.map (some f)]) u).fact bH hLv).fS E).fS F).fS G).fM D;unfold qt at B;refine am I fun a I=>?_;obtain⟨J,n,B⟩:=bd B;replace I:=I.re [0] [];refine wl rfl (ci I Qk rfl rfl (C1 _ _ I.zt l g _ _ _ m _ _ _ I.dok I.d0 I.d3 I.d2 I.d1 I.d5 I.d4 _ n) fun _ w C a O U=>?_);obtain⟨q,o,he,t,k⟩:=C;obtain rfl:=he.symm;have I:=U _ t;replace I:=I.fM (k.keep (al _ _) (ay _));refine am I fun a I=>?_;cases B
 refine aG I rfl (aw I rfl aI) ?_;have hZ:=I.sl [0] [0];exact⟨q,o,rfl,hZ.zd,hZ.g0⟩
def gL (c:eb) (d:aq):=(qt d.k c).bind fun b=>some ((!(b.1),b.2))
theorem sx (g:eb) (h:aq) (E F G:Value) (f:Nat) (d:Array MapEntry) (e:Nat) (hD:xH T L [om f d e]) (u:bE ad true bN true (dT T [om f d e]) L d g.z) (x:aF ac (dT T [om f d e]) L E g.b.i) (A:aF aa (dT T [om f d e]) L F g.b.s) (D:aF bQ (dT T [om f d e]) L G h.k) (hLv:dh (dT T [om f d e]) L) (y:Bool×(List (ae×aT))) (B:gL g h=some y):bg aR (MD [om f d e]) 107 [.agg #[aj g.b.r,E,F,.map (some f)],.agg (bq h G).toArray] L (fun v w'=>∃ (l:Array MapEntry) (o:Nat),v = .bool y.1/\mx L w' [om f d e] [om f l o]/\bE ad true bN true (dT T [om f l o]) w' l y.2):=by
 refine fT (c:=_) Tryz.func107 rfl T 10 Tryz.ntmps107 hT rfl hD fun a I=>?_;replace I:=((((I.fact bH hLv).fS x).fS A).fS D).fM u;unfold gL at B;refine kB I fun j J a w O I=>?_;refine kb I fun H K a w O I=>?_;refine am I fun a I=>?_;replace I:=I.zx 1 rfl;refine qy I (zA (vs:=[pt j 0]) I rfl) fun a I=>?_;obtain⟨M,n,B⟩:=bd B;replace I:=I.re [1] [0];refine wl rfl (ci I PX rfl rfl (A0 _ _ I.zt h.k g _ _ _ j _ _ _ I.dok I.d1 I.d2 I.d4 I.d3 I.d0 I.d5 _ n) fun _ w C a O U=>?_);obtain⟨q,p,he,t,m⟩:=C;obtain rfl:=he.symm;have I:=U _ t;replace I:=I.fM (m.keep (al _ _) (ay _));refine am I fun a I=>?_;cases B
 refine aG I rfl (aw I rfl aI) ?_;have hZ:=I.sl [0] [0];exact⟨q,p,rfl,hZ.zd,hZ.g0⟩
def p8 (b:(List aq)):=some (b)
def jy (b:Int) (d:(List aq)) (c:(List (ae×aT))):Option (Fl ((List aq)×Int×(List (ae×aT))) ((List aq))):=some (.go (d,IntKind.i64.wrap (b+1),c))
def gJ (c:(List aq)) (e:Int) (b:au) (f:(List (ae×aT))) (g:(List cz)) (h:Bool):=cond h (gd (bP (c.length+([(aq.mk b.d g b.u b.j)]).length)) <| jy e (c++([(aq.mk b.d g b.u b.j)])) f) (jy e c f)
def jz (g:ah) (f:(List aq)) (d:Int) (b:au) (e:(List (ae×aT))) (c:(List cz)):=cond (b.t==g.r) (gJ f d b e c ((c.length:Int)==(b.k.length:Int))) (gJ f d b e c false)
def mA (b:Int) (c:(List (ae×aT))) (d:(List cz)):Option (Fl (Int×(List (ae×aT))×(List cz)) ((List (ae×aT))×(List cz))):=some (.go (IntKind.i64.wrap (b+1),c,d))
def mB (i:eb) (g:au) (d:Int) (h:(List (ae×aT))) (e:(List cz)):=cond (decide (d<(g.k.length:Int))) ((bu g.k d).bind fun f=>(jB (eb.mk i.b h) f).bind fun c=>cond c.2.1 (gd (bP (e.length+([(cz.mk f (aT.mk c.1.k1 c.1.v1))]).length)) <| mA d c.2.2 (e++([(cz.mk f (aT.mk c.1.k1 c.1.v1))]))) (mA d c.2.2 e)) (some (.out (h,e)))
def mC (c:ah) (g:eb) (e:(List aq)) (b:Int) (f:(List (ae×aT))):=cond (decide (b<(c.s.length:Int))) ((bu c.s b).bind fun d=>(loop (fun s:Int×(List (ae×aT))×(List cz)=>mB g d s.1 s.2.1 s.2.2) (0,f,([]:List cz))).bind fun r=>jz c e b d r.1 r.2) (some (.out e))
def jg (c:ah):=(lD c).bind fun b=>(loop (fun s:(List aq)×Int×(List (ae×aT))=>mC c b s.1 s.2.1 s.2.2) (([]:List aq),0,b.z)).bind fun r=>p8 r
theorem AZ (hLv:dh T L) (e:ah) (K D:Value) (dk:aF ac T L K e.i) (dl:aF aa T L D e.s) (y:(List aq)) (B:jg e=some y):bg aR No 93 [.agg (aU e K D).toArray] L (fun v w'=>∃ (v3:Value) (uZ:bI),v=v3/\gG ar T L w' [bv v3 uZ] 51 v3 uZ y):=by
 refine en Tryz.func93 Tryz.ntmps93 hT fun a I=>?_;replace I:=((I.fact bH (dh.dn hLv)).fS (aF.dn dk)).fS (aF.dn dl);unfold jg at B;refine kB I fun n el a w O I=>?_;refine am I fun a I=>?_;obtain⟨f,c3,B⟩:=bd B;refine kc I J1 (tL _ _ I.dlt e _ _ I.g1 I.g0 _ c3) fun _ w C a O U=>?_;obtain⟨q,t,h,ca,c9,he,bs,bt,⟨bb,b9,bi⟩⟩:=C;obtain rfl:=he.symm;have I:=U [om h ca c9] (gc bb (yU b9)) (wX _);replace I:=((I.fM (bi.keep (al _ _) (eY _))).fS (bs.sub (eY _))).fS (bt.sub (eY _));refine ka I GU fun o eq a w O I=>?_;refine go I fun a w I=>?_;refine aM (J:=fun a w=>∃ (ao:(List aq)) (Z:Value) (X:LV),St L No T 71 [(4,Z)] [bv Z X] [ap ar X ao,bH] a w/\p8 ao=some y) ?_ ?_
 ·refine am I fun a I=>?_;replace I:=I.zn ar 51 (by decide);obtain⟨r1,d8,hMo1⟩:=bd B;refine bF _ (fun s a w=>∃ (p:(List aq)) (m:Int) (Y:(List (ae×aT))) (A:Value) (z:LV) (a4:AM) (b4:Nat),(p,m,Y)=s/\St L No T 71 [(1,pt n 0),(3,pt o 0),(4,A),(15,D),(16,aj (e.s.length:Int)),(17,aj m)] [bv A z,.box n (aU e K D) 25,om h a4 b4,.box o [aj f.b.r,q,t,.map (some h)] 164] [ap ar z p,aL aa D e.s,aL ac K e.i,aL ac q f.b.i,aL aa t f.b.s,gw ad true bN true a4 Y,bH] a w) d8 ⟨_,_,_,_,_,_,_,rfl,I.mt [0,3,2,1] [0,4,5,2,1,3,6]⟩ ?_;rintro s a w f1 ⟨p,m,Y,A,z,a4,b4,rfl,I⟩ B hf1;have B:mC e f p m Y=some f1:=B;unfold mC at B;refine am I fun a I=>?_;refine aC ?_;rcases cd B with⟨cb,B⟩|⟨cb,B⟩
  ·refine am I fun a I=>?_;refine aM (J:=fun a w=>∃ (av:(List aq)) (ag:(List (ae×aT))) (b0:Value) (a0:LV) (a5:AM) (b5:Nat),St L No T 71 [(1,pt n 0),(3,pt o 0),(4,b0),(15,D),(16,aj (e.s.length:Int)),(17,aj m)] [bv b0 a0,.box n (aU e K D) 25,om h a5 b5,.box o [aj f.b.r,q,t,.map (some h)] 164] [ap ar a0 av,aL aa D e.s,aL ac K e.i,aL ac q f.b.i,aL aa t f.b.s,gw ad true bN true a5 ag,bH] a w/\jy m av ag=some f1) ?_ ?_
   ·refine am I fun a I=>?_;obtain⟨c,c1,B⟩:=bd B;refine wl rfl (bn (R:=aa) I mV j6 rfl rfl 1 rfl c1 rfl fun ds eX e6 ch a I=>?_);obtain⟨F,rfl,c5⟩:=ch;replace I:=I.fS c5;refine kA I eJ fun M er a w O I=>?_;refine go I fun a w I=>?_;refine qy I (bw (ps:=[(0,.tmp 22),(2,.tmp 24),(3,.tmp 26)]) I Q6 uT rfl (us:=[(aX c.d),[a8 c.u],[aj c.j]]) ⟨rfl,⟨rfl,⟨rfl,trivial⟩⟩⟩ (ws:=[aj c.d.v,a8 c.d.x,(.slice none 0 0),a8 c.u,aj c.j]) rfl) fun a I=>?_;refine ka I uT fun E et a w O I=>?_;refine go I fun a w I=>?_;refine aM (J:=fun a w=>∃ (W:(List (ae×aT))) (H:(List cz)) (V:AM) (a1:Nat) (G:Value) (S:LV),St L No T 71 [(1,pt n 0),(3,pt o 0),(4,A),(6,pt M 0),(7,pt E 0),(15,D),(16,aj (e.s.length:Int)),(17,aj m)] [bv A z,.box n (aU e K D) 25,om h V a1,.box o [aj f.b.r,q,t,.map (some h)] 164,.box M (bh c F) 33,xT G S,.box E [aj c.d.v,a8 c.d.x,G,a8 c.u,aj c.j] 51] [ap ar z p,aL aa D e.s,aL ac K e.i,aL ac q f.b.i,aL aa t f.b.s,gw ad true bN true V W,aL ad F c.k,ap bQ S H,bH] a w/\jz e p m c W H=some f1) ?_ ?_
    ·refine am I fun a I=>?_;replace I:=I.zn bQ 128 (by decide);obtain⟨r2,dc,hMo2⟩:=bd B;refine bF _ (fun s a w=>∃ (N:Int) (P:(List (ae×aT))) (Q:(List cz)) (a9:AM) (b6:Nat) (b1:Value) (a2:LV),(N,P,Q)=s/\St L No T 71 [(1,pt n 0),(3,pt o 0),(4,A),(6,pt M 0),(7,pt E 0),(15,D),(16,aj (e.s.length:Int)),(17,aj m),(29,F),(30,aj (c.k.length:Int)),(31,aj N)] [bv A z,.box n (aU e K D) 25,om h a9 b6,.box o [aj f.b.r,q,t,.map (some h)] 164,.box M (bh c F) 33,xT b1 a2,.box E [aj c.d.v,a8 c.d.x,b1,a8 c.u,aj c.j] 51] [ap ar z p,aL aa D e.s,aL ad F c.k,aL ac K e.i,aL ac q f.b.i,aL aa t f.b.s,gw ad true bN true a9 P,ap bQ a2 Q,bH] a w) dc ⟨_,_,_,_,_,_,_,rfl,I.mt [3,4,5,6,2,0,1] [3,4,1,5,6,7,8,0,9]⟩ ?_;rintro s a w f2 ⟨N,P,Q,a9,b6,b1,a2,rfl,I⟩ B hf2;have B:mB f c N P Q=some f2:=B;unfold mB at B;refine am I fun a I=>?_;refine aC ?_;rcases cd B with⟨ck,B⟩|⟨ck,B⟩
     ·refine am I fun a I=>?_;refine aM (J:=fun a w=>∃ (ak:(List (ae×aT))) (b3:(List cz)) (ab:AM) (b7:Nat) (b2:Value) (a3:LV),St L No T 71 [(1,pt n 0),(3,pt o 0),(4,A),(6,pt M 0),(7,pt E 0),(15,D),(16,aj (e.s.length:Int)),(17,aj m),(29,F),(30,aj (c.k.length:Int)),(31,aj N)] [bv A z,.box n (aU e K D) 25,om h ab b7,.box o [aj f.b.r,q,t,.map (some h)] 164,.box M (bh c F) 33,xT b2 a3,.box E [aj c.d.v,a8 c.d.x,b2,a8 c.u,aj c.j] 51] [ap ar z p,aL aa D e.s,aL ad F c.k,aL ac K e.i,aL ac q f.b.i,aL aa t f.b.s,gw ad true bN true ab ak,ap bQ a3 b3,bH] a w/\mA N ak b3=some f2) ?_ ?_
      ·refine am I fun a I=>?_;obtain⟨l,c2,B⟩:=bd B;refine wl rfl (bn (R:=ad) I j7 dB rfl rfl 2 rfl c2 rfl fun e0 f3 e8 cl a I=>?_);obtain rfl:=cl;refine kA I fH fun e2 ex a w O I=>?_;refine go I fun a w I=>?_;obtain⟨g,c4,B⟩:=bd B;replace I:=I.re [3] [0,1,2,4,5,6,7];refine wl rfl (ci I Np rfl rfl (ue _ _ I.zt (eb.mk f.b P) l _ _ _ _ _ I.dok I.d7 I.d5 I.d6 I.d9 _ c4) fun _ w C a O U=>?_);obtain⟨ei,ea,he,cs,bl⟩:=C;obtain rfl:=he.symm;have I:=U _ cs;replace I:=I.fM (bl.keep (al _ _) (ay _));refine kA I AU fun e3 eT a w O I=>?_;refine go I fun a w I=>?_;rcases cd B with⟨cv,B⟩|⟨cv,B⟩
       ·refine am I fun a I=>?_;refine qy I (bw (ps:=[(0,.tmp 44),(1,.tmp 45)]) I NW AV rfl (us:=[(aX l),(oU g.1)]) ⟨rfl,⟨rfl,trivial⟩⟩ (ws:=[aj l.v,a8 l.x,aj g.1.k1,.int .u64 g.1.v1]) rfl) fun a I=>?_;refine wl rfl (bf (ps:=[(0,.tmp 46)]) I Kp AV (zl:=[aj 0,a8 cp,aj 0,.int .u64 0]) (by kernel_rfl) rfl (us:=[[aj l.v,a8 l.x,aj g.1.k1,.int .u64 g.1.v1]]) ⟨rfl,trivial⟩ (ws:=[aj l.v,a8 l.x,aj g.1.k1,.int .u64 g.1.v1]) rfl rfl rfl rfl fun e4 a w O I=>?_);replace I:=(I.lit (R:=bQ) (us:=[aj l.v,a8 l.x,aj g.1.k1,.int .u64 g.1.v1]) (xs:=[(cz.mk l (aT.mk g.1.k1 g.1.v1))]) 0 rfl (by decide) (aP (R:=bQ) (x:=(cz.mk l (aT.mk g.1.k1 g.1.v1))) rfl) rfl rfl).zf (R:=bQ) 0 rfl 0 rfl;obtain⟨d0,B⟩:=aW B;refine wl rfl (bG (R:=bQ) (xs:=Q) (ys:=[(cz.mk l (aT.mk g.1.k1 g.1.v1))]) I Kp (by decide) (by decide) rfl rfl 7 rfl 11 rfl 0 rfl d0 rfl fun f4 ed a w O I=>?_);exact fz
       exact fz
      rintro a w ⟨ak,b3,ab,b7,b2,a3,I,B⟩;unfold mA at B;exact fz
     refine am I fun a I=>?_;cases B
     have hr:=hf2 _ rfl;subst hr;have B:jz e p m c P Q=some f1:=hMo2;exact fin
    rintro a w ⟨W,H,V,a1,G,S,I,B⟩;unfold jz at B;refine aM (J:=fun a w=>∃ (af:Bool),St L No T 71 [(1,pt n 0),(3,pt o 0),(4,A),(7,pt E 0),(15,D),(16,aj (e.s.length:Int)),(17,aj m),(64,.bool af)] [bv A z,.box n (aU e K D) 25,om h V a1,.box o [aj f.b.r,q,t,.map (some h)] 164,xT G S,.box E [aj c.d.v,a8 c.d.x,G,a8 c.u,aj c.j] 51] [ap ar z p,aL aa D e.s,aL ac K e.i,aL ac q f.b.i,aL aa t f.b.s,gw ad true bN true V W,ap bQ S H,bH] a w/\gJ p m c W H af=some f1) ?_ ?_
    ·exact fz
    rintro a w ⟨af,I,B⟩;unfold gJ at B;rcases cd B with⟨d1,B⟩|⟨d1,B⟩
    ·refine am I fun a I=>?_;refine wl rfl (bf (ps:=[(0,.tmp 66)]) I sF uT (zl:=[aj 0,a8 cp,.slice none 0 0,a8 cp,aj 0]) (by kernel_rfl) rfl (us:=[[aj c.d.v,a8 c.d.x,G,a8 c.u,aj c.j]]) ⟨rfl,trivial⟩ (ws:=[aj c.d.v,a8 c.d.x,G,a8 c.u,aj c.j]) rfl rfl rfl rfl fun e5 a w O I=>?_);replace I:=I.zf (R:=bQ) 5 rfl 6 rfl;replace I:=(I.lit (R:=ar) (us:=[aj c.d.v,a8 c.d.x,G,a8 c.u,aj c.j]) (xs:=[(aq.mk c.d H c.u c.j)]) 0 rfl (by decide) (aP (R:=ar) (x:=(aq.mk c.d H c.u c.j)) (⟨_,rfl,I.g0⟩)) rfl rfl).zf (R:=ar) 0 rfl 0 rfl;obtain⟨d2,B⟩:=aW B;refine wl rfl (bG (R:=ar) (xs:=p) (ys:=[(aq.mk c.d H c.u c.j)]) I sF (by decide) (by decide) rfl rfl 0 rfl 3 rfl 0 rfl d2 rfl fun f5 eg a w O I=>?_);exact fz
    exact fz
   rintro a w ⟨av,ag,b0,a0,a5,b5,I,B⟩;unfold jy at B;exact fz
  exact fz
 rintro a w ⟨ao,Z,X,I,B⟩;unfold p8 at B;refine am I fun a I=>?_;cases B
 refine aG I rfl (aw I rfl aI) ?_;exact⟨Z,X,rfl,I.zo ⟨.inr (aO (i:=0) rfl),trivial⟩ 0 rfl 0 rfl⟩
def jh (d:ah) (e:aq):=(lD d).bind fun b=>(gL b e).bind fun c=>some (c.1)
theorem yu (hLv:dh T L) (b:ah) (c:aq) (z A D:Value) (t:aF ac T L z b.i) (u:aF aa T L A b.s) (x:aF bQ T L D c.k) (y:Bool) (B:jh b c=some y):bg aR No 94 [.agg (aU b z A).toArray,.agg (bq c D).toArray] L (fun v w'=>v = .bool y):=by
 refine en Tryz.func94 Tryz.ntmps94 hT fun a I=>?_;replace I:=(((I.fact bH (dh.dn hLv)).fS (aF.dn t)).fS (aF.dn u)).fS (aF.dn x);unfold jh at B;refine kB I fun E J a w O I=>?_;refine kb I fun F K a w O I=>?_;refine am I fun a I=>?_;refine aC ?_;refine dr [(3,.any)] I fun w hQ I=>?_;refine gE [0,2] I fun a I=>?_;obtain⟨r,l,B⟩:=bd B;refine ec 1 I J1 (tL _ _ I.dlt b _ _ I.g2 I.g1 _ l) fun _ w C a O U=>?_;obtain⟨N,P,n,p,o,he,h,j,⟨e,d,f⟩⟩:=C;obtain rfl:=he.symm;have I:=U [om n p o] (gc e (yU d)) (wX _);replace I:=((I.fM (f.keep (al _ _) (eY _))).fS (h.sub (eY _))).fS (j.sub (eY _));obtain⟨M,m,B⟩:=bd B;replace I:=I.re [0] [1,2];refine e1 3 (ci I Ni rfl rfl (sx _ _ I.zt r c _ _ _ _ _ _ I.dok I.d2 I.d1 I.d0 I.d3 I.d6 _ m) fun _ w C a O U=>⟨jf rfl O qS,?_⟩);obtain⟨H,G,he,q,g⟩:=C;obtain rfl:=he.symm;have I:=U _ q;replace I:=I.fM (g.keep (al _ _) (ay _));refine gE [4] I fun a I=>?_;refine eD ?_;exact fz
def fe (d:LO) (c:(List (ae×aT))) (b:Bool):=some ((b,d,c))
def kK (f:aq) (i:LU) (b:LO) (c:eb):=(qT i f.d).bind fun g=>cond g ((some ((cF aK f.d b).getD false)).bind fun h=>cond (!(h)) ((gL c f).bind fun e=>fe b e.2 e.1) (fe b c.z false)) (fe b c.z false)
theorem yw (n:aq) (P:LU) (H:LO) (m:eb) (v1 v2:Value) (Q u:Value) (Y R:Nat) (G l:Nat) (h:Array MapEntry) (j e:Nat) (f:Array MapEntry) (g:Nat) (hD:xH T L [om l h j,om e f g]) (af:bE ad true a6.bool false (dT T [om l h j,om e f g]) L h H) (a4:bE ad true bN true (dT T [om l h j,om e f g]) L f m.z) (ag:aF bQ (dT T [om l h j,om e f g]) L v1 n.k) (ak:aF an (dT T [om l h j,om e f g]) L v2 P) (ao:aF ac (dT T [om l h j,om e f g]) L Q m.b.i) (a5:aF aa (dT T [om l h j,om e f g]) L u m.b.s) (a2:(co Y 0 [v2]).p (dT T [om l h j,om e f g]) L) (a3:(co R 0 [.map (some l)]).p (dT T [om l h j,om e f g]) L) (S:(co G 0 [aj m.b.r,Q,u,.map (some e)]).p (dT T [om l h j,om e f g]) L) (hLv:dh (dT T [om l h j,om e f g]) L) (y:Bool×LO×(List (ae×aT))) (B:kK n P H m=some y):bg aR (MD [om l h j,om e f g]) 105 [.agg (bq n v1).toArray,pt Y 0,pt R 0,pt G 0] L (fun v w'=>∃ (q:Array MapEntry) (A:Nat) (t:Array MapEntry) (D:Nat),v = .bool y.1/\mx L w' [om l h j,om e f g] [om l q A,om e t D]/\bE ad true a6.bool false (dT T [om l q A,om e t D]) w' q y.2.1/\bE ad true bN true (dT T [om l q A,om e t D]) w' t y.2.2):=by
 refine fT (c:=_) Tryz.func105 rfl T 22 Tryz.ntmps105 hT rfl hD fun a I=>?_;replace I:=(((((((((I.fact (co Y 0 [v2]) a2).fact (co R 0 [.map (some l)]) a3).fact (co G 0 [aj m.b.r,Q,u,.map (some e)]) S).fact bH hLv).fS ag).fS ak).fS ao).fS a5).fM af).fM a4;unfold kK at B;refine kB I fun b0 b6 a w O I=>?_;refine am I fun a I=>?_;refine aM (J:=fun a w=>∃ (F:(List (ae×aT))) (E:Bool) (o:AM) (x:Nat),St L (MD [om l h j,om e f g]) T 22 [(5,.bool E)] [om l h j,om e o x] [uw h H,gw ad true bN true o F,aL ac Q m.b.i,aL aa u m.b.s,co G 0 [aj m.b.r,Q,u,.map (some e)],co R 0 [.map (some l)],bH] a w/\fe H F E=some y) ?_ ?_
 ·refine am I fun a I=>?_;obtain⟨b7,V,B⟩:=bd B;refine kF I Px (C0 _ _ I.dlt I.g6 P n.d _ I.g4 _ V) fun w a I=>?_;rcases cd B with⟨K,B⟩|⟨K,B⟩
  ·refine am I fun a I=>?_;obtain⟨a9,W,B⟩:=bd B;obtain⟨b1,Z,a0⟩:=jr I ur c6 1 rfl 1 rfl (c:=(aX n.d)) (key:=n.d) rfl O1 (zc:=[.bool false]) rfl rfl W;obtain rfl:=Z;refine wg I rfl rfl rfl K (ky (v:=.bool a9) I (a0 rfl rfl id) rfl rfl fun a I=>?_);refine am I fun a I=>?_;rcases cd B with⟨M,B⟩|⟨M,B⟩
   ·refine am I fun a I=>?_;obtain⟨b9,X,B⟩:=bd B;replace I:=I.re [2] [0,1];refine wg I rfl rfl rfl M (ci I Ni rfl rfl (sx _ _ I.zt m n _ _ _ _ _ _ I.dok I.d0 I.d3 I.d2 I.d5 I.d6 _ X) fun _ w C a O U=>?_);obtain⟨b4,b2,he,a1,N⟩:=C;obtain rfl:=he.symm;have I:=U _ a1;replace I:=I.fM (N.keep (al _ _) (ay _));exact fz
   exact fz
  exact fz
 rintro a w ⟨F,E,o,x,I,B⟩;unfold fe at B;refine am I fun a I=>?_;cases B
 refine aG I rfl (aw I rfl aI) ?_;have hZ:=I.sl [0,1] [0,1];exact⟨h,j,o,x,rfl,hZ.zd,hZ.g0,hZ.g1⟩
def lr (b:LO) (c:(List (ae×aT))):=some (((-1),b,c))
def lu (g:(List aq)) (i:LU) (j:eb) (e:LO) (f:(List (ae×aT))) (d:Int):Option (Fl (LO×(List (ae×aT))×Int) (Fl (LO×(List (ae×aT))) (Int×LO×(List (ae×aT))))):=cond (decide (d<(g.length:Int))) ((bu g d).bind fun h=>(kK h i e (eb.mk j.b f)).bind fun c=>cond c.1 (some (.out (.out (d,c.2.1,c.2.2)))) (some (.go (c.2.1,c.2.2,IntKind.i64.wrap (d+1))))) (some (.out (.go (e,f))))
def lH (e:(List aq)) (c:LU) (d:LO) (b:eb):=(loop (fun s:LO×(List (ae×aT))×Int=>lu e c b s.1 s.2.1 s.2.2) (d,b.z,0)).bind fun r=>Fl.el r (fun s=>lr s.1 s.2) (fun y=>some (y))
theorem zM (H:(List aq)) (G:LU) (ab:LO) (k:eb) (v1 v2:Value) (Y o:Value) (K F:Nat) (l g:Nat) (h:Array MapEntry) (j d:Nat) (e:Array MapEntry) (f:Nat) (hD:xH T L [om g h j,om d e f]) (bi:bE ad true a6.bool false (dT T [om g h j,om d e f]) L h ab) (b9:bE ad true bN true (dT T [om g h j,om d e f]) L e k.z) (bs:aF ar (dT T [om g h j,om d e f]) L v1 H) (bt:aF an (dT T [om g h j,om d e f]) L v2 G) (c1:aF ac (dT T [om g h j,om d e f]) L Y k.b.i) (bb:aF aa (dT T [om g h j,om d e f]) L o k.b.s) (b6:(co K 0 [v2]).p (dT T [om g h j,om d e f]) L) (b7:(co F 0 [.map (some g)]).p (dT T [om g h j,om d e f]) L) (a2:(co l 0 [aj k.b.r,Y,o,.map (some d)]).p (dT T [om g h j,om d e f]) L) (hLv:dh (dT T [om g h j,om d e f]) L) (y:Int×LO×(List (ae×aT))) (B:lH H G ab k=some y):bg aR (MD [om g h j,om d e f]) 104 [v1,.func (.func 105) #[] #[pt K 0,pt F 0,pt l 0]] L (fun v w'=>∃ (A:Array MapEntry) (S:Nat) (D:Array MapEntry) (V:Nat),v=aj y.1/\mx L w' [om g h j,om d e f] [om g A S,om d D V]/\bE ad true a6.bool false (dT T [om g A S,om d D V]) w' A y.2.1/\bE ad true bN true (dT T [om g A S,om d D V]) w' D y.2.2):=by
 refine fT (c:=_) Tryz.func104 rfl T 19 Tryz.ntmps104 hT rfl hD fun a I=>?_;replace I:=(((((((((I.fact (co K 0 [v2]) b6).fact (co F 0 [.map (some g)]) b7).fact (co l 0 [aj k.b.r,Y,o,.map (some d)]) a2).fact bH hLv).fS bs).fS bt).fS c1).fS bb).fM bi).fM b9;unfold lH at B;refine am I fun a I=>?_;refine aM (J:=fun a w=>∃ (W:LO) (X:(List (ae×aT))) (q:AM) (M:Nat) (t:AM) (N:Nat),St L (MD [om g h j,om d e f]) T 19 [] [om g q M,om d t N] [uw q W,gw ad true bN true t X,aL ac Y k.b.i,aL aa o k.b.s,co l 0 [aj k.b.r,Y,o,.map (some d)],co F 0 [.map (some g)],bH] a w/\lr W X=some y) ?_ ?_
 ·refine am I fun a I=>?_;obtain⟨r1,bl,hMo1⟩:=bd B;refine bF _ (fun s a w=>∃ (m:LO) (n:(List (ae×aT))) (E:Int) (u:AM) (P:Nat) (x:AM) (Q:Nat),(m,n,E)=s/\St L (MD [om g h j,om d e f]) T 19 [(0,v1),(1,.func (.func 105) #[] #[pt K 0,pt F 0,pt l 0]),(7,aj (H.length:Int)),(8,aj E)] [om g u P,om d x Q] [uw u m,gw ad true bN true x n,aL ac Y k.b.i,aL aa o k.b.s,co l 0 [aj k.b.r,Y,o,.map (some d)],co F 0 [.map (some g)],aL an v2 G,co K 0 [v2],aL ar v1 H,bH] a w) bl ⟨_,_,_,_,_,_,_,rfl,I.mt [0,1] [1,0,3,2,7,8,4,9,5,6]⟩ ?_;rintro s a w f1 ⟨m,n,E,u,P,x,Q,rfl,I⟩ B hf1;have B:lu H G k m n E=some f1:=B;unfold lu at B;refine am I fun a I=>?_;refine aC ?_;rcases cd B with⟨b0,B⟩|⟨b0,B⟩
  ·refine am I fun a I=>?_;refine aC ?_;refine am I fun a I=>?_;obtain⟨ak,a3,B⟩:=bd B;refine wl rfl (bn (R:=ar) I ya uM rfl rfl 8 rfl a3 rfl fun c2 c5 c3 b1 a I=>?_);obtain⟨ca,rfl,a5⟩:=b1;replace I:=I.fS a5;refine am I fun a I=>?_;obtain⟨c9,a4,B⟩:=bd B;replace I:=I.re [0,1] [];refine wl rfl (FN (D0:=[om g u P,om d x Q]) (Dr:=[]) (cap:=[pt K 0,pt F 0,pt l 0]) I rfl Pw rfl rfl (yw _ _ I.zt ak G m (eb.mk k.b n) _ _ _ _ K F l _ _ _ _ _ _ I.dok I.d2 I.d3 I.d0 I.d8 I.d4 I.d5 I.d9 I.d7 I.d6 I.d11 _ a4) fun _ w C a O U=>?_);obtain⟨ao,af,av,ag,he,b2,Z,a0⟩:=C;obtain rfl:=he.symm;have I:=U _ b2;replace I:=(I.fM (Z.keep (al _ _) (ay _))).fM (a0.keep (al _ _) (ay _));refine am I fun a I=>?_;rcases cd B with⟨b4,B⟩|⟨b4,B⟩
   ·refine am I fun a I=>?_;cases B
    have hr:=hf1 _ rfl;subst hr;replace hMo1:=iE hMo1;have B:=hMo1;cases B
    refine aG I rfl (aw I rfl aI) ?_;have hZ:=I.sl [0,1] [1,0];exact⟨ao,af,av,ag,rfl,hZ.zd,hZ.g0,hZ.g1⟩
   exact fz
  exact fz
 rintro a w ⟨W,X,q,M,t,N,I,B⟩;unfold lr at B;refine am I fun a I=>?_;cases B
 refine aG I rfl (aw I rfl aI) ?_;have hZ:=I.sl [0,1] [0,1];exact⟨q,M,t,N,rfl,hZ.zd,hZ.g0,hZ.g1⟩
def mD (c:(List (ae×aT))) (d:LO) (b:LK) (e:LR):Option (Fl ((List (ae×aT))×LO×LK×LR) (ah×LK×Int)):=some (.go (c,d,b,e))
def jA (f:ah) (c:LK) (g:LR) (e:(Int×LO×(List (ae×aT)))) (b:aq) (h:LK):Option (Fl ((List (ae×aT))×LO×LK×LR) (ah×LK×Int)):=(s3 g (au.mk b.d b.u h f.r f.r b.j false)).bind fun i=>(p9 b.u).bind fun k=>gd (bP (c.length+([b.d]).length)) <| mD (dS aK b.d k e.2.2) (dS aK b.d true e.2.1) (c++([b.d])) i
def gK (e:aq) (b:Int) (c:LK):Option (Fl (Int×LK) (LK)):=cond (decide (b<(e.k.length:Int))) ((bu e.k b).bind fun f=>gd (bP (c.length+([f.d]).length)) <| some (.go (IntKind.i64.wrap (b+1),(c++([f.d]))))) (some (.out c))
def mF (g:LU) (o:ah) (j:(List aq)) (h:ah) (m:eb) (k:(List (ae×aT))) (l:LO) (f:LK) (c:LR):=(lH j g l (eb.mk m.b k)).bind fun d=>cond (decide (d.1<0)) ((sR f).bind fun n=>some (.out ((ah.mk h.r h.i c),n,0))) (cond (decide ((4000:Int)<=(c.length:Int))) (some (.out ((ah.mk 0 ([]) ([])),[],45))) ((bu j d.1).bind fun e=>(loop (fun s:Int×LK=>gK e s.1 s.2) (0,([]:List ae))).bind fun r=>jA o f c d e r))
def mE (b:LU) (f:ah) (g:(List aq)) (c:ah) (d:eb) (e:LO):=(loop (fun s:(List (ae×aT))×LO×LK×LR=>mF b f g c d s.1 s.2.1 s.2.2.1 s.2.2.2) (d.z,e,([]:List ae),c.s)).bind fun y=>some (y)
def mG (e:ah) (b:Int) (c:LO):Option (Fl (Int×LO) (LO)):=cond (decide (b<(e.s.length:Int))) ((bu e.s b).bind fun f=>some (.go (IntKind.i64.wrap (b+1),(dS aK f.d true c)))) (some (.out c))
def fo (b:LU) (d:ah) (e:(List aq)):=(uI b).bind fun g=>cond (!(g)) (some (((ah.mk 0 ([]) ([])),[],41))) ((ml d).bind fun h=>cond (!(h)) (some (((ah.mk 0 ([]) ([])),[],42))) ((jC e).bind fun i=>cond (!(i)) (some (((ah.mk 0 ([]) ([])),[],5))) ((nK d).bind fun c=>(lD c).bind fun f=>(loop (fun s:Int×LO=>mG c s.1 s.2) (0,([]:LO))).bind fun r=>mE b d e c f r)))
theorem nR (hLv:dh T L) (n:LU) (f:ah) (P:(List aq)) (V X:Value) (Y Z:Value) (ha:aF an T L V n) (hb:aF ac T L X f.i) (hc:aF aa T L Y f.s) (hd:aF ar T L Z P) (y:ah×LK×Int) (B:fo n f P=some y):bg aR No 31 [V,.agg (aU f X Y).toArray,Z] L (fun v w'=>∃ (v5 v6 v7:Value) (zD:bI),v = .tuple #[.agg (aU y.1 v5 v6).toArray,v7,aj y.2.2]/\aF ac (dT T [aA v7 zD]) w' v5 y.1.i/\aF aa (dT T [aA v7 zD]) w' v6 y.1.s/\gG ad T L w' [aA v7 zD] 30 v7 zD y.2.1):=by
 refine en Tryz.func31 Tryz.ntmps31 hT fun a I=>?_;replace I:=((((I.fact bH (dh.dn hLv)).fS (aF.dn ha)).fS (aF.dn hb)).fS (aF.dn hc)).fS (aF.dn hd);unfold fo at B;refine am I fun a I=>?_;refine wl rfl (FM I rfl (cs:=[V]) (m8 (aF.one (I.g3:aF an _ _ _ _))) rfl fun q hE a w O I=>?_);refine kb I fun F hF a w O I=>?_;refine ka I mw fun D hG a w O I=>?_;refine am I fun a I=>?_;refine aC ?_;refine am I fun a I=>?_;obtain⟨i3,g5,B⟩:=bd B;refine kF I Pt (Gn _ _ I.dlt n _ I.g3 _ g5) fun w a I=>?_;rcases cd B with⟨gb,B⟩|⟨gb,B⟩
 ·refine am I fun a I=>?_;refine qy I (bw (ps:=[]) I C3 mw rfl (us:=[]) trivial (ws:=[aj 0,.slice none 0 0,.slice none 0 0]) rfl) fun a I=>?_;refine go I fun a w I=>?_;cases B
  refine aG I Tryz.results31 (bC I rfl 0 rfl f9 rfl (fun h=>by cases h) (aw I rfl (aw I rfl aI))) ?_;exact⟨.slice none 0 0,.slice none 0 0,.slice none 0 0,[],rfl,aF.nil_ _ _ _,aF.nil_ _ _ _,og _ _ _ _ _ _⟩
 refine am I fun a I=>?_;obtain⟨i4,g6,B⟩:=bd B;refine kF I RG (Ac _ _ I.dlt I.g4 f _ _ I.g2 I.g1 _ g6) fun w a I=>?_;rcases cd B with⟨gi,B⟩|⟨gi,B⟩
 ·refine am I fun a I=>?_;refine qy I (bw (ps:=[]) I C3 mw rfl (us:=[]) trivial (ws:=[aj 0,.slice none 0 0,.slice none 0 0]) rfl) fun a I=>?_;refine go I fun a w I=>?_;cases B
  refine aG I Tryz.results31 (bC I rfl 0 rfl f9 rfl (fun h=>by cases h) (aw I rfl (aw I rfl aI))) ?_;exact⟨.slice none 0 0,.slice none 0 0,.slice none 0 0,[],rfl,aF.nil_ _ _ _,aF.nil_ _ _ _,og _ _ _ _ _ _⟩
 refine am I fun a I=>?_;obtain⟨i5,g7,B⟩:=bd B;refine kF I RM (xM _ _ I.dlt I.g4 P _ I.g0 _ g7) fun w a I=>?_;rcases cd B with⟨gs,B⟩|⟨gs,B⟩
 ·refine am I fun a I=>?_;refine qy I (bw (ps:=[]) I C3 mw rfl (us:=[]) trivial (ws:=[aj 0,.slice none 0 0,.slice none 0 0]) rfl) fun a I=>?_;refine go I fun a w I=>?_;cases B
  refine aG I Tryz.results31 (bC I rfl 0 rfl f9 rfl (fun h=>by cases h) (aw I rfl (aw I rfl aI))) ?_;exact⟨.slice none 0 0,.slice none 0 0,.slice none 0 0,[],rfl,aF.nil_ _ _ _,aF.nil_ _ _ _,og _ _ _ _ _ _⟩
 refine am I fun a I=>?_;obtain⟨m,fn,B⟩:=bd B;refine kc I Pu (A4 _ _ I.dlt f _ _ I.g2 I.g1 _ fn) fun _ w C a O U=>?_;obtain⟨E,ho,a9,hp,he,ei,el,h8⟩:=C;obtain rfl:=he.symm;have I:=Ar U ei el h8;refine ka I mw fun G hH a w O I=>?_;refine go I fun a w I=>?_;replace I:=(I.zf (R:=ac) 1 rfl 1 rfl).zf (R:=aa) 1 rfl 1 rfl;obtain⟨g,fr,B⟩:=bd B;refine kc I J1 (tL _ _ I.dlt m _ _ I.g1 I.g0 _ fr) fun _ w C a O U=>?_;obtain⟨H,K,o,a3,b3,he,eq,er,⟨e6,e4,ea⟩⟩:=C;obtain rfl:=he.symm;have I:=U [om o a3 b3] (gc e6 (yU e4)) (wX _);replace I:=((I.fM (ea.keep (al _ _) (eY _))).fS (eq.sub (eY _))).fS (er.sub (eY _));refine ka I GU fun t hI a w O I=>?_;refine go I fun a w I=>?_;refine wl rfl (qu ad true a6.bool false I rfl fun p hJ a w O I=>?_);refine ka I Rq fun A hK a w O I=>?_;refine go I fun a w I=>?_;refine aM (J:=fun a w=>∃ (c1:LO) (b8:AM) (ck:Nat),St L No T 114 [(2,Z),(3,pt q 0),(4,pt F 0),(6,pt D 0),(9,pt G 0),(10,pt t 0),(11,pt A 0)] [.box q [V] 34,.box F (aU f X Y) 25,.box D [aj 0,.slice none 0 0,.slice none 0 0] 25,.box G (aU m E a9) 25,om o a3 b3,.box t [aj g.b.r,H,K,.map (some o)] 164,om p b8 ck,.box A [.map (some p)] 166] [aL ar Z P,aL an V n,aL ac X f.i,aL aa Y f.s,aL ac E m.i,aL aa a9 m.s,aL ac H g.b.i,aL aa K g.b.s,gw ad true bN true a3 g.z,uw b8 c1,bH] a w/\mE n f P m g c1=some y) ?_ ?_
 ·refine am I fun a I=>?_;obtain⟨r1,eT,hMo1⟩:=bd B;refine bF _ (fun s a w=>∃ (b0:Int) (b1:LO) (b9:AM) (cl:Nat),(b0,b1)=s/\St L No T 114 [(2,Z),(3,pt q 0),(4,pt F 0),(6,pt D 0),(9,pt G 0),(10,pt t 0),(11,pt A 0),(41,a9),(42,aj (m.s.length:Int)),(43,aj b0)] [.box q [V] 34,.box F (aU f X Y) 25,.box D [aj 0,.slice none 0 0,.slice none 0 0] 25,.box G (aU m E a9) 25,om o a3 b3,.box t [aj g.b.r,H,K,.map (some o)] 164,om p b9 cl,.box A [.map (some p)] 166] [aL ar Z P,aL aa a9 m.s,aL an V n,aL ac X f.i,aL aa Y f.s,aL ac E m.i,aL ac H g.b.i,aL aa K g.b.s,gw ad true bN true a3 g.z,uw b9 b1,bH] a w) eT ⟨_,_,_,_,rfl,I.mt [7,6,5,4,3,2,1,0] [8,4,11,10,9,5,2,1,3,0,12]⟩ ?_;rintro s a w f1 ⟨b0,b1,b9,cl,rfl,I⟩ B hf1;have B:mG m b0 b1=some f1:=B;unfold mG at B;refine am I fun a I=>?_;refine aC ?_;rcases cd B with⟨gu,B⟩|⟨gu,B⟩
  ·refine am I fun a I=>?_;refine aC ?_;refine am I fun a I=>?_;obtain⟨e3,f7,B⟩:=bd B;refine wl rfl (bn (R:=aa) I mV j6 rfl rfl 1 rfl f7 rfl fun hh hW hq gH a I=>?_);obtain⟨i9,rfl,g8⟩:=gH;replace I:=I.fS g8;refine kA I eJ fun hi hM a w O I=>?_;refine go I fun a w I=>?_;refine wl rfl (sN I ur c6 7 rfl 11 rfl (c:=(aX e3.d)) (cv:=[.bool true]) (key:=e3.d) (val:=true) rfl rfl rfl rfl rfl fun hA hs w O I=>?_);exact fz
  exact fz
 rintro a w ⟨c1,b8,ck,I,B⟩;unfold mE at B;refine am I fun a I=>?_;replace I:=(((I.zx 0 rfl).zx 6 rfl).zx 4 rfl).zn ad 30 (by decide);obtain⟨r1,eT,hMo1⟩:=bd B;refine bF _ (fun s a w=>∃ (a4:(List (ae×aT))) (a5:LO) (M:LK) (N:LR) (bb:AM) (d9:Nat) (bi:AM) (dc:Nat) (W:Value) (S:LV) (Q:Value),(a4,a5,M,N)=s/\St L No T 114 [(2,Z),(3,pt q 0),(4,pt F 0),(6,pt D 0),(9,pt G 0),(10,pt t 0),(11,pt A 0),(14,W)] [om o bb d9,om p bi dc,aA W S,.box F (aU f X Y) 25,.box D [aj 0,.slice none 0 0,.slice none 0 0] 25,.box G (aU m E Q) 25] [aL ac H g.b.i,aL aa K g.b.s,gw ad true bN true bb a4,co t 0 [aj g.b.r,H,K,.map (some o)],uw bi a5,co A 0 [.map (some p)],aL ar Z P,co q 0 [V],aL an V n,ap ad S M,aL ac X f.i,aL aa Y f.s,aL ac E m.i,aL aa Q N,bH] a w) eT ⟨_,_,_,_,_,_,_,_,_,_,_,rfl,I.mt [4,5,0,1,2,3] [10,11,12,1,13,2,4,3,5,0,6,7,8,9,14]⟩ ?_;rintro s a w f1 ⟨a4,a5,M,N,bb,d9,bi,dc,W,S,Q,rfl,I⟩ B hf1;have B:mF n f P m g a4 a5 M N=some f1:=B;unfold mF at B;refine Ix (J:=fun a w=>∃ (c2:(List (ae×aT))) (c3:LO) (bt:LK) (c4:LR) (bl:AM) (dk:Nat) (bs:AM) (dl:Nat) (c5:Value) (b4:LV) (c9:Value) (b5:LV),St L No T 114 [(2,Z),(3,pt q 0),(4,pt F 0),(6,pt D 0),(9,pt G 0),(10,pt t 0),(11,pt A 0),(14,c5)] [om o bl dk,om p bs dl,aA c5 b4,.box F (aU f X Y) 25,.box D [aj 0,.slice none 0 0,.slice none 0 0] 25,aJ c9 b5,.box G (aU m E c9) 25] [aL ac H g.b.i,aL aa K g.b.s,gw ad true bN true bl c2,co t 0 [aj g.b.r,H,K,.map (some o)],uw bs c3,co A 0 [.map (some p)],aL ar Z P,co q 0 [V],aL an V n,ap ad b4 bt,aL ac X f.i,aL aa Y f.s,aL ac E m.i,ap aa b5 c4,bH] a w/\mD c2 c3 bt c4=some f1) ?_ ?_
 ·refine am I fun a I=>?_;refine qy I (zA (vs:=[pt q 0,pt A 0,pt t 0]) I rfl) fun a I=>?_;obtain⟨a2,f8,B⟩:=bd B;replace I:=I.re [1,0] [2,3,4,5];refine wl rfl (ci I Pv rfl rfl (zM _ _ I.zt P n a5 (eb.mk g.b a4) _ _ _ _ q A t _ _ _ _ _ _ I.dok I.d4 I.d2 I.d6 I.d8 I.d0 I.d1 I.d7 I.d5 I.d3 I.d14 _ f8) fun _ w C a O U=>?_);obtain⟨ak,ds,ao,e0,he,h0,ed,eg⟩:=C;obtain rfl:=he.symm;have I:=U _ h0;replace I:=(I.fM (ed.keep (al _ _) (ay _))).fM (eg.keep (al _ _) (ay _));refine am I fun a I=>?_;refine aC ?_;refine am I fun a I=>?_;rcases cd B with⟨h1,B⟩|⟨h1,B⟩
  ·refine am I fun a I=>?_;refine aC ?_;refine dr [(3,.blk (some D))] I fun w hQ I=>?_;refine gE [0,1] I fun a I=>?_;have hL:=I;replace hL:=hL.zf (R:=ad) 2 rfl 11 rfl;obtain⟨i2,fs,B⟩:=bd B;refine ec 2 I Py (EH _ _ hL.dlt hL.g17 M _ hL.g0 _ fs) fun _ w C a O U=>?_;obtain⟨f3,e2,he,⟨e8,e5,et⟩⟩:=C;obtain rfl:=he.symm;have I:=U [aA f3 e2] (gc ⟨e8,by decide⟩ e5) (wX _);replace I:=I.fR et;refine es 3 I fun w I=>?_;refine gE [4,5] I fun a I=>?_;refine eD ?_;refine am I fun a I=>?_;cases B
   have hr:=hf1 _ rfl;subst hr;have B:=hMo1;cases B
   refine aG I Tryz.results31 (bC I rfl 5 rfl f9 rfl (fun h=>by cases h) (aw I rfl (aw I rfl aI))) ?_;exact⟨E,Q,f3,e2,rfl,(aF.up ⟨.inr (aO (i:=0) rfl),trivial⟩ I.g15),(aF.up ⟨.inr (aO (i:=0) rfl),trivial⟩ I.g16),I.zo ⟨.inr (aO (i:=0) rfl),trivial⟩ 0 rfl 0 rfl⟩
  refine am I fun a I=>?_;refine aC ?_;refine am I fun a I=>?_;rcases cd B with⟨h2,B⟩|⟨h2,B⟩
  ·refine am I fun a I=>?_;refine qy I (bw (ps:=[]) I C3 mw rfl (us:=[]) trivial (ws:=[aj 0,.slice none 0 0,.slice none 0 0]) rfl) fun a I=>?_;refine go I fun a w I=>?_;cases B
   have hr:=hf1 _ rfl;subst hr;have B:=hMo1;cases B
   refine aG I Tryz.results31 (bC I rfl 4 rfl f9 rfl (fun h=>by cases h) (aw I rfl (aw I rfl aI))) ?_;exact⟨.slice none 0 0,.slice none 0 0,.slice none 0 0,[],rfl,aF.nil_ _ _ _,aF.nil_ _ _ _,og _ _ _ _ _ _⟩
  refine am I fun a I=>?_;obtain⟨e,f5,B⟩:=bd B;refine wl rfl (bn (R:=ar) I ya uM rfl rfl 8 rfl f5 rfl fun hj hX ht h3 a I=>?_);obtain⟨ab,rfl,g9⟩:=h3;replace I:=I.fS g9;refine kA I uT fun af hN a w O I=>?_;refine go I fun a w I=>?_;refine qy I (bw (ps:=[(0,.tmp 69),(1,.tmp 71),(3,.tmp 73),(4,.tmp 75),(5,.tmp 77)]) I OH eJ rfl (us:=[(aX e.d),[a8 e.u],[aj f.r],[aj f.r],[aj e.j]]) ⟨rfl,⟨rfl,⟨rfl,⟨rfl,⟨rfl,trivial⟩⟩⟩⟩⟩ (ws:=[aj e.d.v,a8 e.d.x,a8 e.u,.slice none 0 0,aj f.r,aj f.r,aj e.j,.bool false]) rfl) fun a I=>?_;refine ka I eJ fun ag hP a w O I=>?_;refine go I fun a w I=>?_;refine aM (J:=fun a w=>∃ (b2:LK) (ca:Value) (b6:LV),St L No T 114 [(2,Z),(3,pt q 0),(4,pt F 0),(6,pt D 0),(9,pt G 0),(10,pt t 0),(11,pt A 0),(14,W),(16,pt af 0),(17,pt ag 0)] [om o ao e0,om p ak ds,aA W S,.box F (aU f X Y) 25,.box D [aj 0,.slice none 0 0,.slice none 0 0] 25,.box G (aU m E Q) 25,.box af (bq e ab) 51,aA ca b6,.box ag [aj e.d.v,a8 e.d.x,a8 e.u,ca,aj f.r,aj f.r,aj e.j,.bool false] 33] [aL ac H g.b.i,aL aa K g.b.s,gw ad true bN true ao a2.2.2,co t 0 [aj g.b.r,H,K,.map (some o)],uw ak a2.2.1,co A 0 [.map (some p)],aL ar Z P,co q 0 [V],aL an V n,ap ad S M,aL ac X f.i,aL aa Y f.s,aL ac E m.i,aL aa Q N,aL bQ ab e.k,ap ad b6 b2,bH] a w/\jA f M N a2 e b2=some f1) ?_ ?_
  ·refine am I fun a I=>?_;replace I:=I.zn ad 30 (by decide);obtain⟨r2,h9,hMo2⟩:=bd B;refine bF _ (fun s a w=>∃ (av:Int) (a1:LK) (cb:Value) (b7:LV),(av,a1)=s/\St L No T 114 [(2,Z),(3,pt q 0),(4,pt F 0),(6,pt D 0),(9,pt G 0),(10,pt t 0),(11,pt A 0),(14,W),(16,pt af 0),(17,pt ag 0),(80,ab),(81,aj (e.k.length:Int)),(82,aj av)] [om o ao e0,om p ak ds,aA W S,.box F (aU f X Y) 25,.box D [aj 0,.slice none 0 0,.slice none 0 0] 25,.box G (aU m E Q) 25,.box af (bq e ab) 51,aA cb b7,.box ag [aj e.d.v,a8 e.d.x,a8 e.u,cb,aj f.r,aj f.r,aj e.j,.bool false] 33] [aL ac H g.b.i,aL aa K g.b.s,gw ad true bN true ao a2.2.2,co t 0 [aj g.b.r,H,K,.map (some o)],uw ak a2.2.1,co A 0 [.map (some p)],aL ar Z P,co q 0 [V],aL an V n,ap ad S M,aL bQ ab e.k,aL ac X f.i,aL aa Y f.s,aL ac E m.i,aL aa Q N,ap ad b7 a1,bH] a w) h9 ⟨_,_,_,_,rfl,I.mt [4,3,5,6,7,8,2,0,1] [5,6,3,8,4,10,11,12,13,14,1,15,16,17,18,0,19]⟩ ?_;rintro s a w f2 ⟨av,a1,cb,b7,rfl,I⟩ B hf2;have B:gK e av a1=some f2:=B;unfold gK at B;refine am I fun a I=>?_;refine aC ?_;rcases cd B with⟨h4,B⟩|⟨h4,B⟩
   ·refine am I fun a I=>?_;refine aC ?_;refine am I fun a I=>?_;obtain⟨a0,f6,B⟩:=bd B;refine wl rfl (bn (R:=bQ) I Jy DW rfl rfl 10 rfl f6 rfl fun hk hY hu h5 a I=>?_);obtain rfl:=h5;refine kA I AV fun hl hV a w O I=>?_;refine go I fun a w I=>?_;refine wl rfl (bf (ps:=[(0,.tmp 89)]) I iA fH (zl:=[aj 0,a8 cp]) (by kernel_rfl) rfl (us:=[(aX a0.d)]) ⟨rfl,trivial⟩ (ws:=(aX a0.d)) rfl rfl rfl rfl fun hm a w O I=>?_);replace I:=(I.lit (R:=ad) (us:=(aX a0.d)) (xs:=[a0.d]) 0 rfl (by decide) (aP (R:=ad) (x:=a0.d) rfl) rfl rfl).zf (R:=ad) 0 rfl 0 rfl;obtain⟨h6,B⟩:=aW B;refine wl rfl (bG (R:=ad) (xs:=a1) (ys:=[a0.d]) I iA (by decide) (by decide) rfl rfl 8 rfl 18 rfl 0 rfl h6 rfl fun ib hv a w O I=>?_);refine go I fun a w I=>?_;exact⟨_,(bM B).symm,_,_,_,_,rfl,I.mt [1,2,3,4,5,6,7,8,9] [4,5,6,7,8,9,10,11,12,13,14,15,16,17,18,0,20]⟩
   refine am I fun a I=>?_;cases B
   have hr:=hf2 _ rfl;subst hr;have B:jA f M N a2 e a1=some f1:=hMo2;exact⟨_,_,_,I.mt [0,1,2,3,4,5,6,7,8] [0,1,2,3,4,5,6,7,8,9,11,12,13,14,10,15,16],B⟩
  rintro a w ⟨b2,ca,b6,I,B⟩;unfold jA at B;refine am I fun a I=>?_;replace I:=I.zf (R:=ad) 7 rfl 15 rfl;obtain⟨i1,fd,B⟩:=bd B;refine kc I Pz (EQ _ _ I.dlt I.g17 N (au.mk e.d e.u b2 f.r f.r e.j false) _ _ I.g14 I.g0 _ fd) fun _ w C a O U=>?_;obtain⟨ih,hw,he,ex⟩:=C;obtain rfl:=he.symm;have I:=qs U ex;refine go I fun a w I=>?_;refine aC ?_;refine dr [(10,.blk (some p)),(11,.blk (some o))] I fun w hQ I=>?_;refine gE [0,1,2,3] I fun a I=>?_;refine dq 4 I (l:=[.blk (some p)]) (v:=.map (some o)) (w6 (k:=3) I N2 5 rfl rfl (Kr 2 rfl rfl Ew) (us:=[.map (some o)]) rfl rfl (fun _=>rfl)) fun a I=>?_;refine gE [5] I fun a I=>?_;refine dq 6 I (l:=[.blk (some p)]) (v:=.agg (aX e.d).toArray) (dm I rfl dB 7 rfl (gA I 7 rfl rfl 2 rfl rfl (by decide) bO) (us:=(aX e.d)) rfl rfl (fun h=>by cases h)) fun a I=>?_;refine gE [7,8] I fun a I=>?_;obtain⟨eX,fl,B⟩:=bd B;refine ec 9 I J2 (wd _ _ I.dlt e.u _ fl) fun _ w C a O U=>?_;obtain rfl:=C;have I:=eL U;refine e1 10 (sN I ur c6 2 rfl 6 rfl (c:=(aX e.d)) (cv:=[.bool true]) (key:=e.d) (val:=true) rfl rfl rfl rfl rfl fun hB hx w O I=>⟨jf rfl O gB,?_⟩);refine e1 11 (sN I In c6 1 rfl 5 rfl (c:=(aX e.d)) (cv:=(oU eX)) (key:=e.d) (val:=eX) rfl rfl rfl rfl rfl fun hC hy w O I=>⟨jf rfl O gB,?_⟩);refine eD ?_;refine am I fun a I=>?_;refine wl rfl (bf (ps:=[(0,.tmp 111)]) I iA fH (zl:=[aj 0,a8 cp]) (by kernel_rfl) rfl (us:=[(aX e.d)]) ⟨rfl,trivial⟩ (ws:=(aX e.d)) rfl rfl rfl rfl fun hn a w O I=>?_);replace I:=(I.lit (R:=ad) (us:=(aX e.d)) (xs:=[e.d]) 0 rfl (by decide) (aP (R:=ad) (x:=e.d) rfl) rfl rfl).zf (R:=ad) 0 rfl 0 rfl;obtain⟨h7,B⟩:=aW B;refine wl rfl (bG (R:=ad) (xs:=M) (ys:=[e.d]) I iA (by decide) (by decide) rfl rfl 3 rfl 15 rfl 0 rfl h7 rfl fun ii hz a w O I=>?_);exact fz
 rintro a w ⟨c2,c3,bt,c4,bl,dk,bs,dl,c5,b4,c9,b5,I,B⟩;unfold mD at B;replace I:=I.zf (R:=aa) 5 rfl 13 rfl;exact fin
def ep (b:Bool):=some (b)
def j9:=(km 0).bind fun j=>(eP (ah.mk 0 ([]) ([])) ([(bU.mk j (ByteArray.mk #[55]))])).bind fun e=>(jQ ([(aN.mk false ([(dd.mk true false 0 0)]) 1 0)]) 0).bind fun k=>(fp uu ([(aN.mk false ([(dd.mk true false 0 0)]) 1 0)]) (ah.mk e.1.r e.1.i e.1.s) ([k])).bind fun b=>(jg (ah.mk b.1.r b.1.i b.1.s)).bind fun c=>(fo ([(aN.mk false ([(dd.mk true false 0 0)]) 1 0)]) (ah.mk b.1.r b.1.i ([])) c).bind fun d=>cond ((c.length:Int)==1) (cond (d.2.2==0) (cond ((d.2.1.length:Int)==1) (cond ((d.1.s.length:Int)==1) ((bu d.1.s 0).bind fun f=>cond (f.u.toList==(ByteArray.mk #[55]).toList) ((bu c 0).bind fun g=>(jh (ah.mk b.1.r b.1.i ([])) g).bind fun l=>cond l ((bu c 0).bind fun h=>(jh (ah.mk 0 ([]) ([])) h).bind fun m=>ep (!(m))) (ep false)) (ep false)) (ep false)) (ep false)) (ep false)) (ep false)
theorem qx (hLv:dh T L) (y:Bool) (B:j9=some y):bg aR No 28 [] L (fun v w'=>v = .bool y):=by
 refine en Tryz.func28 Tryz.ntmps28 hT fun a I=>?_;replace I:=I.fact bH (dh.dn hLv);unfold j9 at B;refine am I fun a I=>?_;refine qy I (bw (ps:=[(0,.const (.bool true))]) I K0 xG rfl (us:=[[.bool true]]) ⟨rfl,trivial⟩ (ws:=[.bool true,.bool false,aj 0,aj 0]) rfl) fun a I=>?_;refine wl rfl (bf (ps:=[(0,.tmp 8)]) I If xG (zl:=[.bool false,.bool false,aj 0,aj 0]) (by kernel_rfl) rfl (us:=[[.bool true,.bool false,aj 0,aj 0]]) ⟨rfl,trivial⟩ (ws:=[.bool true,.bool false,aj 0,aj 0]) rfl rfl rfl rfl fun e a w O I=>?_);replace I:=I.lit (R:=dG) (us:=[.bool true,.bool false,aj 0,aj 0]) (xs:=[(dd.mk true false 0 0)]) 0 rfl (by decide) (aP (R:=dG) (x:=(dd.mk true false 0 0)) rfl) rfl rfl;skip;refine qy I (bw (ps:=[(1,.tmp 9),(2,.const (aj 1))]) I Ga ti rfl (us:=[[(.slice (some ⟨e,0,none⟩) 1 1)],[aj 1]]) ⟨(m8 (iS (I.own _ (aO (i:=0) rfl)).1)),⟨rfl,trivial⟩⟩ (ws:=[.bool false,(.slice (some ⟨e,0,none⟩) 1 1),aj 1,aj 0]) rfl) fun a I=>?_;refine wl rfl (bf (ps:=[(0,.tmp 10)]) I Ko ti (zl:=[.bool false,.slice none 0 0,aj 0,aj 0]) (by kernel_rfl) rfl (us:=[[.bool false,(.slice (some ⟨e,0,none⟩) 1 1),aj 1,aj 0]]) ⟨rfl,trivial⟩ (ws:=[.bool false,(.slice (some ⟨e,0,none⟩) 1 1),aj 1,aj 0]) rfl rfl rfl rfl fun b4 a w O I=>?_);refine am I fun a I=>?_;refine qy I (bw (ps:=[]) I C3 mw rfl (us:=[]) trivial (ws:=[aj 0,.slice none 0 0,.slice none 0 0]) rfl) fun a I=>?_;obtain⟨b,G,B⟩:=bd B;refine kE I Ml (rT _ _ I.dlt I.g1 0 _ G) fun w a I=>?_;refine qy I (bw (ps:=[(0,.tmp 14),(1,.const (.string ⟨#[55]⟩))]) I NX zC rfl (us:=[(aX b),[a8 (ByteArray.mk #[55])]]) ⟨rfl,⟨rfl,trivial⟩⟩ (ws:=[aj b.v,a8 b.x,a8 (ByteArray.mk #[55])]) rfl) fun a I=>?_;refine wl rfl (bf (ps:=[(0,.tmp 15)]) I Om zC (zl:=[aj 0,a8 cp,a8 cp]) (by kernel_rfl) rfl (us:=[[aj b.v,a8 b.x,a8 (ByteArray.mk #[55])]]) ⟨rfl,trivial⟩ (ws:=[aj b.v,a8 b.x,a8 (ByteArray.mk #[55])]) rfl rfl rfl rfl fun b5 a w O I=>?_);replace I:=(((I.fact (aL ac (.slice none 0 0) []) (aF.nil_ _ _ _)).fact (aL aa (.slice none 0 0) []) (aF.nil_ _ _ _)).lit (R:=br) (us:=[aj b.v,a8 b.x,a8 (ByteArray.mk #[55])]) (xs:=[(bU.mk b (ByteArray.mk #[55]))]) 0 rfl (by decide) (aP (R:=br) (x:=(bU.mk b (ByteArray.mk #[55]))) rfl) rfl rfl).zf (R:=br) 0 rfl 0 rfl;obtain⟨j,H,B⟩:=bd B;refine kc I Kd (nE _ _ I.dlt I.g5 (ah.mk 0 ([]) ([])) ([(bU.mk b (ByteArray.mk #[55]))]) _ _ _ I.g3 I.g2 I.g0 _ H) fun _ w C a O U=>?_;obtain⟨ch,b8,ck,b9,he,m,n,l⟩:=C;obtain rfl:=he.symm;have I:=Ar U m n l;refine kA I mw fun Y c4 a w O I=>?_;refine go I fun a w I=>?_;refine aC ?_;refine dr [(10,.blk (some Y))] I fun w hQ I=>?_;refine gE [0,1,2] I fun a I=>?_;replace I:=I.zf (R:=dG) 4 rfl 6 rfl;replace I:=I.lit (R:=an) (us:=[.bool false,(.slice (some ⟨e,0,none⟩) 1 1),aj 1,aj 0]) (xs:=[(aN.mk false ([(dd.mk true false 0 0)]) 1 0)]) 3 rfl (by decide) (aP (R:=an) (x:=(aN.mk false ([(dd.mk true false 0 0)]) 1 0)) (⟨_,rfl,I.g0⟩)) rfl rfl;have hL:=I;replace hL:=hL.zf (R:=an) 3 rfl 0 rfl;obtain⟨d,K,B⟩:=bd B;refine ec 3 I Hd (oo _ _ hL.dlt hL.g10 ([(aN.mk false ([(dd.mk true false 0 0)]) 1 0)]) 0 _ hL.g0 _ K) fun _ w C a O U=>?_;obtain rfl:=C;have I:=eL U;refine e1 4 (bf (ps:=[(0,.tmp 24)]) I iA fH (zl:=[aj 0,a8 cp]) (by kernel_rfl) rfl (us:=[(aX d)]) ⟨rfl,trivial⟩ (ws:=(aX d)) rfl rfl rfl rfl fun b6 a w O I=>⟨fq (O),?_⟩);replace I:=((((I.zf (R:=an) 4 rfl 0 rfl).zf (R:=ac) 2 rfl 4 rfl).zf (R:=aa) 2 rfl 4 rfl).lit (R:=ad) (us:=(aX d)) (xs:=[d]) 0 rfl (by decide) (aP (R:=ad) (x:=d) rfl) rfl rfl).zf (R:=ad) 0 rfl 0 rfl;obtain⟨c,M,B⟩:=bd B;refine ec 5 I Mk (n8 _ _ I.dlt I.g14 uu Rw ([(aN.mk false ([(dd.mk true false 0 0)]) 1 0)]) (ah.mk j.1.r j.1.i j.1.s) ([d]) _ _ _ _ I.g4 I.g3 I.g2 I.g0 _ M) fun _ w C a O U=>?_;obtain⟨cl,cs,bb,cv,bi,he,o,p,q,l⟩:=C;obtain rfl:=he.symm;have I:=Ar U p q l;replace I:=I.fS (o.sub (eY _));refine gE [6,7,8,9] I fun a I=>?_;refine es 10 I fun w I=>?_;refine eD ?_;refine am I fun a I=>?_;replace I:=I.zf (R:=aa) 0 rfl 2 rfl;obtain⟨b3,N,B⟩:=bd B;refine kc I RQ (AZ _ _ I.dlt I.g18 (ah.mk c.1.r c.1.i c.1.s) _ _ I.g1 I.g0 _ N) fun _ w C a O U=>?_;obtain⟨d0,bl,he,t⟩:=C;obtain rfl:=he.symm;have I:=qs U t;refine go I fun a w I=>?_;replace I:=I.zf (R:=ar) 0 rfl 0 rfl;obtain⟨c9,P,B⟩:=bd B;refine kc I Mj (nR _ _ I.dlt I.g20 ([(aN.mk false ([(dd.mk true false 0 0)]) 1 0)]) (ah.mk c.1.r c.1.i ([])) b3 _ _ _ _ I.g10 I.g3 I.g17 I.g0 _ P) fun _ w C a O U=>?_;obtain⟨d1,d2,d3,bs,he,u,z,A⟩:=C;obtain rfl:=he.symm;have I:=qs U A;replace I:=(I.fS (u.sub (eY _))).fS (z.sub (eY _));refine kA I mw fun b7 c5 a w O I=>?_;refine go I fun a w I=>?_;refine aM (J:=fun a w=>∃ (g:Bool),St L No T 82 [(0,.bool g)] [] [bH] a w/\ep g=some y) ?_ ?_
 ·refine dr [] I fun w hQ I=>?_;refine gE [0,1,2,3] I fun a I=>?_;rcases cd B with⟨a4,B⟩|⟨a4,B⟩
  ·refine gE [4,5,6,7] I fun a I=>?_;rcases cd B with⟨a5,B⟩|⟨a5,B⟩
   ·refine gE [8,9,10,11,12] I fun a I=>?_;rcases cd B with⟨a9,B⟩|⟨a9,B⟩
    ·refine gE [13,14,15,16,17,18] I fun a I=>?_;rcases cd B with⟨k,B⟩|⟨k,B⟩
     ·refine gE [19,20] I fun a I=>?_;obtain⟨c3,D,B⟩:=bd B;obtain⟨Z,b0,bt,ab,af,I⟩:=lq (R:=aa) I mV j6 0 rfl D;obtain⟨d4,rfl,V⟩:=ab;replace I:=I.fS V;refine dg 21 I k (v:=pt Z b0) (af rfl rfl) fun a I=>?_;refine gE [22,23,24,25,26] I fun a I=>?_;rcases cd B with⟨h,B⟩|⟨h,B⟩
      ·refine gE [27,28] I fun a I=>?_;obtain⟨a2,E,B⟩:=bd B;obtain⟨a0,b1,c1,ag,ak,I⟩:=lq (R:=ar) I ya uM 5 rfl E;obtain⟨d5,rfl,W⟩:=ag;replace I:=I.fS W;refine dg 29 I h (v:=pt a0 b1) (ak rfl rfl) fun a I=>?_;refine gE [30] I fun a I=>?_;obtain⟨ca,Q,B⟩:=bd B;refine cR (i:=31) rfl (by kernel_rfl) I rfl rfl rfl h (bB I QN rfl rfl (yu _ _ I.dlt I.g27 (ah.mk c.1.r c.1.i ([])) a2 _ _ _ I.g10 I.g24 I.g0 _ Q) fun _ w C a O U=>⟨fq (O),?_⟩);obtain rfl:=C;have I:=eL U;refine gE [32,33] I fun a I=>?_;rcases cd B with⟨f,B⟩|⟨f,B⟩
       ·refine dg 34 I f (v:=.agg #[aj 0,.slice none 0 0,.slice none 0 0]) (bw (ps:=[]) I C3 mw rfl (us:=[]) trivial (ws:=[aj 0,.slice none 0 0,.slice none 0 0]) rfl) fun a I=>?_;refine gE [35] I fun a I=>?_;obtain⟨a3,F,B⟩:=bd B;obtain⟨a1,b2,c2,ao,av,I⟩:=lq (R:=ar) I ya uM 7 rfl F;obtain⟨d6,rfl,X⟩:=ao;replace I:=I.fS X;refine dg 36 I f (v:=pt a1 b2) (av rfl rfl) fun a I=>?_;refine gE [37] I fun a I=>?_;obtain⟨cb,S,B⟩:=bd B;refine cR (i:=38) rfl (by kernel_rfl) I rfl rfl rfl f (bB I QN rfl rfl (yu _ _ I.dlt I.g29 (ah.mk 0 ([]) ([])) a3 _ _ _ I.g27 I.g26 I.g0 _ S) fun _ w C a O U=>⟨fq (O),?_⟩);obtain rfl:=C;have I:=eL U;refine gE [39,40,41] I fun a I=>?_;refine eD ?_;exact fin
       refine gE [34,35,36,37,38,39,40,41] I fun a I=>?_;refine eD ?_;exact fin
      refine gE [27,28,29,30,31,32,33,34,35,36,37,38,39,40,41] I fun a I=>?_;refine eD ?_;exact fin
     refine gE [19,20,21,22,23,24,25,26,27,28,29,30,31,32,33,34,35,36,37,38,39,40,41] I fun a I=>?_;refine eD ?_;exact fin
    refine gE [13,14,15,16,17,18,19,20,21,22,23,24,25,26,27,28,29,30,31,32,33,34,35,36,37,38,39,40,41] I fun a I=>?_;refine eD ?_;exact fin
   refine gE [8,9,10,11,12,13,14,15,16,17,18,19,20,21,22,23,24,25,26,27,28,29,30,31,32,33,34,35,36,37,38,39,40,41] I fun a I=>?_;refine eD ?_;exact fin
  refine gE [4,5,6,7,8,9,10,11,12,13,14,15,16,17,18,19,20,21,22,23,24,25,26,27,28,29,30,31,32,33,34,35,36,37,38,39,40,41] I fun a I=>?_;refine eD ?_;exact fin
 rintro a w ⟨g,I,B⟩;unfold ep at B;exact fz
def jt (b:Bool):=some (b)
def gf (b:(ah×LK×Int)):=cond (b.2.2==0) ((j9).bind fun c=>jt c) (jt false)
def gj (g:(LU×ah×bj)) (e:(ah×Int)) (f:(LK×bj)) (c:(ah×LK×Int)) (b:Int):Option (Fl (Int) (Fl (Unit) Bool)):=cond (decide (b<(f.1.length:Int))) ((bu f.1 b).bind fun d=>(kq (ah.mk c.1.r c.1.i c.1.s) d).bind fun h=>(i6 g.1 (ah.mk e.1.r e.1.i ([])) d).bind fun j=>cond (!(h.1.toList==j.1.toList)) (some (.out (.out false))) (some (.go (IntKind.i64.wrap (b+1))))) (some (.out (.go ())))
def gg (c:(LU×ah×bj)) (d:(ah×Int)) (e:(LK×bj)) (b:(ah×LK×Int)):=(loop (fun s:Int=>gj c d e b s) 0).bind fun r=>Fl.el r (fun s=>gf b) (fun y=>some (y))
def gk (e:(ah×LK×Int)) (c:(ah×LK×Int)) (b:Int):Option (Fl (Int) (Fl (Unit) Bool)):=cond (decide (b<(c.2.1.length:Int))) ((bu c.2.1 b).bind fun d=>(jO e.2.1 d).bind fun f=>cond f (some (.out (.out false))) (some (.go (IntKind.i64.wrap (b+1))))) (some (.out (.go ())))
def gh (c:(LU×ah×bj)) (f:(LC×bj)) (g:(ah×Int)) (b:(ah×LK×Int)):=(lL (bj.mk f.2.L f.2.r1) c.1 3).bind fun e=>(fp uu c.1 (ah.mk b.1.r b.1.i b.1.s) e.1).bind fun d=>(loop (fun s:Int=>gk b d s) 0).bind fun r=>Fl.el r (fun s=>gg c g e d) (fun y=>some (y))
def gl (g:(LU×ah×bj)) (c:(ah×Int)) (f:(ah×LK×Int)) (e:Int):Option (Fl (Int) (Fl (Unit) Bool)):=cond (decide (e<(f.1.s.length:Int))) ((bu f.1.s e).bind fun b=>(i6 g.1 (ah.mk c.1.r c.1.i ([])) b.d).bind fun h=>(l6 g.1 (ah.mk c.1.r c.1.i ([])) b.d).bind fun j=>cond (h.2 != 0) (some (.out (.out false))) (cond (j.2 != 0) (some (.out (.out false))) (cond (!(b.u.toList==h.1.toList)) (some (.out (.out false))) ((jR b.k j.1).bind fun l=>cond (!(l)) (some (.out (.out false))) (cond (b.t != f.1.r) (some (.out (.out false))) (some (.go (IntKind.i64.wrap (e+1))))))))) (some (.out (.go ())))
def gN (g:LN):=(lM g).bind fun h=>cond (!(h)) ((j9).bind fun j=>some (j)) ((wW g).bind fun k=>(se k 3).bind fun b=>(jF (bj.mk b.2.2.L b.2.2.r1) b.1 (ah.mk b.2.1.r b.2.1.i b.2.1.s)).bind fun e=>(iR (bj.mk e.2.L e.2.r1) 3).bind fun f=>(eP (ah.mk b.2.1.r b.2.1.i b.2.1.s) f.1).bind fun d=>(fo b.1 (ah.mk d.1.r d.1.i ([])) e.1).bind fun c=>cond (c.2.2 != 0) (some (false)) (cond ((c.2.1.length:Int) != (c.1.s.length:Int)) (some (false)) ((iZ (ah.mk c.1.r c.1.i c.1.s)).bind fun l=>cond (!(l)) (some (false)) ((loop (fun s:Int=>gl b d c s) 0).bind fun r=>Fl.el r (fun s=>gh b f d c) (fun y=>some (y))))))
theorem xP (hLv:dh T L) (ab:LN) (v1:Value) (fM:aF (a6.int .i64) T L v1 ab) (y:Bool) (B:gN ab=some y):bg aR No 7 [v1] L (fun v w'=>v = .bool y):=by
 refine en Tryz.func7 Tryz.ntmps7 hT fun a I=>?_;replace I:=(I.fact bH (dh.dn hLv)).fS (aF.dn fM);unfold gN at B;refine am I fun a I=>?_;refine aC ?_;refine am I fun a I=>?_;obtain⟨hp,eg,B⟩:=bd B;refine kF I Sf (yS _ _ I.dlt ab _ I.g0 _ eg) fun w a I=>?_;rcases cd B with⟨ex,B⟩|⟨ex,B⟩
 ·refine am I fun a I=>?_;obtain⟨hq,ei,B⟩:=bd B;refine kE I Mh (qx _ _ I.dlt I.g1 _ ei) fun w a I=>?_;exact fz
 refine am I fun a I=>?_;obtain⟨d4,el,B⟩:=bd B;refine kc I PE (AE _ _ I.dlt ab _ I.g0 _ el) fun _ w C a O U=>?_;obtain⟨t,o,he,fs,b7,bl⟩:=C;obtain rfl:=he.symm;have I:=U [.box t (bo d4 o) 84] (gc b7 (fun k O=>by simp only [cT.dom,cw] at O; omega)) (wX _);replace I:=I.fS (bl.sub (eY _));refine am I fun a I=>?_;obtain⟨b,dl,B⟩:=bd B;refine wl rfl (iQ I PA rfl rfl 0 rfl (AD _ _ (I.drop 0).dlt d4 3 _ _ (I.zb 0 rfl) (I.zi 0 rfl) (aF.lent (i:=0) rfl I.g0) (bH.keep I.g2 (al _ _) (fun k O=>.inl ((mZ (i:=0) rfl k).1 O))) _ dl) fun _ w C O=>?_);obtain⟨j,d5,u,G,ht,he,bs,bt,⟨b8,b3,c1⟩,hrow,c2,V⟩:=C;obtain rfl:=he.symm;subst V;refine⟨(bo b.2.2 o),[aJ u G],hrow,gc ⟨b8,by decide⟩ b3,wX _,fun a I=>?_⟩;replace I:=(((I.fR (c1.keep (al _ _) (c8 (i:=0) rfl [aJ u G] _))).fS (bs.sub (c8 (i:=0) rfl [aJ u G] _))).fS (bt.sub (c8 (i:=0) rfl [aJ u G] _))).fS (c2.sub (c8 (i:=0) rfl [aJ u G] _));refine kA I mw fun g h8 a w O I=>?_;refine go I fun a w I=>?_;replace I:=I.zf (R:=aa) 1 rfl 3 rfl;obtain⟨Q,eq,B⟩:=bd B;refine wl rfl (iQ I Ql rfl rfl 1 rfl (uo _ _ (I.drop 1).dlt (bj.mk b.2.2.L b.2.2.r1) b.1 (ah.mk b.2.1.r b.2.1.i b.2.1.s) _ _ _ _ _ (I.zb 1 rfl) (I.zi 1 rfl) (aF.lent (i:=1) rfl I.g1) (aF.lent (i:=1) rfl I.g3) (aF.lent (i:=1) rfl I.g2) (aF.lent (i:=1) rfl I.g0) (bH.keep I.g7 (al _ _) (fun k O=>.inl ((mZ (i:=1) rfl k).1 O))) _ eq) fun _ w C O=>?_);obtain⟨a5,a0,hu,he,⟨b9,b4,c3⟩,hrow,c4,W⟩:=C;obtain rfl:=he.symm;subst W;refine⟨(bo Q.2 o),[bv a5 a0],hrow,gc ⟨b9,by decide⟩ b4,wX _,fun a I=>?_⟩;replace I:=(I.fR (c3.keep (al _ _) (c8 (i:=1) rfl [bv a5 a0] _))).fS (c4.sub (c8 (i:=1) rfl [bv a5 a0] _));refine am I fun a I=>?_;refine aC ?_;refine dr [(2,.blk (some t)),(7,.blk (some g))] I fun w hQ I=>?_;refine dq 0 I (l:=[.blk (some t)]) (v:=.agg (aU b.2.1 d5 u).toArray) (dm I rfl f9 1 rfl (gA I 1 rfl rfl 2 rfl rfl (by decide) bO) (us:=(aU b.2.1 d5 u)) rfl rfl (fun h=>by cases h)) fun a I=>?_;refine gE [1] I fun a I=>?_;obtain⟨n,e6,B⟩:=bd B;refine e1 2 (iQ I Mi rfl rfl 2 rfl (pa _ _ (I.drop 2).dlt (bj.mk Q.2.L Q.2.r1) 3 _ _ (I.zb 2 rfl) (I.zi 2 rfl) (aF.lent (i:=2) rfl I.g0) (bH.keep I.g9 (al _ _) (fun k O=>.inl ((mZ (i:=2) rfl k).1 O))) _ e6) fun _ w C O=>?_);obtain⟨a9,a1,hv,he,⟨bb,b5,c5⟩,hrow,c9,X⟩:=C;obtain rfl:=he.symm;subst X;refine⟨(bo n.2 o),[gn a9 a1],hrow,gc ⟨bb,by decide⟩ b5,wX _,fun a I=>⟨jf rfl O gB,?_⟩⟩;replace I:=((I.fR (c5.keep (al _ _) (c8 (i:=2) rfl [gn a9 a1] _))).fS (c9.sub (c8 (i:=2) rfl [gn a9 a1] _))).zf (R:=br) 0 rfl 1 rfl;obtain⟨e,ds,B⟩:=bd B;refine ec 3 I Kd (nE _ _ I.dlt I.g12 (ah.mk b.2.1.r b.2.1.i b.2.1.s) n.1 _ _ _ I.g7 I.g5 I.g0 _ ds) fun _ w C a O U=>?_;obtain⟨m,h3,hw,h4,he,ca,cb,b2⟩:=C;obtain rfl:=he.symm;have I:=Ar U ca cb b2;refine gE [4,5,6] I fun a I=>?_;refine es 7 I fun w I=>?_;refine eD ?_;refine go I fun a w I=>?_;replace I:=((I.zf (R:=ac) 0 rfl 1 rfl).fact (aL aa (.slice none 0 0) []) (aF.nil_ _ _ _)).zf (R:=ar) 1 rfl 8 rfl;obtain⟨f,e4,B⟩:=bd B;refine kc I Mj (nR _ _ I.dlt I.g17 b.1 (ah.mk e.1.r e.1.i ([])) Q.1 _ _ _ _ I.g13 I.g2 I.g1 I.g0 _ e4) fun _ w C a O U=>?_;obtain⟨S,H,D,z,he,ch,ck,cl⟩:=C;obtain rfl:=he.symm;have I:=qs U cl;replace I:=(I.fS (ch.sub (eY _))).fS (ck.sub (eY _));refine kA I mw fun K h9 a w O I=>?_;refine go I fun a w I=>?_;refine aC ?_;refine io ?_;refine am I fun a I=>?_;rcases cd B with⟨eT,B⟩|⟨eT,B⟩
 ·exact fz
 refine am I fun a I=>?_;rcases cd B with⟨av,B⟩|⟨av,B⟩
 ·exact fz
 refine am I fun a I=>?_;obtain⟨hs,er,B⟩:=bd B;refine wg I rfl rfl rfl av (bB I Ke rfl rfl (nF _ _ I.dlt I.g20 (ah.mk f.1.r f.1.i f.1.s) _ _ I.g1 I.g0 _ er) fun _ w C a O U=>?_);obtain rfl:=C;have I:=eL U;refine am I fun a I=>?_;rcases cd B with⟨eX,B⟩|⟨eX,B⟩
 ·exact fz
 refine am I fun a I=>?_;refine aM (J:=fun a w=>St L No T 173 [(3,pt t 0),(4,j),(5,pt g 0),(7,pt K 0),(8,D)] [aA D z,.box t (bo n.2 o) 84,.box g (aU e.1 m (.slice none 0 0)) 25,.box K (aU f.1 S H) 25] [aL an j b.1,ap ad z f.2.1,aL (a6.int .i64) o n.2.L,aL ac m e.1.i,aL ac S f.1.i,aL aa H f.1.s,bH] a w/\gh b n e f=some y) ?_ ?_
 ·refine am I fun a I=>?_;obtain⟨r1,Z,hMo1⟩:=bd B;refine bF _ (fun s a w=>∃ (P:Int),P=s/\St L No T 173 [(3,pt t 0),(4,j),(5,pt g 0),(7,pt K 0),(8,D),(75,H),(76,aj (f.1.s.length:Int)),(77,aj P)] [aA D z,.box t (bo n.2 o) 84,.box g (aU e.1 m (.slice none 0 0)) 25,.box K (aU f.1 S H) 25] [aL an j b.1,ap ad z f.2.1,aL aa H f.1.s,aL (a6.int .i64) o n.2.L,aL ac m e.1.i,aL ac S f.1.i,bH] a w) Z ⟨_,rfl,I.mt [1,4,3,0] [16,2,0,9,5,1,20]⟩ ?_;rintro s a w f1 ⟨P,rfl,I⟩ B hf1;have B:gl b e f P=some f1:=B;unfold gl at B;refine am I fun a I=>?_;refine aC ?_;rcases cd B with⟨f2,B⟩|⟨f2,B⟩
  ·refine am I fun a I=>?_;refine aC ?_;refine am I fun a I=>?_;obtain⟨a3,d9,B⟩:=bd B;refine wl rfl (bn (R:=aa) I mV j6 rfl rfl 2 rfl d9 rfl fun gs hf h5 f3 a I=>?_);obtain⟨hx,rfl,et⟩:=f3;replace I:=I.fS et;refine kA I eJ fun gu ha a w O I=>?_;refine go I fun a w I=>?_;replace I:=I.fact (aL aa (.slice none 0 0) []) (aF.nil_ _ _ _);obtain⟨hn,e8,B⟩:=bd B;refine kF I QE (xw _ _ I.dlt I.g9 b.1 (ah.mk e.1.r e.1.i ([])) a3.d _ _ _ I.g3 I.g7 I.g0 _ e8) fun w a I=>?_;obtain⟨fr,ea,B⟩:=bd B;refine kc I RE (C8 _ _ I.dlt I.g9 b.1 (ah.mk e.1.r e.1.i ([])) a3.d _ _ _ I.g3 I.g7 I.g0 _ ea) fun _ w C a O U=>?_;obtain⟨hy,he,cs⟩:=C;obtain rfl:=he.symm;have I:=U [] (fun r hr=>by cases hr) pY;replace I:=I.fS (cs.sub (eY _));refine am I fun a I=>?_;refine io ?_;refine am I fun a I=>?_;rcases cd B with⟨f4,B⟩|⟨f4,B⟩
   ·exact fz
   refine am I fun a I=>?_;rcases cd B with⟨f5,B⟩|⟨f5,B⟩
   ·exact fz
   refine am I fun a I=>?_;rcases cd B with⟨b0,B⟩|⟨b0,B⟩
   ·exact fz
   refine am I fun a I=>?_;obtain⟨ho,ed,B⟩:=bd B;refine wg I rfl rfl rfl b0 (bB I QF rfl rfl (uy _ _ I.dlt a3.k fr.1 _ _ I.g2 I.g0 _ ed) fun _ w C a O U=>?_);obtain rfl:=C;have I:=eL U;exact fz
  exact fz
 rintro a w ⟨I,B⟩;unfold gh at B;refine am I fun a I=>?_;obtain⟨q,e0,B⟩:=bd B;refine wl rfl (iQ I Kf rfl rfl 1 rfl (pb _ _ (I.drop 1).dlt (bj.mk n.2.L n.2.r1) b.1 3 _ _ _ (I.zb 1 rfl) (I.zi 1 rfl) (aF.lent (i:=1) rfl I.g2) (aF.lent (i:=1) rfl I.g0) (bH.keep I.g6 (al _ _) (fun k O=>.inl ((mZ (i:=1) rfl k).1 O))) _ e0) fun _ w C O=>?_);obtain⟨p,a2,hz,he,⟨bi,b6,cv⟩,hrow,d0,Y⟩:=C;obtain rfl:=he.symm;subst Y;refine⟨(bo q.2 o),[aA p a2],hrow,gc ⟨bi,by decide⟩ b6,wX _,fun a I=>?_⟩;replace I:=(I.fR (cv.keep (al _ _) (c8 (i:=1) rfl [aA p a2] _))).fS (d0.sub (c8 (i:=1) rfl [aA p a2] _));refine am I fun a I=>?_;replace I:=I.zf (R:=ad) 0 rfl 1 rfl;obtain⟨c,dc,B⟩:=bd B;refine kc I Mk (n8 _ _ I.dlt I.g9 uu Rw b.1 (ah.mk f.1.r f.1.i f.1.s) q.1 _ _ _ _ I.g3 I.g7 I.g8 I.g0 _ dc) fun _ w C a O U=>?_;obtain⟨E,F,A,d6,af,he,d1,d2,d3,b2⟩:=C;obtain rfl:=he.symm;have I:=Ar U d2 d3 b2;replace I:=I.fS (d1.sub (eY _));refine kA I mw fun x hb a w O I=>?_;refine go I fun a w I=>?_;refine aM (J:=fun a w=>St L No T 173 [(4,j),(5,pt g 0),(16,p),(17,pt x 0),(19,aj c.2.2)] [.box g (aU e.1 m (.slice none 0 0)) 25,aJ F A,.box x (aU c.1 E F) 25] [aL an j b.1,aL ad p q.1,aL ac m e.1.i,aL ac E c.1.i,ap aa A c.1.s,bH] a w/\gg b e q c=some y) ?_ ?_
 ·refine am I fun a I=>?_;obtain⟨r1,Z,hMo1⟩:=bd B;refine bF _ (fun s a w=>∃ (N:Int),N=s/\St L No T 173 [(4,j),(5,pt g 0),(8,D),(16,p),(17,pt x 0),(19,aj c.2.2),(135,d6),(136,aj (c.2.1.length:Int)),(137,aj N)] [aA D z,aA d6 af,.box g (aU e.1 m (.slice none 0 0)) 25,aJ F A,.box x (aU c.1 E F) 25] [aL an j b.1,ap ad z f.2.1,aL ad p q.1,ap ad af c.2.1,aL ac m e.1.i,aL ac E c.1.i,ap aa A c.1.s,bH] a w) Z ⟨_,rfl,I.mt [3,2,5,1,0] [6,7,3,1,9,0,2,12]⟩ ?_;rintro s a w f1 ⟨N,rfl,I⟩ B hf1;have B:gk f c N=some f1:=B;unfold gk at B;refine am I fun a I=>?_;refine aC ?_;rcases cd B with⟨f6,B⟩|⟨f6,B⟩
  ·refine am I fun a I=>?_;refine aC ?_;refine am I fun a I=>?_;obtain⟨ak,d8,B⟩:=bd B;refine wl rfl (dx (R:=ad) I j7 dB rfl rfl 1 rfl 3 rfl d8 rfl fun gH hg hi h6 f7 f8 fd a I=>?_);obtain rfl:=f7;refine qy I (cg (k:=0) I dB 1 rfl f8 fd rfl id (us:=(aX ak)) rfl rfl (fun h=>by cases h)) fun a I=>?_;refine ka I fH fun h0 hc a w O I=>?_;refine go I fun a w I=>?_;have hL:=I;replace hL:=hL.zf (R:=ad) 1 rfl 1 rfl;obtain⟨hm,e5,B⟩:=bd B;refine kE I Kg (qX _ _ hL.dlt f.2.1 ak _ hL.g0 _ e5) fun w a I=>?_;exact fz
  exact fz
 rintro a w ⟨I,B⟩;unfold gg at B;refine aM (J:=fun a w=>St L No T 173 [(19,aj c.2.2)] [] [bH] a w/\gf c=some y) ?_ ?_
 ·refine am I fun a I=>?_;obtain⟨r1,Z,hMo1⟩:=bd B;refine bF _ (fun s a w=>∃ (M:Int),M=s/\St L No T 173 [(4,j),(5,pt g 0),(17,pt x 0),(19,aj c.2.2),(145,p),(146,aj (q.1.length:Int)),(147,aj M)] [.box g (aU e.1 m (.slice none 0 0)) 25,aJ F A,.box x (aU c.1 E F) 25] [aL an j b.1,aL ad p q.1,aL ac m e.1.i,aL ac E c.1.i,ap aa A c.1.s,bH] a w) Z ⟨_,rfl,I.mt [0,1,2] [0,1,2,3,4,5]⟩ ?_;rintro s a w f1 ⟨M,rfl,I⟩ B hf1;have B:gj b e q c M=some f1:=B;unfold gj at B;refine am I fun a I=>?_;refine aC ?_;rcases cd B with⟨fl,B⟩|⟨fl,B⟩
  ·refine am I fun a I=>?_;refine aC ?_;refine am I fun a I=>?_;obtain⟨ag,d7,B⟩:=bd B;refine wl rfl (bn (R:=ad) I j7 dB rfl rfl 1 rfl d7 rfl fun h1 hh h7 fn a I=>?_);obtain rfl:=fn;refine kA I fH fun h2 hd a w O I=>?_;refine go I fun a w I=>?_;have hL:=I;replace hL:=hL.zf (R:=aa) 2 rfl 5 rfl;obtain⟨hk,e2,B⟩:=bd B;refine kF I QG (za _ _ hL.dlt (ah.mk c.1.r c.1.i c.1.s) ag _ _ hL.g5 hL.g0 _ e2) fun w a I=>?_;replace I:=I.fact (aL aa (.slice none 0 0) []) (aF.nil_ _ _ _);obtain⟨hl,e3,B⟩:=bd B;refine kE I QE (xw _ _ I.dlt I.g7 b.1 (ah.mk e.1.r e.1.i ([])) ag _ _ _ I.g2 I.g4 I.g0 _ e3) fun w a I=>?_;exact fz
  exact fz
 rintro a w ⟨I,B⟩;unfold gf at B;refine aM (J:=fun a w=>∃ (a4:Bool),St L No T 173 [(2,.bool a4)] [] [bH] a w/\jt a4=some y) ?_ ?_
 ·refine am I fun a I=>?_;rcases cd B with⟨b1,B⟩|⟨b1,B⟩
  ·obtain⟨hj,dk,B⟩:=bd B;refine wg I rfl rfl rfl b1 (bB I Mh rfl rfl (qx _ _ I.dlt I.g0 _ dk) fun _ w C a O U=>?_);obtain rfl:=C;have I:=eL U;exact fz
  exact fz
 rintro a w ⟨a4,I,B⟩;unfold jt at B;exact fz
def kl (b:Bool):=some (b)
def gW (c:(LU×ah×bj)) (b:(ah×LK×Int)):=cond ((b.1.s.length:Int)==(IntKind.i64.wrap ((c.2.1.s.length:Int)+(b.2.1.length:Int)))) ((j9).bind fun d=>kl d) (kl false)
def gY (g:(LU×ah×bj)) (h:(ah×LK×Int)) (i:(ah×LK×Int)) (f:Int):Option (Fl (Int) (Fl (Unit) Bool)):=cond (decide (f<(g.2.1.s.length:Int))) ((bu g.2.1.s f).bind fun e=>(cm h.1.s e.d).bind fun b=>(cm i.1.s e.d).bind fun c=>cond (!(b.2)) (some (.out (.out false))) (cond (!(c.2)) (some (.out (.out false))) ((jn (au.mk (ae.mk b.1.d.v b.1.d.x) b.1.u b.1.k b.1.a b.1.t b.1.j b.1.w) e).bind fun l=>cond (!(l)) (some (.out (.out false))) ((jn (au.mk (ae.mk c.1.d.v c.1.d.x) c.1.u c.1.k c.1.a c.1.t c.1.j c.1.w) e).bind fun m=>cond (!(m)) (some (.out (.out false))) (some (.go (IntKind.i64.wrap (f+1)))))))) (some (.out (.go ())))
def gX (b:(LU×ah×bj)) (c:(ah×LK×Int)) (d:(ah×LK×Int)):=(loop (fun s:Int=>gY b c d s) 0).bind fun r=>Fl.el r (fun s=>gW b c) (fun y=>some (y))
def gZ (c:(ah×LK×Int)) (e:(ah×LK×Int)) (b:Int):Option (Fl (Int) (Fl (Unit) Bool)):=cond (decide (b<(c.2.1.length:Int))) ((bu c.2.1 b).bind fun d=>(jO e.2.1 d).bind fun f=>cond (!(f)) (some (.out (.out false))) (some (.go (IntKind.i64.wrap (b+1))))) (some (.out (.go ())))
def iF (f:LN) (g:Int):=(lM f).bind fun j=>cond (!(j)) ((j9).bind fun k=>some (k)) ((wW f).bind fun l=>(se l 4).bind fun b=>(jF (bj.mk b.2.2.L b.2.2.r1) b.1 (ah.mk b.2.1.r b.2.1.i b.2.1.s)).bind fun e=>(sU g (IntKind.i64.wrap ((e.1.length:Int)+1))).bind fun m=>(pU e.1 0 m).bind fun h=>(fo b.1 (ah.mk b.2.1.r b.2.1.i b.2.1.s) h).bind fun c=>(fo b.1 (ah.mk b.2.1.r b.2.1.i b.2.1.s) e.1).bind fun d=>cond (c.2.2 != 0) (some (false)) (cond (d.2.2 != 0) (some (false)) ((loop (fun s:Int=>gZ c d s) 0).bind fun r=>Fl.el r (fun s=>gX b c d) (fun y=>some (y)))))
theorem yP (hLv:dh T L) (Z:LN) (S:Int) (v1:Value) (ed:aF (a6.int .i64) T L v1 Z) (y:Bool) (B:iF Z S=some y):bg aR No 8 [v1,aj S] L (fun v w'=>v = .bool y):=by
 refine en Tryz.func8 Tryz.ntmps8 hT fun a I=>?_;replace I:=(I.fact bH (dh.dn hLv)).fS (aF.dn ed);unfold iF at B;refine am I fun a I=>?_;refine aC ?_;refine am I fun a I=>?_;obtain⟨gu,cv,B⟩:=bd B;refine kF I Sf (yS _ _ I.dlt Z _ I.g0 _ cv) fun w a I=>?_;rcases cd B with⟨d7,B⟩|⟨d7,B⟩
 ·refine am I fun a I=>?_;obtain⟨gH,d0,B⟩:=bd B;refine kE I Mh (qx _ _ I.dlt I.g1 _ d0) fun w a I=>?_;exact fz
 refine am I fun a I=>?_;obtain⟨bs,d1,B⟩:=bd B;refine kc I PE (AE _ _ I.dlt Z _ I.g0 _ d1) fun _ w C a O U=>?_;obtain⟨d5,X,he,ea,ab,ak⟩:=C;obtain rfl:=he.symm;have I:=U [.box d5 (bo bs X) 84] (gc ab (fun k O=>by simp only [cT.dom,cw] at O; omega)) (wX _);replace I:=I.fS (ak.sub (eY _));refine am I fun a I=>?_;obtain⟨b,c4,B⟩:=bd B;refine wl rfl (iQ I PA rfl rfl 0 rfl (AD _ _ (I.drop 0).dlt bs 4 _ _ (I.zb 0 rfl) (I.zi 0 rfl) (aF.lent (i:=0) rfl I.g0) (bH.keep I.g2 (al _ _) (fun k O=>.inl ((mZ (i:=0) rfl k).1 O))) _ c4) fun _ w C O=>?_);obtain⟨h1,q,f,G,h2,he,ao,av,⟨af,a5,b0⟩,hrow,b1,N⟩:=C;obtain rfl:=he.symm;subst N;refine⟨(bo b.2.2 X),[aJ f G],hrow,gc ⟨af,by decide⟩ a5,wX _,fun a I=>?_⟩;replace I:=(((I.fR (b0.keep (al _ _) (c8 (i:=0) rfl [aJ f G] _))).fS (ao.sub (c8 (i:=0) rfl [aJ f G] _))).fS (av.sub (c8 (i:=0) rfl [aJ f G] _))).fS (b1.sub (c8 (i:=0) rfl [aJ f G] _));refine kA I mw fun l f4 a w O I=>?_;refine go I fun a w I=>?_;replace I:=I.zf (R:=aa) 1 rfl 3 rfl;obtain⟨W,d2,B⟩:=bd B;refine wl rfl (iQ I Ql rfl rfl 1 rfl (uo _ _ (I.drop 1).dlt (bj.mk b.2.2.L b.2.2.r1) b.1 (ah.mk b.2.1.r b.2.1.i b.2.1.s) _ _ _ _ _ (I.zb 1 rfl) (I.zi 1 rfl) (aF.lent (i:=1) rfl I.g1) (aF.lent (i:=1) rfl I.g3) (aF.lent (i:=1) rfl I.g2) (aF.lent (i:=1) rfl I.g0) (bH.keep I.g7 (al _ _) (fun k O=>.inl ((mZ (i:=1) rfl k).1 O))) _ d2) fun _ w C O=>?_);obtain⟨Y,Q,h3,he,⟨ag,a9,b2⟩,hrow,b3,P⟩:=C;obtain rfl:=he.symm;subst P;refine⟨(bo W.2 X),[bv Y Q],hrow,gc ⟨ag,by decide⟩ a9,wX _,fun a I=>?_⟩;replace I:=(I.fR (b2.keep (al _ _) (c8 (i:=1) rfl [bv Y Q] _))).fS (b3.sub (c8 (i:=1) rfl [bv Y Q] _));refine am I fun a I=>?_;obtain⟨h0,d3,B⟩:=bd B;refine kE I QD (BT _ _ I.dlt S (IntKind.i64.wrap ((W.1.length:Int)+1)) _ d3) fun w a I=>?_;obtain⟨e6,c3,B⟩:=bd B;obtain⟨e8,d8,d9⟩:=wc (R:=ar) I ya uM 0 rfl 1 rfl c3;refine wl rfl (ky (v:=e8) I (d9 (k1:=.i64) rfl (.inr ⟨rfl,rfl⟩) (.inl ⟨_,rfl,rfl⟩)) rfl rfl fun a I=>?_);refine am I fun a I=>?_;replace I:=I.zf (R:=ar) 0 rfl 1 rfl;replace I:=I.fS (d8 _ _ I.g0);obtain⟨c,c5,B⟩:=bd B;refine kc I Mj (nR _ _ I.dlt I.g11 b.1 (ah.mk b.2.1.r b.2.1.i b.2.1.s) e6 _ _ _ _ I.g7 I.g6 I.g4 I.g0 _ c5) fun _ w C a O U=>?_;obtain⟨z,A,g,n,he,b4,b5,b6⟩:=C;obtain rfl:=he.symm;have I:=qs U b6;replace I:=(I.fS (b4.sub (eY _))).fS (b5.sub (eY _));refine kA I mw fun m f5 a w O I=>?_;refine go I fun a w I=>?_;obtain⟨e,ca,B⟩:=bd B;refine kc I Mj (nR _ _ I.dlt I.g14 b.1 (ah.mk b.2.1.r b.2.1.i b.2.1.s) W.1 _ _ _ _ I.g10 I.g9 I.g7 I.g4 _ ca) fun _ w C a O U=>?_;obtain⟨E,F,bt,a0,he,b7,b8,b9⟩:=C;obtain rfl:=he.symm;have I:=qs U b9;replace I:=(I.fS (b7.sub (eY _))).fS (b8.sub (eY _));refine kA I mw fun D f6 a w O I=>?_;refine go I fun a w I=>?_;refine aC ?_;refine io ?_;refine am I fun a I=>?_;rcases cd B with⟨dc,B⟩|⟨dc,B⟩
 ·exact fz
 refine am I fun a I=>?_;rcases cd B with⟨dk,B⟩|⟨dk,B⟩
 ·exact fz
 refine am I fun a I=>?_;refine aM (J:=fun a w=>St L No T 134 [(7,pt l 0),(10,pt m 0),(11,g),(13,pt D 0)] [aA g n,.box l (aU b.2.1 q f) 25,.box m (aU c.1 z A) 25,.box D (aU e.1 E F) 25] [ap ad n c.2.1,aL ac q b.2.1.i,aL aa f b.2.1.s,aL ac z c.1.i,aL aa A c.1.s,aL ac E e.1.i,aL aa F e.1.s,bH] a w/\gX b c e=some y) ?_ ?_
 ·refine am I fun a I=>?_;obtain⟨r1,bl,hMo1⟩:=bd B;refine bF _ (fun s a w=>∃ (M:Int),M=s/\St L No T 134 [(7,pt l 0),(10,pt m 0),(11,g),(13,pt D 0),(14,bt),(68,g),(69,aj (c.2.1.length:Int)),(70,aj M)] [aA g n,aA bt a0,.box l (aU b.2.1 q f) 25,.box m (aU c.1 z A) 25,.box D (aU e.1 E F) 25] [ap ad n c.2.1,ap ad a0 e.2.1,aL ac q b.2.1.i,aL aa f b.2.1.s,aL ac z c.1.i,aL aa A c.1.s,aL ac E e.1.i,aL aa F e.1.s,bH] a w) bl ⟨_,rfl,I.mt [3,1,4,2,0] [5,2,12,10,4,3,1,0,17]⟩ ?_;rintro s a w f1 ⟨M,rfl,I⟩ B hf1;have B:gZ c e M=some f1:=B;unfold gZ at B;refine am I fun a I=>?_;refine aC ?_;rcases cd B with⟨dl,B⟩|⟨dl,B⟩
  ·refine am I fun a I=>?_;refine aC ?_;refine am I fun a I=>?_;obtain⟨a1,c2,B⟩:=bd B;refine wl rfl (dx (R:=ad) I j7 dB rfl rfl 0 rfl 0 rfl c2 rfl fun ei fn fs eT ds e0 e2 a I=>?_);obtain rfl:=ds;refine qy I (cg (k:=0) I dB 0 rfl e0 e2 rfl id (us:=(aX a1)) rfl rfl (fun h=>by cases h)) fun a I=>?_;refine ka I fH fun el f7 a w O I=>?_;refine go I fun a w I=>?_;have hL:=I;replace hL:=hL.zf (R:=ad) 2 rfl 1 rfl;obtain⟨gs,cs,B⟩:=bd B;refine kE I Kg (qX _ _ hL.dlt e.2.1 a1 _ hL.g0 _ cs) fun w a I=>?_;exact fz
  exact fz
 rintro a w ⟨I,B⟩;unfold gX at B;refine aM (J:=fun a w=>St L No T 134 [(7,pt l 0),(10,pt m 0),(11,g)] [aA g n,.box l (aU b.2.1 q f) 25,.box m (aU c.1 z A) 25] [ap ad n c.2.1,aL ac q b.2.1.i,aL aa f b.2.1.s,aL ac z c.1.i,aL aa A c.1.s,bH] a w/\gW b c=some y) ?_ ?_
 ·refine am I fun a I=>?_;obtain⟨r1,bl,hMo1⟩:=bd B;refine bF _ (fun s a w=>∃ (K:Int),K=s/\St L No T 134 [(7,pt l 0),(10,pt m 0),(11,g),(13,pt D 0),(80,f),(81,aj (b.2.1.s.length:Int)),(82,aj K)] [aA g n,.box l (aU b.2.1 q f) 25,.box m (aU c.1 z A) 25,.box D (aU e.1 E F) 25] [ap ad n c.2.1,aL aa f b.2.1.s,aL ac q b.2.1.i,aL ac z c.1.i,aL aa A c.1.s,aL ac E e.1.i,aL aa F e.1.s,bH] a w) bl ⟨_,rfl,I.mt [0,1,2,3] [0,2,1,3,4,5,6,7]⟩ ?_;rintro s a w f1 ⟨K,rfl,I⟩ B hf1;have B:gY b c e K=some f1:=B;unfold gY at B;refine am I fun a I=>?_;refine aC ?_;rcases cd B with⟨e3,B⟩|⟨e3,B⟩
  ·refine am I fun a I=>?_;refine aC ?_;refine am I fun a I=>?_;obtain⟨H,c1,B⟩:=bd B;refine wl rfl (bn (R:=aa) I mV j6 rfl rfl 1 rfl c1 rfl fun eq fr eX e4 a I=>?_);obtain⟨h4,rfl,d4⟩:=e4;replace I:=I.fS d4;refine kA I eJ fun er f8 a w O I=>?_;refine go I fun a w I=>?_;obtain⟨o,cb,B⟩:=bd B;refine kc I rM (bR _ _ I.dlt c.1.s H.d _ I.g6 _ cb) fun _ w C a O U=>?_;obtain⟨h5,f2,he,bb⟩:=C;obtain rfl:=he.symm;have I:=qs U bb;refine kA I eJ fun et fd a w O I=>?_;refine go I fun a w I=>?_;obtain⟨p,ch,B⟩:=bd B;refine kc I rM (bR _ _ I.dlt e.1.s H.d _ I.g9 _ ch) fun _ w C a O U=>?_;obtain⟨h6,f3,he,bi⟩:=C;obtain rfl:=he.symm;have I:=qs U bi;refine kA I eJ fun ex fl a w O I=>?_;refine go I fun a w I=>?_;refine io ?_;refine am I fun a I=>?_;rcases cd B with⟨e5,B⟩|⟨e5,B⟩
   ·exact fz
   refine am I fun a I=>?_;rcases cd B with⟨a2,B⟩|⟨a2,B⟩
   ·exact fz
   refine am I fun a I=>?_;have hL:=I;replace hL:=hL.zf (R:=ad) 3 rfl 1 rfl;obtain⟨gb,ck,B⟩:=bd B;refine wg I rfl rfl rfl a2 (bB I QH rfl rfl (vP _ _ hL.dlt (au.mk (ae.mk o.1.d.v o.1.d.x) o.1.u o.1.k o.1.a o.1.t o.1.j o.1.w) H _ _ hL.g0 hL.g3 _ ck) fun _ w C a O U=>?_);obtain rfl:=C;have I:=eL U;refine am I fun a I=>?_;rcases cd B with⟨a3,B⟩|⟨a3,B⟩
   ·exact fz
   refine am I fun a I=>?_;have hL:=I;replace hL:=hL.zf (R:=ad) 1 rfl 0 rfl;obtain⟨gi,cl,B⟩:=bd B;refine wg I rfl rfl rfl a3 (bB I QH rfl rfl (vP _ _ hL.dlt (au.mk (ae.mk p.1.d.v p.1.d.x) p.1.u p.1.k p.1.a p.1.t p.1.j p.1.w) H _ _ hL.g0 hL.g3 _ cl) fun _ w C a O U=>?_);obtain rfl:=C;have I:=eL U;exact fz
  exact fz
 rintro a w ⟨I,B⟩;unfold gW at B;refine aM (J:=fun a w=>∃ (V:Bool),St L No T 134 [(4,.bool V)] [] [bH] a w/\kl V=some y) ?_ ?_
 ·refine am I fun a I=>?_;rcases cd B with⟨a4,B⟩|⟨a4,B⟩
  ·obtain⟨g8,c9,B⟩:=bd B;refine wg I rfl rfl rfl a4 (bB I Mh rfl rfl (qx _ _ I.dlt I.g5 _ c9) fun _ w C a O U=>?_);obtain rfl:=C;have I:=eL U;exact fz
  exact fz
 rintro a w ⟨V,I,B⟩;unfold kl at B;exact fz
end
end
section
open Go.Lib hiding intOf
structure MI (l:List aN) (b:ah) (m:List (ae×aT)):Prop where
 right:∀ k d,fP l k->cF aK k m=some d->xa b k=true/\d=yk (vK l (inB b) k)
 full:∀ k,fP l k->cE b k=true->(cF aK k m).isSome=true
def E9 (l:List aN) (b:ah) (r:cz):Prop:=xa b r.d=true/\r.d1=yk (vK l (inB b) r.d)
section
variable {l:List aN} {b b0:ah} {m:List (ae×aT)}
theorem MI.put (h:MI l b m) {k:ae} {d:aT} (O:xa b k=true) (hd:d=yk (vK l (inB b) k)):MI l b (dS aK k d m):=by
 refine⟨fun q e hq he=>?_,fun q hq hv=>?_⟩
 ·rw [kR dI] at he;by_cases hqk:aK q k=true
  ·rw [if_pos hqk] at he;obtain rfl:=(dI _ _).1 hqk;rw [<- bM he];exact⟨O,hd⟩
  ·rw [if_neg hqk] at he;exact h.right q e hq he
 ·rw [kR dI];split
  ·rfl
  ·exact h.full q hq hv
theorem yN (C:aV l) (hB:dF l b) (hV:CP l b):Ok (lD b) fun y=>y.b=b/\MI l b y.z:=by
 have hl:=C.high;have hnr:=hB.nrec;unfold lD;refine bz (fun (j:Nat) (s:Int×(List (ae×aT)))=>s.1=j/\(∀ k d,cF aK k s.2=some d->cE b k=true/\d=yk (bc b.s k).1.u)/\∀ i x,i<j->b.s[i]? = some x->x.t=b.r->(cF aK x.d s.2).isSome=true) (fun r=>MI l b r) b.s.length ⟨rfl,(fun k d h=>by cases h),fun i x hi=>absurd hi (by omega)⟩ ?_ (fun r hr=>ai ⟨rfl,hr⟩);rintro j ⟨i,m⟩ hj ⟨rfl,h1,h2⟩;dsimp only at h1 h2 ⊢;unfold oW;refine aE (fun hlt=>?_) (fun hlt=>ai ?_)
 ·have hlt:j<b.s.length:=by have:=of_decide_eq_true hlt; omega
  have hm:=dR hlt;have hx:=bA hlt;refine aH (bm hlt) (aE (fun hv=>?_) (fun hv=>ai ⟨hlt,cH (by omega),h1,fun i x hi hx2 hx3=>?_⟩))
  ·have hv:b.s[j].t=b.r:=by simpa using hv
   have hsz:=(hB.recs _ hm).value;refine aH (Hl (s:=b.s[j].u) (by omega)) (ai ⟨hlt,cH (by omega),fun k d hd=>?_,fun i x hi hx2 hx3=>?_⟩)
   ·rw [kR dI] at hd;by_cases hq:aK k b.s[j].d=true
    ·rw [if_pos hq] at hd;obtain rfl:=(dI _ _).1 hq;rw [rB hB hm,iP hB.recsA hm rfl,<- bM hd];exact⟨decide_eq_true hv,rfl⟩
    ·rw [if_neg hq] at hd;exact h1 k d hd
   ·rw [kR dI];split
    ·rfl
    ·rename_i hne;by_cases hij:i=j
     ·subst hij;rw [hx] at hx2;obtain rfl:=bM hx2;exact absurd ((dI _ _).2 rfl) hne
     ·exact h2 i x (by omega) hx2 hx3
  ·have hv:b.s[j].t≠b.r:=by simpa using hv
   by_cases hij:i=j
   ·subst hij;rw [hx] at hx2;obtain rfl:=bM hx2;exact absurd hx3 hv
   ·exact h2 i x (by omega) hx2 hx3
 ·have hlt:=of_decide_eq_false hlt;have hjl:j=b.s.length:=by omega
  refine⟨fun k d O hd=>?_,fun k O hv=>?_⟩
  ·obtain⟨g1,g2⟩:=h1 k d hd;have hkn:xa b k=true:=by unfold xa; rw [g1,GI]
   refine⟨hkn,?_⟩;rw [<- hV.kn O hkn,g2];rcases O with⟨c,_,rfl⟩|⟨n,_,rfl⟩
   ·unfold cE at g1;rw [kg] at g1;obtain⟨n,_,e⟩:=(hB.found g1.1).1.key;rw [(hB.found g1.1).2] at e;exact absurd e oX
   ·unfold MC;rw [if_neg wD]
  ·unfold cE at hv;rw [kg,decide_eq_true_eq] at hv;obtain⟨f1,f2⟩:=bW hv.1;obtain⟨i,hi⟩:=iD.1 f1;have:=h2 i _ (by have:=aY hi; omega) hi hv.2;rw [f2] at this;exact this
theorem Iq (C:aV l) (hB:dF l b) (hb0:∀ k,inB b0 k=inB b k) (hr0:Rm b0.i.length) (hm:MI l b m) {k:ae} (O:fP l k):Ok (jB ⟨b0,m⟩ k) fun y=>y.2.1=xa b k/\(y.2.1=true->y.1=yk (vK l (inB b) k))/\MI l b y.2.2:=by
 have hl:=C.high;unfold jB;dsimp only;refine aH (v:=(cF aK k m).getD (aT.mk 0 0)) rfl ?_;cases hg:cF aK k m with
 | some d =>
  obtain⟨h1,h2⟩:=hm.right k d O hg;simp only [E4,dC,cond_false,yi];unfold fL fK;rw [hg];exact ai ⟨h1.symm,fun _=>h2,hm⟩
 | none =>
  simp only [E3,nO,cond_true,Option.getD_none];rw [EI];unfold fL fK;rcases O with⟨c,hc,rfl⟩|⟨n,hn,rfl⟩
  ·refine aH ki ?_;simp only [cond_true];refine aH (OM hr0 _) ?_;have e:(nr b0 (bJ c)).u=inB b (bJ c):=hb0 _;rw [e];have h8:=hB.in8 (bJ c);refine aH (Hl (s:=inB b (bJ c)) (by omega)) (ai ⟨vg.symm,fun _=>?_,hm.put vg ?_⟩)
   ·rw [jx]
   ·rw [jx]
  ·refine aH k5 ?_;simp only [cond_false];rw [hg];have hv:cE b (rk l n)=false:=by
    cases hv:cE b (rk l n) with
    | false=>rfl
    | true =>
     have:=hm.full _ (.inr ⟨n,hn,rfl⟩) hv;rw [hg] at this; cases this
   exact ai ⟨by rw [FR,hv]; rfl,(fun h=>by cases h),hm⟩
theorem Bz (d:aT):aT.mk d.k1 d.v1=d:=rfl
theorem Mu (C:aV l) (hB:dF l b) (hb0:∀ k,inB b0 k=inB b k) (hr0:Rm b0.i.length) (hm:MI l b m) {r:cz} (O:fP l r.d):Ok (gV r ⟨b0,m⟩) fun y=>(y.1=false↔E9 l b r)/\MI l b y.2:=by
 unfold gV eV;refine aD (Iq C hB hb0 hr0 hm O) fun y ⟨y1,y2,y3⟩=>aE (fun h=>ai ⟨?_,y3⟩) (fun h=>ai ⟨?_,y3⟩)
 ·have h:y.2.1=false:=by simpa using h
  rw [y1] at h;refine⟨fun e=>(by cases e),fun e=>?_⟩;have e1:=e.1;rw [h] at e1; cases e1
 ·have h:y.2.1=true:=by simpa using h
  have y2:=y2 h;rw [y1] at h;show (!_)=false↔_;rw [y2];constructor
  ·intro e;have e:((yk (vK l (inB b) r.d)).k1==r.d1.k1&&(yk (vK l (inB b) r.d)).v1==r.d1.v1)=true:=by simpa using e
   rw [kg] at e;have e1:(yk (vK l (inB b) r.d)).k1=r.d1.k1:=by simpa using e.1
   have e2:(yk (vK l (inB b) r.d)).v1=r.d1.v1:=by simpa using e.2
   refine⟨h,?_⟩;rw [<- Bz r.d1,<- e1,<- e2]
  ·intro e;rw [<- e.2];simp
theorem FK (C:aV l) (hB:dF l b) (hb0:∀ k,inB b0 k=inB b k) (hr0:Rm b0.i.length) (hm:MI l b m) {xs:List cz} (hn:xs.length<=1000) (O:∀ r∈xs,fP l r.d):Ok (qU xs ⟨b0,m⟩) fun y=>(y.1<0↔∀ r∈xs,E9 l b r)/\MI l b y.2:=by
 unfold qU;refine bz (fun (j:Nat) (s:(List (ae×aT))×Int)=>s.2=j/\MI l b s.1/\∀ i r,i<j->xs[i]? = some r->E9 l b r) (fun r=>match r with
   | .go m=>MI l b m/\∀ r∈xs,E9 l b r
   | .out y=>MI l b y.2/\0<=y.1/\¬ ∀ r∈xs,E9 l b r) xs.length ⟨rfl,hm,fun i r hi=>absurd hi (by omega)⟩ ?_ ?_
 ·rintro j ⟨m,i⟩ hj ⟨rfl,h1,h2⟩;dsimp only at h1 h2 ⊢;unfold o6;refine aE (fun hlt=>?_) (fun hlt=>ai ⟨h1,fun r hr=>?_⟩)
  ·have hlt:j<xs.length:=by have:=of_decide_eq_true hlt; omega
   refine aH (bm hlt) (aD (Mu C hB hb0 hr0 h1 (O _ (dR hlt))) fun y ⟨y1,y2⟩=>aE (fun hy=>ai ⟨y2,by show (0:Int)<=(j:Int); omega,fun hall=>?_⟩) (fun hy=>ai ⟨hlt,cH (by omega),y2,fun i r hi hr=>?_⟩))
   ·have:=y1.2 (hall _ (dR hlt));rw [hy] at this; cases this
   ·by_cases hij:i=j
    ·subst hij;rw [bA hlt] at hr;obtain rfl:=bM hr;exact y1.1 hy
    ·exact h2 i r (by omega) hr
  ·obtain⟨i,hi⟩:=iD.1 hr;exact h2 i r (by have:=aY hi; have:=of_decide_eq_false hlt; omega) hi
 ·rintro (m | y) hr
  ·exact ai ⟨⟨fun _=>hr.2,fun _=>by show (-1:Int)<0; omega⟩,hr.1⟩
  ·exact ai ⟨⟨fun h=>absurd hr.2.1 (by omega),fun h=>absurd h hr.2.2⟩,hr.1⟩
theorem Ey (C:aV l) (hB:dF l b) (hb0:∀ k,inB b0 k=inB b k) (hr0:Rm b0.i.length) (hm:MI l b m) {x:aq} (hx:eU l x):Ok (gL ⟨b0,m⟩ x) fun y=>(y.1=true↔∀ r∈x.k,E9 l b r)/\MI l b y.2:=by
 obtain⟨h1,h2⟩:=hx.reads C;unfold gL qt;refine aD (Q:=fun y:Bool×(List (ae×aT))=>(y.1=false↔∀ r∈x.k,E9 l b r)/\MI l b y.2) (aD (FK C hB hb0 hr0 hm (by omega) fun r hr=>(h2 r hr).1) fun y ⟨y1,y2⟩=>ai ⟨?_,y2⟩) fun y ⟨y1,y2⟩=>ai ⟨?_,y2⟩
 ·show decide ((0:Int)<=y.1)=false↔_;rw [<- y1,decide_eq_false_iff_not];omega
 ·show (!y.1)=true↔_;rw [<- y1];simp
theorem Ov (C:aV l) {n:Nat} (hn:n<l.length):qT l (rk l n)=some true:=by
 have hl:=C.high;unfold qT u9 nq jD;have e:kj (rk l n)=some (n:Int):=by
  have h:=DI (k:=(rk l n).v) (n:=n) (by rcases wC (l:=l) (n:=n) with h | h <;> rw [h] <;> simp) (by omega);exact h
 have ho:BN l (n:Int)=some (rk l n):=by
  rw [Gg hn];unfold BN;rw [show decide ((n:Int)<0)=false by simp,show decide (((l.length:Int):Int)<=(n:Int))=false by simp; omega,show decide ((99:Int)<(n:Int))=false by simp; omega,bm hn];simp only [ax,cond_false];unfold un Gi;rw [r9 (by omega)];cases l[n].f <;> simp
 rw [wY (by omega),ax,cond_true,e,ax,ho,ax];rcases wC (l:=l) (n:=n) with h | h <;> rw [h] <;> simp
end
end
section
open Go.Lib hiding intOf
instance:DecidableEq ae:=fun a b=>decidable_of_iff (dt a b=true) dM
theorem HH (xs:List ae):(tD xs).Perm xs:=List.mergeSort_perm _ _
theorem EX (xs:List ae):(tD xs).Pairwise fun a b=>¬ cc b a<0:=by
 have h:=List.pairwise_mergeSort (le:=fun x y=>!ltOf cc y x) (fun a b c h1 h2=>by
  simp only [uN] at *;exact Rf.ntrans _ _ _ h2 h1) (fun a b=>by
  simp only [uO,uN];unfold ltOf;simp only [decide_eq_false_iff_not];by_cases h:cc b a<0
  ·exact .inr (Dz h)
  ·exact .inl h) xs
 refine List.Pairwise.imp (fun {a b} h=>?_) h;unfold ltOf at h;simpa using h
def uh (s:List ae):Nat->List ae
 | 0=>[]
 | n+1=>uh s n++(match s[n]? with
  | some x=>if n≠0/\s[n-1]? = some x then [] else [x]
  | none=>[])
theorem Ic (s:List ae):∀ n,(uh s n).length<=n
 | 0=>bX _
 | n+1=>by
  have:=Ic s n;unfold uh;rw [cS];cases s[n]? with
  | none=>simp; omega
  | some x=>dsimp only; split <;> simp <;> omega
theorem yz {s:List ae} {n:Nat} {x:ae} (hx:s[n]? = some x) (h:n=0∨s[n-1]? ≠ some x):uh s (n+1)=uh s n++[x]:=by
 rw [uh,hx];dsimp only;rw [if_neg (by rintro⟨h1,h2⟩; rcases h with h | h; exact h1 h; exact h h2)]
theorem yB {s:List ae} {n:Nat} {x:ae} (hx:s[n]? = some x) (h0:n≠0) (h:s[n-1]? = some x):uh s (n+1)=uh s n:=by
 rw [uh,hx];dsimp only;rw [if_pos ⟨h0,h⟩,xD]
theorem Bu {s:List ae}:∀ {n:Nat} {x:ae},n<=s.length->(x∈uh s n↔∃ i,i<n/\s[i]? = some x)
 | 0,x,_=>by simp [uh]
 | n+1,x,h=>by
  have ih:=Bu (s:=s) (n:=n) (x:=x) (by omega);have hn:s[n]? = some s[n]:=bA (by omega);by_cases hc:n≠0/\s[n-1]? = some s[n]
  ·rw [yB hn hc.1 hc.2,ih];constructor
   ·rintro⟨i,h1,h2⟩; exact⟨i,by omega,h2⟩
   ·rintro⟨i,h1,h2⟩;by_cases hi:i=n
    ·subst hi;rw [hn] at h2;exact⟨i-1,by omega,by rw [hc.2,<- h2]⟩
    ·exact⟨i,by omega,h2⟩
  ·rw [yz hn (by by_cases h0:n=0; exact .inl h0; exact .inr fun h=>hc ⟨h0,h⟩),cD,ih];constructor
   ·rintro (⟨i,h1,h2⟩ | h)
    ·exact⟨i,by omega,h2⟩
    ·simp only [cI,cJ,or_false] at h;exact⟨n,by omega,by rw [hn,h]⟩
   ·rintro⟨i,h1,h2⟩;by_cases hi:i=n
    ·subst hi;rw [hn] at h2;injection h2 with h2;exact .inr (by simp [h2])
    ·exact .inl ⟨i,by omega,h2⟩
theorem Fv {s:List ae} (hs:s.Pairwise fun a b=>¬ cc b a<0):∀ n,n<=s.length->Ee (uh s n)
 | 0,_=>pY
 | n+1,h=>by
  have ih:=Fv hs n (by omega);have hn:s[n]? = some s[n]:=bA (by omega);by_cases hc:n≠0/\s[n-1]? = some s[n]
  ·rw [yB hn hc.1 hc.2]; exact ih
  ·rw [yz hn (by by_cases h0:n=0; exact .inl h0; exact .inr fun h=>hc ⟨h0,h⟩)];unfold Ee;rw [td];refine⟨ih,Cv _ _,fun a ha b hb=>?_⟩;simp only [cI,cJ,or_false] at hb;subst hb;obtain⟨i,hi,hia⟩:=(Bu (by omega)).1 ha;have h0:n≠0:=by omega
   have hm:s[n-1]? = some s[n-1]:=bA (by omega);have hlt:cc s[n-1] s[n]<0:=by
    have h1:=eI.1 hs (n-1) n (by omega) (by omega) (by omega);rcases um s[n-1] s[n] with h | h | h
    ·exact h
    ·exact absurd ⟨h0,by rw [hm,h]⟩ hc
    ·exact absurd h h1
   by_cases hin:i=n-1
   ·subst hin;rw [hm] at hia;injection hia with hia;rw [<- hia]; exact hlt
   ·have h1:=eI.1 hs i (n-1) (by omega) (by omega) (by omega);obtain⟨q1,q2⟩:=bS.1 hia;rw [q2] at h1;exact ny h1 hlt
theorem wO {s:List ae}:∀ n,n<=s.length->(∀ i,i≠0->i<n->s[i-1]? ≠ s[i]?)->uh s n=s.take n
 | 0,_,_=>by simp [uh]
 | n+1,h,hd=>by
  have hn:s[n]? = some s[n]:=bA (by omega);rw [yz hn (by by_cases h0:n=0; exact .inl h0; exact .inr (by rw [<- hn]; exact hd n h0 (by omega))),wO n (by omega) fun i h0 hi=>hd i h0 (by omega),bV hn]
theorem Hk {s:List ae} (hl:Rm s.length):oB s=some (uh s s.length):=by
 unfold Rm at hl;have key:Ok (oB s) fun y=>y=uh s s.length:=by
  unfold oB;refine aE (fun e=>ai ?_) (fun e=>?_)
  ·have e:s.length<2:=by have:=of_decide_eq_true e; omega
   rw [wO _ (bX _) fun i h0 hi=>by omega,gz]
  ·have e:2<=s.length:=by have:=of_decide_eq_false e; omega
   refine bz (fun n t=>t=((n+1:Nat):Int)/\n+1<=s.length/\∀ i,i≠0->i<n+1->s[i-1]? ≠ s[i]?) (fun r=>(r = .go ()/\uh s s.length=s)∨r = .out (uh s s.length)) (s.length-1) ⟨rfl,by omega,fun i h0 hi=>by omega⟩ (fun n t hn hI=>?_) (fun r hr=>?_)
   ·obtain⟨rfl,hI1,hI2⟩:=hI;unfold o4;by_cases O:n+1<s.length
    ·have hx:s[n+1]? = some s[n+1]:=bA O;have hy:s[n]? = some s[n]:=bA (by omega);rw [dlt O,cond_true,bx,hx,ax,Cr (by omega) (by omega),show (((n+1:Nat):Int)-1)=((n:Nat):Int) by omega,bx,hy,ax];show Ok (cond (dt s[n+1] s[n]) _ _) _;cases hq:dt s[n+1] s[n]
     ·rw [cond_false];unfold oZ;rw [cH (by omega)];refine ai ⟨by omega,rfl,by omega,fun i h0 hi=>?_⟩;by_cases hin:i=n+1
      ·subst hin;rw [Nat.add_sub_cancel,hx,hy];have:=wS.1 hq;exact fun h=>this (bM h).symm
      ·exact hI2 i h0 (by omega)
     ·rw [cond_true,vA (by omega),ax];have heq:=dM.1 hq;refine bz (fun m t=>∃ s' kk,t=(s',((kk:Nat):Int),((m+1:Nat):Int))/\s'.length=s.length/\s'.take kk=uh s (n+1+(m+1))/\s'.drop (n+1+m)=s.drop (n+1+m)/\kk<=n+1+m/\n+1+(m+1)<=s.length)
       (fun t=>∃ s' kk,t=(s',((kk:Nat):Int))/\s'.length=s.length/\kk<=s.length/\s'.take kk=uh s s.length) (s.length-(n+2))
       ⟨s,n+1,rfl,rfl,?_,rfl,by omega,by omega⟩ (fun m t hm hJ=>?_) (fun t ht=>?_)
      ·rw [oy,yB hx (by omega) (by rw [Nat.add_sub_cancel,hy,heq]),wO (n+1) (by omega) hI2]
      ·obtain⟨s',kk,rfl,e1,e2,e3,e4,e5⟩:=hJ;have hgt:∀ j,n+1+m<=j->s'[j]? = s[j]?:=fun j hj=>by
        have:=congrArg (fun l=>l[j-(n+1+m)]?) e3;simp only [tH] at this;rwa [show n+1+m+(j-(n+1+m))=j by omega] at this
       unfold o0;dsimp only;rw [oQ,oQ];by_cases hk2:n+1+(m+1)<s.length
       ·have hz:s[n+1+(m+1)]? = some s[n+1+(m+1)]:=bA hk2;have hz0:s[n+1+m]? = some s[n+1+m]:=bA (by omega);have w0:IntKind.i64.wrap (((m+1:Nat):Int)-1)=(m:Int):=by rw [Cr (by omega) (by omega)]; omega
        rw [decide_eq_true (by omega),cond_true,w0];have g1:decide ((0:Int)<=((m+1:Nat):Int))=true:=decide_eq_true (by omega);have g2:decide ((0:Int)<=(m:Int))=true:=decide_eq_true (by omega);have g3:decide ((m:Int)<((s.length-(n+1):Nat):Int))=true:=decide_eq_true (by omega);have a1:((n+1:Nat):Int)+((m+1:Nat):Int)=((n+1+(m+1):Nat):Int):=by omega
        have a2:((n+1:Nat):Int)+(m:Int)=((n+1+m:Nat):Int):=by omega
        rw [g1,g2,g3,a1,a2];simp only [gd,cond_true];rw [bx,bx,bx,hgt _ (by omega),hgt _ (by omega),hz,hz0];simp only [ax];show Ok (cond (!dt s[n+1+(m+1)] s[n+1+m]) _ _) _;unfold lF;rw [cH (by omega),cH (by omega),bA (by omega:kk<s'.length),ax,oQ];cases hq2:dt s[n+1+(m+1)] s[n+1+m]
        ·simp only [nO,cond_true];refine ai ⟨by omega,_,kk+1,rfl,by simp [e1],?_,?_,by omega,by omega⟩
         ·rw [bV (x:=s[n+1+(m+1)]) (CF (by omega)),List.take_set_of_le (bX _),e2,show n+1+(m+1+1)=n+1+(m+1)+1 from rfl,yz hz (.inr ?_)];rw [show n+1+(m+1)-1=n+1+m by omega,hz0];exact fun h=>(wS.1 hq2) (bM h).symm
         ·rw [List.drop_set_of_lt (by omega)];have:=congrArg (List.drop 1) e3;simpa [Nat.add_comm,Nat.add_left_comm,tf] using this
        ·simp only [dC,cond_false];refine ai ⟨by omega,_,kk,rfl,e1,?_,?_,by omega,by omega⟩
         ·rw [e2,show n+1+(m+1+1)=n+1+(m+1)+1 from rfl,yB hz (by omega) (by rw [show n+1+(m+1)-1=n+1+m by omega,hz0,dM.1 hq2])]
         ·have:=congrArg (List.drop 1) e3;simpa [Nat.add_comm,Nat.add_left_comm,tf] using this
       ·rw [decide_eq_false (by omega),cond_false];exact ai ⟨s',kk,rfl,e1,by omega,by rw [e2,show n+1+(m+1)=s.length by omega]⟩
      ·obtain⟨s',kk,rfl,e1,e2,e3⟩:=ht;unfold lE;dsimp only;rw [vA (by omega),ax];simp only [oQ,GM,xD];rw [qo (by simp; omega),ax];refine ai (.inr ?_);rw [List.take_append_of_le_length (by simp; omega),List.take_take,Nat.min_self,e3]
    ·have hn2:n+1=s.length:=by omega
     rw [Hm O,cond_false];refine ai (.inl ⟨rfl,?_⟩);rw [wO _ (bX _) fun i h0 hi=>hI2 i h0 (by omega),gz]
   ·rcases hr with⟨rfl,h⟩ | rfl
    ·exact ai h.symm
    ·exact ai rfl
 obtain⟨y,e,rfl⟩:=key;exact e
theorem Fs {s:List ae} (h:Rm s.length):oA s=some s:=by
 unfold oA Rm at *;rw [show bP (([]:List ae).length+s.length)=true from du (by simp; omega)]; rfl
theorem JB {l:List ae} (hl:Rm l.length):∃ m,sR l=some m/\vJ l m:=by
 unfold sR;rw [Fs hl,ax,du (by unfold Rm at hl; omega)];simp only [gd,cond_true];rw [Hk (by rw [uG]; exact hl)];refine⟨_,rfl,Fv (EX l) _ (bX _),fun x=>?_,by have:=Ic (tD l) (tD l).length; rw [uG] at this; rw [uG]; exact this⟩;rw [Bu (bX _),<- (HH l).mem_iff];constructor
 ·rintro⟨i,_,h⟩; exact aO h
 ·intro h;obtain⟨i,hi⟩:=iD.1 h;exact⟨i,aY hi,hi⟩
end
section
open Go.Lib hiding intOf
variable {m:List (ae×aT)} {x:aq}
theorem Gd {q:au}:∀ {l:List au},(∀ m∈l,m.d≠q.d)->(gp l q).length=l.length+1
 | [],_=>rfl
 | x::l,h=>by
  have ih:=Gd (q:=q) (l:=l) fun m hm=>h m (uR _ hm);have hx:=h x kh;unfold gp at ih ⊢;rw [cS,eS] at ih ⊢;rw [List.filter_cons,List.filter_cons,eS];have h0:cc x.d q.d≠0:=fun e=>hx (Jg.1 e);by_cases h1:cc x.d q.d<0
  ·rw [decide_eq_true h1,decide_eq_false (by omega)];simp only [if_true,GG,if_false,eS];omega
  ·rw [decide_eq_false h1,decide_eq_true (by omega)];simp only [if_true,GG,if_false,eS];omega
structure Oa (l:List aN) (inp:ae->ByteArray) (rev:Int) (m:au):Prop where
 ver:m.t=rev
 chg:m.a=rev
 ex:∃ n r,l[n]? = some r/\m.d=rk l n/\m.u=Vd l inp n/\m.k=fJ l inp (Vd l inp) r r.c.length
def HV (l:List aN) (b:ah) (arts:List aq) (Q:ae->Prop):Prop:=(∀ k,fP l k->xa b k=true->Q k)/\∀ x∈arts,(∀ r∈x.k,Q r.d/\r.d1=yk (vK l (inB b) r.d))->(∀ m∈b.s,m.d≠x.d)->Q x.d
abbrev wr (b:ah) (recs:List au):ah:=⟨b.r,b.i,recs⟩
structure RI (l:List aN) (b:ah) (arts:List aq) (recs:List au) (g:List ae):Prop where
 ok:dF l (wr b recs)
 ver:CP l (wr b recs)
 len:recs.length=b.s.length+g.length
 nd:g.Nodup
 keep:∀ m∈b.s,m∈recs
 new:∀ m∈recs,m∈b.s∨(m.d∈g/\Oa l (inB b) b.r m)
 got:∀ k∈g,(∃ m∈recs,m.d=k)/\∀ m∈b.s,m.d≠k
 cl:∀ Q,HV l b arts Q->∀ k∈g,Q k
def CL (l:List aN) (b:ah) (recs:List au) (x:aq):Prop:=(∀ m∈recs,m.d≠x.d)/\∀ r∈x.k,E9 l (wr b recs) r
def vV (b:ah) (x:aq):au:=⟨x.d,x.u,x.k.map cz.d,b.r,b.r,x.j,false⟩
section
variable {l:List aN} {b:ah} {arts:List aq} {recs:List au} {g:List ae}
theorem Fk (C:aV l) (hx:eU l x) (hc:CL l b recs x):Oa l (inB b) b.r (vV b x):=by
 obtain⟨inp,n,r,hi,hn,e1,e2,e3⟩:=hx.right;have hs:∀ k∈fJ l inp (Vd l inp) r r.c.length,vK l inp k=vK l (inB b) k:=fun k O=>by
  have h1:=(hc.2 ⟨k,yk (vK l inp k)⟩ (by rw [e3]; exact fG.2 ⟨k,O,rfl⟩)).2;exact Ie (Rh C hi (EP C hn O)) h1
 obtain⟨h1,h2⟩:=Gj C hn hs;refine⟨rfl,rfl,n,r,hn,e1,e2.trans h1,?_⟩;show x.k.map cz.d=_;rw [e3,List.map_map,<- h2];exact List.map_id _
theorem RI.rec_ok (C:aV l) (h:RI l b arts recs g) (hx:eU l x):tZ l b.r (vV b x):=by
 obtain⟨h1,h2⟩:=hx.reads C;have hv:=hx.value C;have hr:=h.ok.rev;exact⟨hx.key,by show x.u.size<=1000; omega,by show (x.k.map cz.d).length<=3; rw [m5]; exact h1,fun k O=>by
  obtain⟨r,hr,rfl⟩:=fG.1 (show k∈x.k.map cz.d from O);exact (h2 r hr).1,hr.1,tg _,tg _,hx.cost,fun h=>by cases h⟩
theorem RI.kn (hB:dF l b) (h:RI l b arts recs g) {k:ae} (O:fP l k) (hn:xa (wr b recs) k=true):xa b k=true∨k∈g:=by
 rcases O with⟨c,_,rfl⟩|⟨n,_,rfl⟩
 ·exact .inl vg
 ·rw [FR] at hn ⊢;unfold cE at hn;rw [kg,decide_eq_true_eq] at hn;obtain⟨h1,h2⟩:=bW hn.1;rcases h.new _ h1 with h3 | ⟨h3,_⟩
  ·left;unfold cE;rw [iP hB.recsA h3 h2];exact decide_eq_true hn.2
  ·exact .inr (h2▸h3)
theorem RI.step (C:aV l) (hB:dF l b) (h:RI l b arts recs g) (hxa:x∈arts) (hx:eU l x) (hc:CL l b recs x):RI l b arts (gp recs (vV b x)) (g++[x.d]):=by
 have hN:=Fk C hx hc;obtain⟨n,r,hn,n1,n2,n3⟩:=hN.ex;have hl:=C.high;refine⟨h.ok.put (by have q:=h.rec_ok C hx; exact q),fun m hm hv=>?_,?_,?_,fun m hm=>?_,fun m hm=>?_,fun k O=>?_,fun Q hQ k O=>?_⟩
 ·rcases hO.1 hm with rfl | ⟨hm,_⟩
  ·show (vV b x).u=vK l (inB b) (vV b x).d;rw [n1,n2,tb (by have:=aY hn; omega)]
  ·exact h.ver m hm hv
 ·rw [Gd (q:=vV b x) fun m hm=>hc.1 m hm,h.len,cS];show _=_+(_+1); omega
 ·rw [List.nodup_append];refine⟨h.nd,by simp,fun a ha c hc2=>?_⟩;rw [bK.1 hc2];intro e;obtain⟨m,hm,e2⟩:=(h.got a ha).1;exact hc.1 m hm (e2.trans e)
 ·exact hO.2 (.inr ⟨h.keep m hm,hc.1 m (h.keep m hm)⟩)
 ·rcases hO.1 hm with rfl | ⟨hm,_⟩
  ·exact .inr ⟨pR _ (bK.2 rfl),hN⟩
  ·exact (h.new m hm).imp id fun ⟨h1,h2⟩=>⟨iB _ h1,h2⟩
 ·rcases cD.1 O with O | O
  ·obtain⟨⟨m,hm,e⟩,h2⟩:=h.got k O;exact⟨⟨m,hO.2 (.inr ⟨hm,hc.1 m hm⟩),e⟩,h2⟩
  ·rw [bK.1 O];exact⟨⟨vV b x,hO.2 (.inl rfl),rfl⟩,fun m hm=>hc.1 m (h.keep m hm)⟩
 ·rcases cD.1 O with O | O
  ·exact h.cl Q hQ k O
  ·rw [bK.1 O];refine hQ.2 x hxa (fun q hq=>?_) fun m hm=>hc.1 m (h.keep m hm);obtain⟨f1,f2⟩:=hc.2 q hq;refine⟨?_,f2⟩;have hg:=((hx.reads C).2 q hq).1;rcases h.kn hB hg f1 with h3 | h3
   ·exact hQ.1 _ hg h3
   ·exact h.cl Q hQ _ h3
theorem MI.step (C:aV l) (h:RI l b arts recs g) (hm:MI l (wr b recs) m) (hx:eU l x) (hc:CL l b recs x):MI l (wr b (gp recs (vV b x))) (dS aK x.d (yk x.u) m):=by
 have hN:=Fk C hx hc;obtain⟨n,r,hn,n1,n2,n3⟩:=hN.ex;have hl:=C.high;obtain⟨v1,v2⟩:=zy h.ok (r:=vV b x) rfl;have n2:x.u=Vd l (inB b) n:=n2;have n1:x.d=rk l n:=n1;refine⟨fun k d O hd=>?_,fun k O hv=>?_⟩
 ·rw [kR dI] at hd;by_cases hq:aK k x.d=true
  ·rw [if_pos hq] at hd;obtain rfl:=(dI _ _).1 hq;refine⟨by unfold xa; rw [show cE (wr b (gp recs (vV b x))) x.d=true from v2,GI],?_⟩;rw [<- bM hd,n2,n1,tb (by have:=aY hn; omega)]; rfl
  ·rw [if_neg hq] at hd;obtain⟨h1,h2⟩:=hm.right k d O hd;refine⟨?_,h2⟩;unfold xa at h1 ⊢;rw [uO] at h1 ⊢;exact h1.imp id fun h1=>v1 k h1
 ·rw [kR dI];split
  ·rfl
  ·rename_i hne;refine hm.full k O ?_;have hkx:k≠(vV b x).d:=fun e=>hne ((dI _ _).2 e);unfold cE at hv ⊢;have e:bc (gp recs (vV b x)) k=bc recs k:=by rw [wP h.ok.recsA,if_neg hkx]
   rw [show (wr b (gp recs (vV b x))).s=gp recs (vV b x) from rfl,e] at hv;exact hv
def HI (recs:List au) (h:List (ae×Bool)):Prop:=∀ k,(cF aK k h).getD false=true↔∃ m∈recs,m.d=k
theorem HI.step {h:List (ae×Bool)} (hh:HI recs h) (hc:∀ m∈recs,m.d≠x.d):HI (gp recs (vV b x)) (dS aK x.d true h):=fun k=>by
 rw [kR dI];by_cases hq:aK k x.d=true
 ·rw [if_pos hq];obtain rfl:=(dI _ _).1 hq;exact⟨fun _=>⟨vV b x,hO.2 (.inl rfl),rfl⟩,fun _=>rfl⟩
 ·rw [if_neg hq,hh k];constructor
  ·rintro⟨m,hm,e⟩;exact⟨m,hO.2 (.inr ⟨hm,hc m hm⟩),e⟩
  ·rintro⟨m,hm,e⟩;rcases hO.1 hm with rfl | ⟨hm,_⟩
   ·exact absurd ((dI _ _).2 e.symm) hq
   ·exact⟨m,hm,e⟩
theorem Mf (C:aV l) (hB:dF l b) (h:RI l b arts recs g) (hm:MI l (wr b recs) m) {hs:List (ae×Bool)} (hh:HI recs hs) (hx:eU l x):Ok (kK x l hs ⟨b,m⟩) fun y=>(y.1=true↔CL l b recs x)/\y.2.1=hs/\MI l (wr b recs) y.2.2:=by
 have hl:=C.high;obtain⟨n,hn,e⟩:=hx.key;unfold kK fe;refine aH (by rw [e]; exact Ov C hn) ?_;rw [cond_true];refine aH (v:=(cF aK x.d hs).getD false) rfl (aE (fun hq=>?_) (fun hq=>ai ⟨?_,rfl,hm⟩))
 ·refine aD (Ey C h.ok (fun _=>rfl) (hB.rm hl).2.1 hm hx) fun y ⟨y1,y2⟩=>ai ⟨?_,rfl,y2⟩;have hno:∀ m∈recs,m.d≠x.d:=fun q hq2 e2=>by
   have:=(hh x.d).2 ⟨q,hq2,e2⟩;rw [this] at hq; cases hq
  exact⟨fun hy=>⟨hno,y1.1 hy⟩,fun hy=>y1.2 hy.2⟩
 ·have hq:(cF aK x.d hs).getD false=true:=by simpa using hq
  obtain⟨q,q1,q2⟩:=(hh x.d).1 hq;exact⟨fun h=>(by cases h),fun h=>absurd q2 (h.1 q q1)⟩
theorem MK (C:aV l) (hB:dF l b) (h:RI l b arts recs g) (hm:MI l (wr b recs) m) {hs:List (ae×Bool)} (hh:HI recs hs) (ha:∀ x∈arts,eU l x) (hn:arts.length<=1000):Ok (lH arts l hs ⟨b,m⟩) fun y=>y.2.1=hs/\MI l (wr b recs) y.2.2/\((y.1 = -1/\∀ x∈arts,¬ CL l b recs x)∨∃ (i:Nat) (x:aq),y.1=i/\arts[i]? = some x/\CL l b recs x):=by
 unfold lH;refine bz (fun (j:Nat) (s:(List (ae×Bool))×(List (ae×aT))×Int)=>s.2.2=j/\s.1=hs/\MI l (wr b recs) s.2.1/\∀ i x,i<j->arts[i]? = some x->¬ CL l b recs x) (fun r=>match r with
   | .go s=>s.1=hs/\MI l (wr b recs) s.2/\∀ x∈arts,¬ CL l b recs x
   | .out y=>y.2.1=hs/\MI l (wr b recs) y.2.2/\∃ (i:Nat) (x:aq),y.1=i/\arts[i]? = some x/\CL l b recs x) arts.length ⟨rfl,rfl,hm,fun i x hi=>absurd hi (by omega)⟩ ?_ ?_
 ·rintro j ⟨q,m,i⟩ hj ⟨rfl,rfl,h1,h2⟩;dsimp only at h1 h2 ⊢;unfold lu;refine aE (fun hlt=>?_) (fun hlt=>ai ⟨rfl,h1,fun x hx=>?_⟩)
  ·have hlt:j<arts.length:=by have:=of_decide_eq_true hlt; omega
   have hx:=bA hlt;refine aH (bm hlt) (aD (Mf C hB h h1 hh (ha _ (dR hlt))) fun y ⟨y1,y2,y3⟩=>aE (fun hy=>ai ⟨y2,y3,j,_,rfl,hx,y1.1 hy⟩) (fun hy=>ai ⟨hlt,cH (by omega),y2,y3,fun i x hi hx2 hc=>?_⟩));by_cases hij:i=j
   ·subst hij;rw [hx] at hx2;obtain rfl:=bM hx2;rw [y1.2 hc] at hy; cases hy
   ·exact h2 i x (by omega) hx2 hc
  ·obtain⟨i,hi⟩:=iD.1 hx;exact h2 i x (by have:=aY hi; have:=of_decide_eq_false hlt; omega) hi
 ·rintro (s | y) hr
  ·unfold Fl.el lr;exact ai ⟨hr.1,hr.2.1,.inl ⟨rfl,hr.2.2⟩⟩
  ·exact ai ⟨hr.1,hr.2.1,.inr hr.2.2⟩
theorem MB {xs:List cz} (hn:xs.length<=1000) (e:x.k=xs):loop (fun s:Int×(List ae)=>gK x s.1 s.2) (0,([]:List ae))=some (xs.map cz.d):=by
 subst e;refine em (xs:=x.k) (fun k=>((k:Int),(x.k.take k).map cz.d)) rfl (fun k r hr=>?_) ?_
 ·have O:=aY hr;dsimp only;unfold gK;rw [dlt O,cond_true,bx,hr,ax,du (by simp; omega)];simp only [gd,cond_true];rw [cH (by omega),bV hr,vT]; rfl
 ·dsimp only;unfold gK;rw [bZ,cond_false,gz]
structure Sc (l:List aN) (b:ah) (arts:List aq) (y:ah×(List ae)×Int):Prop where
 e0:y.2.2=0
 base:∃ recs g,y.1=wr b recs/\RI l b arts recs g/\vJ g y.2.1/\∀ x∈arts,¬ CL l b recs x
theorem vz (C:aV l) (hB:dF l b) (hV:CP l b) (ha:∀ x∈arts,eU l x) (hn:arts.length<=1000):Ok (fo l b arts) (Sc l b arts):=by
 have hl:=C.high;have hnr:=hB.nrec;unfold fo;refine aH (JG C.bnd) ?_;rw [vl C];simp only [dC,cond_false];refine aH (Ld hB hl) ?_;simp only [dC,cond_false];refine aH (Kq C hn ha) ?_;simp only [dC,cond_false];refine aH (MO hB hl) (aD (yN C hB hV) fun K ⟨k1,k2⟩=>?_);refine bz (fun (j:Nat) (s:Int×(List (ae×Bool)))=>s.1=j/\HI (b.s.take j) s.2) (fun r=>HI b.s r) b.s.length ⟨rfl,fun k=>⟨fun h=>(by cases h),fun ⟨m,hm,_⟩=>absurd hm (by simp)⟩⟩ ?_ ?_
 ·rintro j ⟨i,h⟩ hj ⟨rfl,h1⟩;dsimp only at h1 ⊢;unfold mG;refine aE (fun hlt=>?_) (fun hlt=>ai (by rw [vI (by have:=of_decide_eq_false hlt; omega)] at h1; exact h1));have hlt:j<b.s.length:=by have:=of_decide_eq_true hlt; omega
  refine aH (bm hlt) (ai ⟨hlt,cH (by omega),fun k=>?_⟩);rw [kR dI,bV (bA hlt)];by_cases hq:aK k b.s[j].d=true
  ·rw [if_pos hq];exact⟨fun _=>⟨_,pR _ (bK.2 rfl),((dI _ _).1 hq).symm⟩,fun _=>rfl⟩
  ·rw [if_neg hq,h1 k];constructor
   ·rintro⟨m,hm,e⟩; exact⟨m,iB _ hm,e⟩
   ·rintro⟨m,hm,e⟩;rcases cD.1 hm with hm | hm
    ·exact⟨m,hm,e⟩
    ·rw [bK.1 hm] at e;exact absurd ((dI _ _).2 e.symm) hq
 intro h0 hh0;unfold mE;have hRI0:RI l b arts b.s []:=⟨hB,hV,rfl,List.nodup_nil,fun m hm=>hm,fun m hm=>.inl hm,fun k O=>absurd O cJ,fun Q _ k O=>absurd O cJ⟩;refine bz (fun (j:Nat) (s:(List (ae×aT))×(List (ae×Bool))×(List ae)×(List au))=>MI l (wr b s.2.2.2) s.1/\HI s.2.2.2 s.2.1/\RI l b arts s.2.2.2 s.2.2.1/\s.2.2.1.length=j) (Sc l b arts) 8 ⟨k2,hh0,hRI0,rfl⟩ ?_ (fun r hr=>ai hr);rintro j ⟨m,h,g,recs⟩ hj ⟨g1,g2,g3,g4⟩;dsimp only at g1 g2 g3 g4 ⊢;have hrl:=g3.ok.nrec;have hrl:recs.length<=l.length:=hrl;have hgl:=g3.len;unfold mF;rw [k1];refine aD (MK C hB g3 g1 g2 ha hn) fun y ⟨y1,y2,y3⟩=>?_;rcases y3 with⟨y3,y4⟩|⟨i,x,y3,y4,y5⟩
 ·rw [y3,decide_eq_true (by omega),cond_true];obtain⟨s,hs1,hs2⟩:=JB (l:=g) (by unfold Rm; omega);exact aH hs1 (ai ⟨rfl,recs,g,rfl,g3,hs2,y4⟩)
 ·have hi:=aY y4;have hx:=ha x (aO y4);have h3:=(hx.reads C).1;rw [y3,decide_eq_false (by omega),cond_false,decide_eq_false (by omega),cond_false,bx,y4,ax,MB (by omega) rfl,ax];unfold jA mD;have hst:=g3.step C hB (aO y4) hx y5;have hv8:=hx.value C;refine aH (OJ (r:=vV b x) g3.ok.recsA (g3.ok.rm hl).1 (by show Rm (x.k.map cz.d).length; unfold Rm; rw [m5]; omega)) (aH (Hl (s:=x.u) (by omega)) (bY (du (by simp; omega)) (ai ⟨?_,?_,?_,hst,by simp [g4]⟩)))
  ·have h5:=hst.ok.nrec;have h5:(gp recs (vV b x)).length<=l.length:=h5;have h6:=hst.len;rw [cS] at h6;simp at h6;omega
  ·exact MI.step C g3 y2 hx y5
  ·show HI _ (dS aK x.d true y.2.1);rw [y1];exact g2.step y5.1
end
end
section
open Go.Lib hiding intOf
theorem KW {m:Option Bool} (h:Ok m fun r=>r=true):m=some true:=by obtain⟨v,e,rfl⟩:=h; exact e
theorem HE {r:au} (h:Rm r.k.length):jn r r=some true:=by
 unfold jn dj;rw [xB h];simp
theorem AC {t:List Int} (h:¬ t.length<=400):lM t=some false:=by
 unfold lM;rw [decide_eq_false (by omega)]
theorem BP {t:List Int} (h:t.length<=400):lM t=some true:=by
 unfold lM;rw [decide_eq_true (by omega)]
theorem Ou:cL ((7:Nat):Int)=ByteArray.mk #[55]:=by
 unfold cL;rw [nx,(Ol (l:=[55]) (n:=7) (by decide)).1]
section
variable {l:List aN} {H:Int->ae->ByteArray} {b y:ah}
theorem IA (C:aV l) (h:dF l b) {k:ae} (O:fP l k):∃ v,i6 l b k=some (v,0)/\v=vK l (inB b) k:=by
 have hl:=C.high;have hb0:=(h.rm hl).2.1;have hD:=u4 (inB b) C;have key:Ok (i6 l b k) fun y=>y.2=0/\y.1=vK l (inB b) k:=by
  have hc:ke l b k=some 0:=by
   unfold ke;rw [Ab C.bnd,vl C,ax];simp only [dC,cond_false];rw [vE h hl,ax,B7 hl O];rfl
  unfold i6;rw [hc,ax];simp only [show ((0:Int) != 0)=false from rfl,cond_false];refine aH (v:=az.mk l b [] []) rfl ?_;have hs:sv l (Vd l (inB b)) b (az.mk l b [] []):=⟨rfl,rfl,fun n _ v e=>(by cases e),fun c=>rfl⟩;rcases O with⟨c,hc,rfl⟩|⟨n,hn,rfl⟩
  ·refine aD (show Ok (vv (az.mk l b [] []) (bJ c)) (fun y=>y.1=inB b (bJ c)/\y.2=az.mk l b [] []) from vF (vrec:=JJ 39) hb0 hs) fun z hz=>ai ⟨rfl,?_⟩;show z.1=_;rw [hz.1,jx]
  ·refine aD (IB C hD hb0 hs (.inr ⟨n,hn,rfl⟩)) fun z hz=>ai ⟨rfl,?_⟩;show z.1=_;rw [hz.2 n hn rfl,tb (by omega)]
 obtain⟨v,e,h1,h2⟩:=key;exact⟨v.1,by rw [e]; exact congrArg some (Prod.ext rfl h1),h2⟩
theorem KD (C:aV l) (hb:dF l b) (hh:VI l H b Ob) {k:ae} (O:fP l k) (ht:(∃ c,k=bJ c)∨cE b k=true):kq b k=some (vK l (H b.r) k,true):=by
 have hl:=C.high;unfold kq;rcases O with⟨c,hc,rfl⟩|⟨n,hn,rfl⟩
 ·rw [ki,ax,cond_true,Dv (hb.rm hl).2.1,ax,hh.now,jx]
 ·have hv:cE b (rk l n)=true:=by
   rcases ht with⟨c,e⟩ | h
   ·exact absurd e.symm oX
   ·exact h
  unfold cE at hv;rw [kg,decide_eq_true_eq] at hv;rw [k5,ax,cond_false,hb.find hl,ax,hv.1,cond_true,show ((bc b.s (rk l n)).1.t==b.r)=true by simpa using hv.2];obtain⟨h1,h2⟩:=bW hv.1;show some ((bc b.s (rk l n)).1.u,true)=_;rw [hh.ver C hb h1 hv.2,h2]
end
section
variable {l:List aN} {b:ah} {H:Int->ae->ByteArray} {P:ae->Prop}
theorem Mg (C:aV l) (h:dF l b) {k:ae} (O:fP l k):ke l b k=some 0:=by
 have hl:=C.high;unfold ke;rw [Ab C.bnd,vl C,ax];simp only [dC,cond_false];rw [vE h hl,ax,B7 hl O];rfl
theorem OQ (C:aV l) (h:dF l b) {s:az} (hs:sv l (Vd l (inB b)) b s) {k:ae} (O:fP l k):Ok (vv s k) fun y=>sv l (Vd l (inB b)) b y.2/\y.1=vK l (inB b) k:=by
 have hl:=C.high;have hb0:=(h.rm hl).2.1;rcases O with⟨c,hc,rfl⟩|⟨n,hn,rfl⟩
 ·refine (show Ok (vv s (bJ c)) (fun y=>y.1=inB b (bJ c)/\y.2=s) from vF (vrec:=JJ 39) hb0 hs).mono fun z hz=>⟨by rw [hz.2]; exact hs,?_⟩;rw [hz.1,jx]
 ·refine (IB C (u4 (inB b) C) hb0 hs (.inr ⟨n,hn,rfl⟩)).mono fun z hz=>⟨hz.1,?_⟩;rw [hz.2 n hn rfl,tb (by omega)]
theorem MN (C:aV l) (h:dF l b) {n:Nat} {r:aN} (hn:l[n]? = some r):l6 l b (rk l n)=some (fJ l (inB b) (Vd l (inB b)) r r.c.length,0):=by
 have hl:=C.high;have hnl:=aY hn;have ha:=(C.each n r hn).asks;have key:Ok (l6 l b (rk l n)) fun y=>y=(fJ l (inB b) (Vd l (inB b)) r r.c.length,0):=by
  unfold l6;rw [Mg C h (.inr ⟨n,hnl,rfl⟩),ax];simp only [show ((0:Int) != 0)=false from rfl,cond_false];refine aH (v:=az.mk l b [] []) rfl (aD (Q:=fun y=>y.1=fJ l (inB b) (Vd l (inB b)) r r.c.length) ?_ fun y hy=>ai (by rw [hy]));unfold kp;refine aH (v:=[]) rfl ?_;show Ok ((cu (rk l n)).bind _) _;rw [k5,ax,cond_false];refine bz (fun (k:Nat) (s:(List ByteArray)×(List ae)×(List aN)×Int×(List a7)×(List au)×(List (ae×ByteArray))×(List (ae×(List ae))))=>k<=r.c.length/\s.1=dH l (inB b) (Vd l (inB b)) r k/\s.2.1=fJ l (inB b) (Vd l (inB b)) r k/\sv l (Vd l (inB b)) b (az.mk s.2.2.1 (ah.mk s.2.2.2.1 s.2.2.2.2.1 s.2.2.2.2.2.1) s.2.2.2.2.2.2.1 s.2.2.2.2.2.2.2)) (fun y=>y.1=fJ l (inB b) (Vd l (inB b)) r r.c.length) r.c.length ⟨bT _,rfl,rfl,rfl,rfl,fun n _ v e=>(by cases e),fun c=>rfl⟩ ?_ (fun y hy=>ai hy);rintro k ⟨a,o,rules,rev,ins,recs,memo,seen⟩ O ⟨h0,rfl,rfl,hs⟩;dsimp only at hs ⊢;have hru:rules=l:=hs.rules;subst hru;have hal:(dH rules (inB b) (Vd rules (inB b)) r k).length=k:=ub h0;have hrl:(fJ rules (inB b) (Vd rules (inB b)) r k).length=k:=yX h0;unfold ir;rcases dZ k r.c.length with hlt | hge
  ·have hx:=bA hlt;refine aH (Cj C hn (ls:=dH rules (inB b) (Vd rules (inB b)) r k) (by rw [hal]; exact hx)) ?_;unfold eZ;simp only [cond_false];have hg:fP rules (iO rules r.c[k] (dH rules (inB b) (Vd rules (inB b)) r k)):=by
    refine EP C hn (V:=Vd rules (inB b)) (inp:=inB b) (j:=k+1) ?_;rw [ld hx];exact pR _ (bK.2 rfl)
   refine bY (du (by rw [hrl]; simp; omega)) (aD (OQ C h hs hg) fun y ⟨y1,y2⟩=>bY (du (by rw [hal]; simp; omega)) (ai ⟨hlt,hlt,?_,?_,y1⟩))
   ·show _++[y.1]=_;rw [my hx,y2,tp C hn hx]
   ·exact (ld hx).symm
  ·obtain rfl:k=r.c.length:=by omega
   refine aH (Aj C hn (ls:=dH rules (inB b) (Vd rules (inB b)) r r.c.length) (by omega)) ?_;unfold eZ;exact ai rfl
 obtain⟨y,e,rfl⟩:=key;exact e
noncomputable def OK (l:List aN) (b:ah) (k:ae):cz:=⟨k,yk (vK l (inB b) k)⟩
noncomputable def pW (l:List aN) (b:ah) (m:au):aq:=⟨m.d,m.k.map (OK l b),m.u,m.j⟩
noncomputable def tu (b:ah) (m:au):Bool:=decide (m.t=b.r)&&m.k.all (xa b)
noncomputable def I4 (l:List aN) (b:ah):List aq:=(b.s.filter (tu b)).map (pW l b)
theorem Od (C:aV l) (hB:dF l b) (hh:VI l H b P) {m:au} (hm:m∈b.s) (hv:m.t=b.r):eU l (pW l b m):=by
 have hin:inB b=H b.r:=funext hh.now;have hm':=hB.recs _ hm;obtain⟨n,hn,e⟩:=hm'.key;obtain⟨e1,e2⟩:=hh.recv _ hm n _ (bA hn) e;rw [hv] at e1 e2;rw [<- hin] at e1 e2;refine⟨hm'.cost,inB b,n,l[n],hB.in8,bA hn,e,e1,?_⟩;show m.k.map (OK l b)=_;rw [<- e2]; rfl
theorem BE {α:Type} {p:α->Bool}:∀ {xs:List α},(xs.filter p).length=xs.length->xs.filter p=xs
 | [],_=>rfl
 | x::xs,h=>by
  have h1:=Ea p xs;cases hp:p x with
  | true =>
   rw [uP hp] at h ⊢;rw [BE (by simpa using h)]
  | false =>
   rw [rK (by rw [hp]; simp)] at h;rw [eS] at h;omega
theorem Kk (C:aV l) (hB:dF l b) (hV:CP l b):jg b=some (I4 l b):=by
 have hl:=C.high;have hnr:=hB.nrec;have key:Ok (jg b) fun y=>y=I4 l b:=by
  unfold jg;refine aD (yN C hB hV) fun K ⟨k1,k2⟩=>?_;refine bz (fun (j:Nat) (s:(List aq)×Int×(List (ae×aT)))=>s.2.1=j/\s.1=((b.s.take j).filter (tu b)).map (pW l b)/\MI l b s.2.2) (fun r=>r=I4 l b) b.s.length ⟨rfl,rfl,k2⟩ ?_ (fun r hr=>ai hr);rintro j ⟨o,i,m⟩ hj ⟨rfl,rfl,hm⟩;dsimp only at hm ⊢;unfold mC;refine aE (fun hlt=>?_) (fun hlt=>ai (by rw [vI (by have:=of_decide_eq_false hlt; omega)]; rfl));have hlt:j<b.s.length:=by have:=of_decide_eq_true hlt; omega
  have hx:=bA hlt;have hrm:=hB.recs _ (dR hlt);have hr3:=hrm.reads;refine aH (bm hlt) ?_;refine bz (fun (i:Nat) (s:Int×(List (ae×aT))×(List cz))=>s.1=i/\MI l b s.2.1/\s.2.2=((b.s[j].k.take i).filter (xa b)).map (OK l b)) (fun r=>MI l b r.1/\r.2=(b.s[j].k.filter (xa b)).map (OK l b)) b.s[j].k.length ⟨rfl,hm,rfl⟩ ?_ ?_
  ·rintro i ⟨q,m,xs⟩ hi ⟨rfl,h1,rfl⟩;dsimp only at h1 ⊢;unfold mB;rw [k1];refine aE (fun hlt2=>?_) (fun hlt2=>ai ⟨h1,by rw [vI (by have:=of_decide_eq_false hlt2; omega)]⟩);have hlt2:i<b.s[j].k.length:=by have:=of_decide_eq_true hlt2; omega
   have hy:=bA hlt2;have hlen:(((b.s[j].k.take i).filter (xa b)).map (OK l b)).length<=3:=by
    rw [m5];have:=Ea (xa b) (b.s[j].k.take i);rw [je] at this;omega
   refine aH (bm hlt2) (aD (Iq C hB (fun _=>rfl) (hB.rm hl).2.1 h1 (hrm.good _ (dR hlt2))) fun y ⟨y1,y2,y3⟩=>aE (fun O=>bY (du (by simp; simp at hlen; omega)) (ai ⟨hlt2,cH (by omega),y3,?_⟩)) (fun O=>ai ⟨hlt2,cH (by omega),y3,?_⟩))
   ·rw [bV hy,pZ,vT,uP (by rw [<- y1]; exact O)];show _++[cz.mk _ (aT.mk y.1.k1 y.1.v1)]=_;rw [Bz,y2 O]; rfl
   ·rw [bV hy,pZ,vT,rK (by rw [<- y1,O]; simp)];simp
  ·rintro⟨m,xs⟩ ⟨h1,rfl⟩;dsimp only at h1 ⊢;have hlo:(((b.s.take j).filter (tu b)).map (pW l b)).length<=8:=by
    rw [m5];have:=Ea (tu b) (b.s.take j);rw [je] at this;omega
   have hj3:∀ q:Bool,(q=true↔tu b b.s[j]=true)->Ok (gJ (((b.s.take j).filter (tu b)).map (pW l b)) (j:Int) b.s[j] m ((b.s[j].k.filter (xa b)).map (OK l b)) q) fun r=>match r with
     | .go s'=>j<b.s.length/\(s'.2.1=((j+1:Nat):Int)/\s'.1=((b.s.take (j+1)).filter (tu b)).map (pW l b)/\MI l b s'.2.2)
     | .out r=>r=I4 l b:=fun q hq=>by
    unfold gJ jy;refine aE (fun h=>bY (du (by simp; simp at hlo; omega)) (ai ⟨hlt,cH (by omega),?_,h1⟩)) (fun h=>ai ⟨hlt,cH (by omega),?_,h1⟩)
    ·have hf:=hq.1 h;have hall:b.s[j].k.filter (xa b)=b.s[j].k:=by
      unfold tu at hf;rw [kg] at hf;exact xF.2 fun x hx=>GL.1 hf.2 x hx
     rw [bV hx,pZ,vT,uP hf,hall]; rfl
    ·have hf:tu b b.s[j]=false:=by
      cases hf:tu b b.s[j] with
      | false=>rfl
      | true=>rw [hq.2 hf] at h; cases h
     rw [bV hx,pZ,vT,rK (by rw [hf]; simp)];simp
   have hfull:tu b b.s[j]=(decide (b.s[j].t=b.r)&&decide ((b.s[j].k.filter (xa b)).length=b.s[j].k.length)):=by
    unfold tu;congr 1;cases ha:b.s[j].k.all (xa b) with
    | true=>exact (decide_eq_true (by rw [xF.2 fun x hx=>GL.1 ha x hx])).symm
    | false =>
     refine (decide_eq_false fun e=>?_).symm;have:=BE e;have h2:b.s[j].k.all (xa b)=true:=GL.2 fun x hx=>by
      rw [<- this] at hx;exact (iC.1 hx).2
     rw [h2] at ha; cases ha
   unfold jz;refine aE (fun hv=>(hj3 _ ?_).mono fun y hy=>by cases y <;> exact hy) (fun hv=>(hj3 _ ?_).mono fun y hy=>by cases y <;> exact hy)
   ·have hv:b.s[j].t=b.r:=by simpa using hv
    rw [hfull,decide_eq_true hv,tF,m5,decide_eq_true_iff];exact⟨fun e=>by have e2:=eq_of_beq e; omega,fun e=>by rw [e]; exact beq_self_eq_true _⟩
   ·have hv:b.s[j].t≠b.r:=by simpa using hv
    rw [hfull,decide_eq_false hv];simp
 obtain⟨y,e,rfl⟩:=key;exact e
end
end
section
open Go.Lib hiding intOf
theorem vJ.len_eq {g s:List ae} (h:vJ g s) (hn:g.Nodup):s.length=g.length:=by
 refine Nat.le_antisymm h.len (oE hn fun k O=>(h.mem k).2 O)
theorem Lo {α:Type} {x:α}:∀ {xs:List α},x∈xs->xs.length<=1->xs=[x]
 | [],h,_=>by cases h
 | [y],h,_=>by rw [bK.1 h]
 | y::z::w,_,h=>by simp at h
def w8:ByteArray:=⟨#[55]⟩
def Pk:dd:=⟨true,false,0,0⟩
def zH:aN:=⟨false,[Pk],1,0⟩
def r7:List aN:=[zH]
noncomputable def Pm:ah:=⟨1,[⟨bJ 0,w8,1⟩],[]⟩
theorem nQ:aV r7:=by
 refine⟨by decide,by decide,fun i r hi=>?_⟩;obtain rfl:i=0:=by have:=aY hi; simp [r7] at this; omega
 obtain rfl:zH=r:=bM hi;refine⟨by decide,fun k a ha=>?_,(fun h=>by cases h),fun _=>⟨by decide,by decide,by decide,by decide⟩⟩;obtain rfl:k=0:=by have:=aY ha; simp [zH] at this; omega
 obtain rfl:Pk=a:=bM ha;exact⟨by decide,fun _=>by decide,(fun h=>by cases h),(fun h=>by cases h),by decide,fun _=>by decide,(fun h=>by cases h),fun _=>rfl⟩
theorem Ht (l:List aN):dF l (ah.mk 0 [] []):=⟨⟨by show (0:Int)<=0; omega,by show (0:Int)<=1000000; omega⟩,fun x hx=>absurd hx cJ,pY,fun x hx=>absurd hx cJ,pY⟩
theorem H1:eP (ah.mk 0 [] []) [bU.mk (bJ 0) w8]=some (Pm,0):=by
 have h:=Ht r7;have hl:r7.length<=8:=by decide
 have hcp:=wb (h.rm hl).1 (h.rm hl).2.1;have hw:IntKind.i64.wrap ((ah.mk 0 [] []).r+1)=1:=qq (by decide) (by decide);unfold eP;rw [hcp,ax,vE h hl,ax];simp only [dC,cond_false];rw [show decide ((32:Int)<(([bU.mk (bJ 0) w8]:List bU).length:Int))=false by decide,cond_false];rw [db (r:=Fl.go ()) 1 (fun k O=>by
  obtain rfl:k=0:=by omega
  unfold f0;rw [show decide (((0:Nat):Int)<(([bU.mk (bJ 0) w8]:List bU).length:Int))=true by decide,cond_true,bm (by decide),ax];show ((dz (bJ 0)).bind _)=_;rw [uW (by omega),ax];simp only [dC,cond_false];show ((cu (bJ 0)).bind _)=_;rw [ki,ax,cH (by omega)]; rfl) (by unfold f0; rfl),ax]
 show fY _ _=_;unfold fY;rw [db (r:=Fl.go ()) 1 (fun k O=>by
  obtain rfl:k=0:=by omega
  unfold fZ;rw [show decide (((0:Nat):Int)<(([bU.mk (bJ 0) w8]:List bU).length:Int))=true by decide,cond_true,bm (by decide),ax,cH (by omega)]; rfl) (by unfold fZ; rfl),ax]
 show fX _ _=_;unfold fX;rw [hcp,ax];have h10:loop (fun s:Bool×Int=>kU (bU.mk (bJ 0) w8) [] s.1 s.2) (true,0)=some true:=lJ rfl;have h8:loop (fun s:(List a7)×Bool×Int=>fC (ah.mk 0 [] []) [] (bU.mk (bJ 0) w8) s.1 s.2.1 s.2.2) (([]:List a7),false,0)=some ([],false):=lJ rfl;have hne:((nr (ah.mk 0 [] []) (bJ 0)).u.toList==w8.toList)=false:=by
  show (cp.toList==(ByteArray.mk #[55]).toList)=false;rw [ByteArray.toList_eq,ByteArray.toList_eq]; rfl
 have e1:eQ [bU.mk (bJ 0) w8] (ah.mk 0 [] []) (ah.mk 0 [] []) false 0 []=some (.go (true,1,[⟨bJ 0,w8,1⟩])):=by
  unfold eQ;rw [show decide ((0:Int)<(([bU.mk (bJ 0) w8]:List bU).length:Int))=true by decide,cond_true];show ((some (bU.mk (bJ 0) w8)).bind _)=_;rw [ax,show pU [bU.mk (bJ 0) w8] (IntKind.i64.wrap (0+1)) ([bU.mk (bJ 0) w8]:List bU).length=some [] from rfl,ax,h10,ax];unfold lY;simp only [dC,cond_false];rw [Dv (h.rm hl).2.1,ax,hne,cond_false,h8,ax];unfold ez ey ic;simp only [nO,cond_true];rw [hw]; rfl
 have e2:eQ [bU.mk (bJ 0) w8] (ah.mk 0 [] []) (ah.mk 0 [] []) true 1 [⟨bJ 0,w8,1⟩]=some (.out (true,[⟨bJ 0,w8,1⟩])):=rfl;rw [show loop (fun s:Bool×Int×(List a7)=>eQ [bU.mk (bJ 0) w8] (ah.mk 0 [] []) (ah.mk 0 [] []) s.1 s.2.1 s.2.2) (false,0,(ah.mk 0 [] []).i)=some (true,[⟨bJ 0,w8,1⟩]) from (Bf e1).trans (lJ e2),ax];unfold jT;rw [hw]; rfl
theorem Po {inp:ae->ByteArray} (h:inp (bJ 0)=w8):Vd r7 inp 0=w8:=by
 rw [zL nQ (n:=0) (r:=zH) rfl];have e:dH r7 inp (Vd r7 inp) zH zH.c.length=[w8]:=by
  show dH r7 inp (Vd r7 inp) zH (0+1)=_;rw [my (k:=0) (x:=Pk) rfl];show []++[mz r7 inp (Vd r7 inp) Pk []]=_;rw [tp nQ (n:=0) (r:=zH) rfl (k:=0) rfl];show []++[vK r7 inp (bJ 0)]=_;rw [jx,h]; rfl
 have h7:w8=cL ((7:Nat):Int):=Ou.symm;rw [e];have:u6 zH [w8]=((7:Nat):Int):=by
  unfold u6;rw [h7];simp only [vU,CH,List.sum_cons,List.sum_nil,tc (show 7<65536 by omega)];rfl
 rw [this,<- h7]
theorem Pn {inp:ae->ByteArray} {V:Nat->ByteArray}:fJ r7 inp V zH zH.c.length=[bJ 0]:=by
 show fJ r7 inp V zH (0+1)=_;rw [ld (k:=0) (x:=Pk) rfl];rfl
theorem A8:j9=some true:=by
 have hl:r7.length<=8:=by decide
 unfold j9;rw [show km 0=some (bJ 0) from vp (n:=0) (by omega),ax];rw [show eP (ah.mk 0 [] []) [bU.mk (bJ 0) (ByteArray.mk #[55])]=some (Pm,0) from H1,ax];rw [show jQ [aN.mk false [dd.mk true false 0 0] 1 0] 0=some (rk r7 0) from AK (l:=r7) (n:=0) (by decide) (by decide),ax];obtain⟨y0,e0,hB1,_,⟨H,hV1⟩,_⟩:=qO nQ (Ht r7) (cs:=[bU.mk (bJ 0) w8]) (show zF r7 (ah.mk 0 [] []) from ⟨fun _ _=>⟨#[]⟩,fun _=>rfl,fun _ _ _ _=>rfl,fun m hm=>absurd hm cJ,fun m hm=>absurd hm cJ⟩) (by decide) (fun c hc=>by
  rw [bK.1 hc];exact⟨⟨0,by omega,rfl⟩,by decide⟩) (by decide)
 rw [H1] at e0;obtain rfl:=bM e0;have hg0:fP r7 (rk r7 0):=.inr ⟨0,by decide,rfl⟩;obtain⟨y,e1,hy⟩:=tC nQ hB1 hV1 (goals:=[rk r7 0]) (fun k O=>by rw [bK.1 O]; exact hg0) (by decide);rw [show fp uu [aN.mk false [dd.mk true false 0 0] 1 0] (ah.mk Pm.r Pm.i Pm.s) [rk r7 0]=some y from e1,ax];have hB2:=hy.lv.ok;have hVR:=hy.vi.verR nQ hB2;have hin:inB y.1 (bJ 0)=w8:=by
  show (nr y.1 (bJ 0)).u=_;unfold nr;rw [show y.1.i=[⟨bJ 0,w8,1⟩] from hy.lv.ins];rw [List.find?_cons_of_pos (by exact dM.2 rfl)]
 have hver:cE y.1 (rk r7 0)=true:=by
  rcases hy.there _ kh with⟨c,e⟩ | h
  ·exact absurd e.symm oX
  ·exact h
 have hnr:=hB2.nrec;have hv2:=hver;unfold cE at hv2;rw [kg,decide_eq_true_eq] at hv2;obtain⟨f1,f2⟩:=bW hv2.1;generalize (bc y.1.s (rk r7 0)).1=m at f1 f2 hv2;have hrec:y.1.s=[m]:=Lo f1 hnr;have hrd:m.k=[bJ 0]:=by
  rw [(hy.vi.recv m f1 0 zH rfl f2).2];exact Pn
 have hfull:tu y.1 m=true:=by
  unfold tu;rw [hrd,decide_eq_true hv2.2];show (true&&(xa y.1 (bJ 0)&&true))=true;rw [vg]; rfl
 have hcol:I4 r7 y.1=[pW r7 y.1 m]:=by
  unfold I4;rw [hrec,uP hfull]; rfl
 have U:eU r7 (pW r7 y.1 m):=Od nQ hB2 hy.vi f1 hv2.2;rw [show jg (ah.mk y.1.r y.1.i y.1.s)=some [pW r7 y.1 m] from by rw [<- hcol]; exact Kk nQ hB2 hVR,ax];have hBn:dF r7 (ah.mk y.1.r y.1.i []):=⟨hB2.rev,hB2.ins,hB2.insA,fun x hx=>absurd hx cJ,pY⟩;have hVn:CP r7 (ah.mk y.1.r y.1.i []):=fun x hx=>absurd hx cJ;have hall:∀ x∈[pW r7 y.1 m],eU r7 x:=fun x hx=>by rw [bK.1 hx]; exact U
 obtain⟨u,e2,hu⟩:=vz nQ hBn hVn hall (by simp);rw [show fo [aN.mk false [dd.mk true false 0 0] 1 0] (ah.mk y.1.r y.1.i []) [pW r7 y.1 m]=some u from e2,ax];obtain⟨recs,g,b1,b2,b3,b4⟩:=hu.base;have hreads:(pW r7 y.1 m).k=[⟨bJ 0,yk w8⟩]:=by
  show m.k.map (OK r7 y.1)=_;rw [hrd];show [cz.mk (bJ 0) (yk (vK r7 (inB y.1) (bJ 0)))]=_;rw [jx,hin]
 have hex:∃ q,q∈recs:=by
  refine II fun hno=>b4 _ kh ⟨fun q hq=>absurd ⟨q,hq⟩ hno,fun r hr=>?_⟩;rw [hreads] at hr;rw [bK.1 hr];refine⟨vg,?_⟩;show yk w8=yk (vK r7 (inB y.1) (bJ 0));rw [jx,hin]
 obtain⟨q,hq⟩:=hex;have hn1:=b2.ok.nrec;have hn1:recs.length<=1:=hn1;have hrq:recs=[q]:=Lo hq hn1;have hgl:=b2.len;have hg1:g.length=1:=by rw [hrq] at hgl; simp at hgl; omega
 have hs1:u.2.1.length=1:=by rw [b3.len_eq b2.nd,hg1]
 have hval:q.u=w8:=by
  rcases b2.new q hq with h | ⟨_,h⟩
  ·cases h
  ·obtain⟨n,r,n1,n2,n3,_⟩:=h.ex;obtain rfl:n=0:=by have:=aY n1; simp [r7] at this; omega
   rw [n3];exact Po hin
 have hfit:jh (ah.mk y.1.r y.1.i []) (pW r7 y.1 m)=some true:=by
  have key:Ok (jh (ah.mk y.1.r y.1.i []) (pW r7 y.1 m)) fun z=>z=true:=by
   unfold jh;refine aD (yN nQ hBn hVn) fun K ⟨k1,k2⟩=>aD (Q:=fun z=>z.1=true) ?_ fun z hz=>ai hz;have O:=Ey nQ hBn (b0:=K.b) (fun k=>by rw [k1]) (by rw [k1]; exact (hBn.rm hl).2.1) k2 U;refine O.mono fun z hz=>hz.1.2 fun r hr=>?_;rw [hreads] at hr;rw [bK.1 hr];refine⟨vg,?_⟩;show yk w8=yk (vK r7 (inB y.1) (bJ 0));rw [jx,hin]
  obtain⟨z,e,rfl⟩:=key;exact e
 have hnot:jh (ah.mk 0 [] []) (pW r7 y.1 m)=some false:=by
  have hB0:=Ht r7;have key:Ok (jh (ah.mk 0 [] []) (pW r7 y.1 m)) fun z=>z=false:=by
   unfold jh;refine aD (yN nQ hB0 (fun x hx=>absurd hx cJ)) fun K ⟨k1,k2⟩=>aD (Q:=fun z=>z.1=false) ?_ fun z hz=>ai hz;have O:=Ey nQ hB0 (b0:=K.b) (fun k=>by rw [k1]) (by rw [k1]; exact (hB0.rm hl).2.1) k2 U;refine O.mono fun z hz=>?_;cases hz1:z.1 with
   | false=>rfl
   | true =>
    have h1:=(hz.1.1 hz1 ⟨bJ 0,yk w8⟩ (by rw [hreads]; exact kh)).2;have h2:=Ie (by decide) h1;rw [jx] at h2;have h3:=congrArg ByteArray.size h2;exact absurd h3 (by decide)
  obtain⟨z,e,rfl⟩:=key;exact e
 have hur:u.1.s=[q]:=by rw [b1]; exact hrq
 rw [hu.e0,hs1,hur];simp only [eS,vS,show (((0+1:Nat):Int)==1)=true from rfl,show (((1:Nat):Int)==1)=true from rfl,show ((0:Int)==0)=true from rfl,cond_true];rw [show bu [q] 0=some q from rfl,ax,hval,show (w8.toList==(ByteArray.mk #[55]).toList)=true from beq_self_eq_true _,cond_true,show bu [pW r7 y.1 m] 0=some (pW r7 y.1 m) from rfl,ax,hfit,ax,cond_true,ax,hnot];rfl
end
section
open Go.Lib hiding intOf
theorem Ef (t:List Int) (c:Int):iF t c=some true:=by
 rcases dZ 400 t.length with ht | ht
 ·unfold iF;rw [AC (by omega),ax,A8]; rfl
 refine KW ?_;unfold iF;refine aH (BP ht) ?_;simp only [dC,cond_false];refine aH (v:=bj.mk t 0) rfl (aD (Fh (d:=t) (i:=0) ⟨by omega,by omega,ht⟩ (by omega) (by omega)) fun u ⟨C,⟨hB,⟨H,hV⟩⟩,hrev,hd⟩=>aD (yp C hB ⟨H,hV⟩ (by omega) hd) fun a ⟨a1,a2,hd2⟩=>?_);have hl:=C.high;have hVR:=hV.verR C hB;rw [qq (by omega) (by omega)];refine aD (OB c (by omega) (by omega)) fun m ⟨m0,m1⟩=>?_;obtain⟨j,rfl⟩:∃ j:Nat,m=j:=⟨m.toNat,by omega⟩;refine aH (qo (by omega)) ?_;have hf:∀ x∈a.1.take j,x∈a.1:=fun x hx=>List.mem_of_mem_take hx;have hfl:(a.1.take j).length<=1000:=by rw [je]; omega
 refine aD (vz C hB hVR (fun x hx=>a2 x (hf x hx)) hfl) fun x hx=>aD (vz C hB hVR a2 (by omega)) fun y hy=>?_;obtain⟨xr,xg,x1,x2,x3,x4⟩:=hx.base;obtain⟨yr,yg,y1,y2,y3,y4⟩:=hy.base;obtain⟨xb,one,xe⟩:=x;obtain⟨yb,two,ye⟩:=y;have hxe:xe=0:=hx.e0;have hye:ye=0:=hy.e0;dsimp only at x1 x3 y1 y3;subst x1 y1 hxe hye;have hnr:=hB.nrec;have hxl:=x2.ok.nrec;have hxl:xr.length<=u.1.length:=hxl;have hyl:=y2.ok.nrec;have hyl:yr.length<=u.1.length:=hyl;have hx2:=x2.len;have hy2:=y2.len;have hon:=x3.len_eq x2.nd;have htw:=y3.len_eq y2.nd;simp only [show ((0:Int) != 0)=false from rfl,cond_false]
 have hin:∀ k∈xg,k∈yg:=by
  have hQ:HV u.1 u.2.1 (a.1.take j) fun k=>xa u.2.1 k=true∨k∈yg:=by
   refine⟨fun k _ O=>.inl O,fun x hx hr hno=>.inr ?_⟩;have hxa:=hf x hx;by_cases he:∃ q∈yr,q.d=x.d
   ·obtain⟨q,hq,e⟩:=he;rcases y2.new q hq with h | ⟨h,_⟩
    ·exact absurd e (hno q h)
    ·rw [<- e]; exact h
   ·refine absurd ⟨fun q hq e=>he ⟨q,hq,e⟩,fun r hr2=>?_⟩ (y4 x hxa);obtain⟨h1,h2⟩:=hr r hr2;refine⟨?_,h2⟩;rcases h1 with h1 | h1
    ·unfold xa at h1 ⊢;rw [uO] at h1 ⊢;refine h1.imp id fun h1=>?_;unfold cE at h1;rw [kg,decide_eq_true_eq] at h1;obtain⟨f1,f2⟩:=bW h1.1;have:=rB y2.ok (x:=(bc u.2.1.s r.d).1) (y2.keep _ f1);rw [f2] at this;rw [this];exact decide_eq_true h1.2
    ·obtain⟨⟨q,hq,e⟩,hno2⟩:=y2.got _ h1;rcases y2.new q hq with h | ⟨_,h⟩
     ·exact absurd e (hno2 q h)
     ·have:=rB y2.ok (x:=q) hq;rw [e] at this;unfold xa;rw [this,decide_eq_true h.ver,GI]
  intro k O;rcases x2.cl _ hQ k O with h | h
  ·exfalso;obtain⟨⟨q,hq,e⟩,hno⟩:=x2.got k O;have hgk:∃ n,n<u.1.length/\k=rk u.1 n:=by
    obtain⟨n,hn,e2⟩:=(x2.ok.recs q hq).key;exact⟨n,hn,e.symm.trans e2⟩
   obtain⟨n,_,rfl⟩:=hgk;rw [FR] at h;unfold cE at h;rw [kg] at h;obtain⟨f1,f2⟩:=bW h.1;exact hno _ f1 f2
  ·exact h
 refine aH (db (r:=Fl.go ()) one.length (fun k O=>?_) ?_) ?_
 ·unfold gZ;rw [dlt O,cond_true,bm O,ax];show ((jO two one[k]).bind _)=_;rw [uB (by unfold Rm; omega),ax,wM.2 ((y3.mem _).2 (hin _ ((x3.mem _).1 (dR O))))];simp only [dC,cond_false];rw [cH (by omega)]
 ·unfold gZ;rw [bZ]; rfl
 show Ok (gX u (wr u.2.1 xr,one,0) (wr u.2.1 yr,two,0)) _;unfold gX;refine aH (db (r:=Fl.go ()) u.2.1.s.length (fun k O=>?_) ?_) ?_
 ·have hm:=dR O;have hrl:=(hB.recs _ hm).reads;unfold gY;rw [dlt O,cond_true,bm O,ax];have e1:cm xr u.2.1.s[k].d=some (u.2.1.s[k],true):=by rw [<- iP x2.ok.recsA (x2.keep _ hm) rfl]; exact x2.ok.find hl _
  have e2:cm yr u.2.1.s[k].d=some (u.2.1.s[k],true):=by rw [<- iP y2.ok.recsA (y2.keep _ hm) rfl]; exact y2.ok.find hl _
  show ((cm xr u.2.1.s[k].d).bind _)=_;rw [e1,ax];show ((cm yr u.2.1.s[k].d).bind _)=_;rw [e2,ax];simp only [dC,cond_false];show ((jn u.2.1.s[k] u.2.1.s[k]).bind _)=_;rw [HE (by unfold Rm; omega),ax];simp only [dC,cond_false];rw [ax];simp only [dC,cond_false];rw [cH (by omega)]
 ·unfold gY;rw [bZ]; rfl
 show Ok (gW u (wr u.2.1 xr,one,0)) _;unfold gW;have e:((((wr u.2.1 xr).s.length:Int):Int)==(IntKind.i64.wrap ((u.2.1.s.length:Int)+(one.length:Int))))=true:=by
  rw [qq (by omega) (by omega)];show (((xr.length:Int):Int)==_)=true;rw [hx2,hon];simp
 show Ok (cond ((((wr u.2.1 xr).s.length:Int):Int)==(IntKind.i64.wrap ((u.2.1.s.length:Int)+(one.length:Int)))) _ _) _;rw [e,cond_true,A8];exact ai rfl
end
section
open Go.RowKit Go.ChangeShapes Go.WideShapes Go.ChangeAt
open Go.Lib hiding intOf
variable {W:World} {l:List (String×DataW Unit)}
theorem Q1:ownKnob Tryz.prog.godebug=none:=by kernel_rfl
theorem LaidVars.mem {P:Program} {w:World} {nm:String} {d:DataW Unit}:∀ {l:List (String×DataW Unit)} {ps:List MemPlace},DataW.LaidVars P w l ps->(nm,d)∈l ->
  ∃ g t cs fuel p,P.globalNamed nm=some g/\(P.globals[g]?).map (·.type)=some t/\w.var? P nm=some cs/\DataW.trod (fun _=>()) P w 0 (fun _=>true) false fuel t cs.toList=some (d,p)
 | [],_,_,hm=>by cases hm
 | (n1,d1)::l,ps,h,hm=>by
  obtain⟨g,t,cs,f,p,q,hg,ht,hv,hd,hq,_⟩:=h;rcases cI.1 hm with he | hm
  ·injection he with h1 h2;subst h1 h2;exact⟨g,t,cs,f,p,hg,ht,hv,hd⟩
  ·exact LaidVars.mem hq hm
theorem KK (h : laidMet aR l W) (hm : ("internal/strconv.uint64pow10", Lib.tabData .u64 pow10Tab) ∈ l) : TabIs aR W "internal/strconv.uint64pow10" .u64 pow10Tab := by
 obtain⟨ps, hl, _⟩ := h;obtain⟨g, t, cs, f, p, hg, ht, hv, hd⟩ := LaidVars.mem hl hm;obtain rfl := bM ((show Tryz.prog.globalNamed "internal/strconv.uint64pow10" = some 1 by kernel_rfl).symm.trans hg)
 obtain rfl:=bM ((show (Tryz.prog.globals[1]?).map (·.type)=some 343 by kernel_rfl).symm.trans ht);unfold TabIs;rw [hv,<- cells_of_tab Tryz.underlying343 Tryz.underlying103 (by kernel_rfl) (by kernel_rfl) hd]
theorem FU (h:laidMet aR l W) {nm:String} {d:DataW Unit} {s:String} {g0:Nat} (hm:(nm,DataW.iface s d)∈l) (hg0:Tryz.prog.globalNamed nm=some g0) (ht0:(Tryz.prog.globals[g0]?).map (·.type)=some 241) :
  ∃ ev,W.cell? ⟨g0,0,none⟩=some ev/\(ev = .nilIface∨∃ te pe,ev = .iface te pe):=by
 obtain⟨ps,hl,_⟩:=h;obtain⟨g,t,cs,f,p,hg,ht,hv,hd⟩:=LaidVars.mem hl hm;obtain rfl:=bM (hg0.symm.trans hg);obtain rfl:=bM (ht0.symm.trans ht);obtain⟨_,u,v,hcs,_,_⟩:=iface_of_trod Tryz.underlying241 hd;refine⟨.iface u v,?_,.inr ⟨u,v,rfl⟩⟩;have:=World.var?_cell hg0 hv 0;rw [Array.eq_one_of_toList hcs] at this;simpa using this
theorem NR (h:laidMetH aR l W) (hp:(l.all fun x=>x.2.handleName?.isNone)=true)
  (h1 : ("internal/strconv.uint64pow10", Lib.tabData .u64 pow10Tab) ∈ l) (h2 : ("strconv.ErrSyntax", Rows.laid_strconv_ErrSyntax) ∈ l) (h3 : ("strconv.ErrRange", Rows.laid_strconv_ErrRange) ∈ l) : Lv W := by
 rw [MakeChecks.laidMetH_plain _ _ _ hp] at h;exact⟨FU h h2 (by kernel_rfl) (by kernel_rfl),FU h h3 (by kernel_rfl) (by kernel_rfl),KK h h1⟩
end
section
open Go.ChangeShapes Go.WideShapes Go.ChangeAt Go.RowKit Go.Deep Go.Joins
theorem Il {α:Type} {Q:Nat->α->Prop}:∀ (n:Nat),(∀ i,i<n->∃ x,Q i x)->∃ xs:List α,xs.length=n/\∀ i x,xs[i]? = some x->Q i x
 | 0,_=>⟨[],rfl,fun i x h=>by simp at h⟩
 | n+1,h=>by
  obtain⟨xs,h1,h2⟩:=Il n fun i hi=>h i (by omega);obtain⟨y,hy⟩:=h n (by omega);refine⟨xs++[y],by simp [h1],fun i x hx=>?_⟩;by_cases hi:i<xs.length
  ·rw [m4 hi] at hx; exact h2 i x hx
  ·have hl:=(bS.1 hx).1;simp only [cS,eS,vS] at hl;have:i=xs.length:=by omega
   subst this;rw [pQ (bX _),yh] at hx;simp only [GQ,cw] at hx;subst hx;rw [h1]; exact hy
def Dk {α:Type} (P:Program) (t:TypeId) (R:a6 α) (Q:α->Prop):Prop :=
 ∀ {H:Type} {enc:TypeId×Value->H} {w:World} {base n:Nat} {sp:Nat->Bool} {held:Bool} {cs:bI} {d:DataW H} {p:List MemPlace},DataW.trod enc P w base sp held n t cs=some (d,p)->(∀ m∈d.weights P t,m<=reachBytes)->∃ x,R.rel No w cs x/\Q x
section
variable {P:Program} {t e:TypeId}
theorem Dk.int {k:IntKind} (ht:P.underlying t=some (.int k)):Dk P t (a6.int k) (fun n=>(Lit.int k n).wf=true):=fun h _=>by
 obtain⟨n,rfl,_,hw⟩:=DataW.trod_int ht h;exact⟨n,rfl,hw⟩
theorem Dk.bool (ht:P.underlying t=some .bool):Dk P t a6.bool (fun _=>True):=fun h _=>by
 obtain⟨b,rfl,_⟩:=DataW.trod_bool ht h;exact⟨b,rfl,trivial⟩
theorem Dk.str (ht:P.underlying t=some .string):Dk P t a6.str (fun s=>s.size<=140737488355328):=fun h hw=>by
 obtain⟨s,rfl,hx,_⟩:=DataW.trod_string ht h;simp only [yj] at hx;obtain⟨rfl,rfl⟩:=hx;refine⟨s,rfl,?_⟩;have:=hw s.data.toList.length (by simp [DataW.weights]);have hr:reachBytes<=140737488355328:=by decide
 have hz:s.size=s.data.toList.length:=by rw [Array.length_toList]; rfl
 omega
theorem Co {H:Type}:∀ {ds:List (DataW H)} {i:Nat} {d:DataW H},ds[i]? = some d->∀ n∈d.weights P e,n∈DataW.weightsAll P e ds
 | [],_,_,h,_,_=>by simp at h
 | d0::r,0,d,h,n,hn=>by
  simp only [GQ,cw] at h;subst h;simp only [DataW.weightsAll,cD];exact .inl hn
 | d0::r,i+1,d,h,n,hn=>by
  simp only [D9] at h;simp only [DataW.weightsAll,cD];exact .inr (Co h n hn)
theorem Dk.slice {α:Type} {R:a6 α} {Q:α->Prop} (ht:P.underlying t=some (.slice e)) (hc:P.cellsOf e=R.size) (hs:0<R.size) (ho:Dk P e R Q):Dk P t (a6.slice R) (fun xs=>(∀ x∈xs,Q x)/\xs.length*P.bytesOf e<=reachBytes/\xs.length<=maxLen):=fun {H enc w base n sp held cs d p} h hw=>by
 rcases open_slice ht h with⟨rfl,hx⟩|⟨a,len,cap,m,n,D,Pl,rfl,hb,hl,hm,hmm,hx,hi⟩
 ·exact⟨[],⟨_,rfl,aF.nil_ _ _ _⟩,fun x hx=>by simp at hx,by simp,by simp⟩
 ·simp only [yj] at hx;obtain⟨rfl,rfl⟩:=hx;have hlm:len<=m:=by rw [hmm]; split <;> omega
  obtain⟨xs,h1,h2⟩:=Il (α:=α) (Q:=fun i x=>Q x/\∃ cs,R.rel No w cs x/\∀ j u,cs[j]? = some u->w.cell? (a.add (i*R.size+j))=some u) len (fun i hil=>by
   obtain⟨cs',hcc,ht'⟩:=hi i (by omega);rw [hc] at hcc;obtain⟨x,hx,hq⟩:=ho ht' (fun k O=>hw k (by
    simp only [DataW.weights,ht,cI,cD];exact .inr (.inl (Co (i:=i) (d:=D i) (by rw [wK,List.getElem?_range hil]; rfl) k O))))
   obtain⟨_,hcl,hat⟩:=World.cells?_some hcc;refine⟨x,hq,cs',hx,fun j u hu=>?_⟩;have hj:j<R.size:=by rw [<- hcl]; exact (bS.1 hu).1
   rw [<- Go.Deep.add_add,hat j hj,hu])
  subst h1;refine⟨xs,⟨_,rfl,some a,cap,rfl,hl,hm,?_⟩,fun x hx=>?_,?_,cC hl hm⟩
  ·cases xs with
   | nil=>exact .inl rfl
   | cons x0 xs =>
    right;obtain⟨_,cs0,hr0,hc0⟩:=h2 0 x0 rfl;have hl0:=R.len hr0;have hu:=hc0 0 _ (bA (show 0<cs0.length by omega));obtain⟨b,off,spot⟩:=a;have hsp:spot=none:=by
     unfold World.cell? at hu;split at hu
     ·cases spot with
      | none=>rfl
      | some q=>simp [Addr.add] at hu
     ·simp at hu
    subst hsp;refine⟨b,off,rfl,fun k x hx=>?_⟩;obtain⟨_,cs,hr,hcs⟩:=h2 k x hx;refine⟨cs,hr,fun h=>h,?_,fun j u hu=>?_⟩
    ·rw [Addr.add_lit] at hu; exact World.block_lt_of_cell? _ _ hu
    ·have:=hcs j u hu;rwa [Addr.add_lit,<- tf] at this
  ·obtain⟨i,hi',e⟩:=IK hx;exact (h2 i x (by rw [<- e]; exact bA hi')).1
  ·have:=hw ((xs.length+(m-xs.length))*P.bytesOf e) (by
    simp only [DataW.weights,ht,cI,m5,List.length_range]
    first | exact .inl trivial | exact .inl rfl | trivial)
   exact cC (kI _ (by omega)) this
theorem Dk.arg {α:Type} {R:a6 α} {Q:List α->Prop} {H:Type} {enc:TypeId×Value->H} {w:World} {base:Nat} {sp:Nat->Bool} {held:Bool} {v:Value} {d:DataW H} {p:List MemPlace} {ts:List TypeId} {ds:List (DataW H)} {j0:Nat}
  (ho:Dk P t (a6.slice R) Q) (ht:P.underlying t=some (.slice e)) (hsz:(DataW.weightsEach P ts ds).all (·<=reachBytes)=true) (htj:ts[j0]? = some t) (hdj:ds[j0]? = some d)
  {r:Reach} {b0:Nat} (hv:Value.okWide P w r b0 t v) (h:DataW.Trod enc P w base sp held t v d p):∃ xs,aF R No w v xs/\Q xs:=by
 obtain⟨A,len,cap,rfl⟩:=okWide_slice ht hv;obtain⟨fuel,hf⟩:=h;obtain⟨xs,⟨v',he,hs⟩,hq⟩:=ho hf (fun m hm=>by
  have:=GL.1 hsz m (DataW.weights_mem_each htj hdj m hm);simpa using this)
 simp only [Value.cells,List.cons.injEq,and_true] at he;subst he;exact⟨xs,hs,hq⟩
end
end
section
open Go.ChangeShapes Go.WideShapes Go.ChangeAt Go.RowKit Go.Deep Go.Joins
def a6.unit:a6 Unit where
 size:=0
 rel:=fun _ _ cs _=>cs=[]
 len:=by rintro _ _ _ _ rfl; rfl
 one:=by rintro _ _ _ _ rfl u hu; cases hu
 keep:=fun h _ _=>h
def IQ {α:Type} (P:Program) (fs:List Field) (off:Nat) (R:a6 α) (Q:α->Prop):Prop :=
 (∀ f∈fs,off<=f.offset) /\
 ∀ {H:Type} {enc:TypeId×Value->H} {w:World} {base n:Nat} {sp:Nat->Bool} {held:Bool} {cs:bI} {xs:List (DataW H×List MemPlace)},cs.length=R.size->xs.length=fs.length ->
  (∀ (i:Nat) (f:Field),fs[i]? = some f->DataW.trod enc P w base sp held n f.type ((cs.drop (f.offset-off)).take (P.cellsOf f.type))=xs[i]?) ->
  (∀ m∈DataW.weightsEach P (fs.map (·.type)) (xs.map (·.1)),m<=reachBytes)->∃ x,R.rel No w cs x/\Q x
section
variable {P:Program} {t:TypeId}
theorem IQ.nil (off:Nat):IQ P [] off a6.unit (fun _=>True) :=
 ⟨fun f hf=>(by cases hf),fun {H enc w base n sp held cs xs} hl _ _ _=>⟨(),AS hl,trivial⟩⟩
theorem IQ.cons {α β:Type} {R:a6 α} {S:a6 β} {Q:α->Prop} {Q2:β->Prop} {f:Field} {fs:List Field} {off:Nat} (ho:Dk P f.type R Q) (hf:f.offset=off) (hc:P.cellsOf f.type=R.size) (h:IQ P fs (off+R.size) S Q2):IQ P (f::fs) off (R.prod S) (fun x=>Q x.1/\Q2 x.2):=by
 refine⟨fun g hg=>?_,fun {H enc w base n sp held cs xs} hl hx ht hw=>?_⟩
 ·rcases cI.1 hg with rfl | hg
  ·omega
  ·have:=h.1 g hg; omega
 ·cases xs with
  | nil=>simp at hx
  | cons y xs =>
   have hl:cs.length=R.size+S.size:=hl;have h0:=ht 0 f rfl;rw [hf,yh,D8,hc] at h0;obtain⟨x1,k1,k2⟩:=ho h0 (fun m hm=>hw m (by simp only [vU,DataW.weightsEach,cD]; exact .inl hm));obtain⟨x2,k3,k4⟩:=h.2 (H:=H) (enc:=enc) (w:=w) (base:=base) (n:=n) (sp:=sp) (held:=held) (cs:=cs.drop R.size) (xs:=xs) (by rw [tI]; omega) (by simpa using hx) (fun i g hg=>by
    have h1:=ht (i+1) g (by simpa using hg);have h2:=h.1 g (aO hg);rw [List.drop_drop,show R.size+(g.offset-(off+R.size))=g.offset-off by omega];simpa using h1) (fun m hm=>hw m (by simp only [vU,DataW.weightsEach,cD]; exact .inr hm))
   exact⟨(x1,x2),⟨cs.take R.size,cs.drop R.size,(E0 _ _).symm,k1,k3⟩,k2,k4⟩
theorem Dk.struct {α:Type} {R:a6 α} {Q:α->Prop} {fs:Array Field} (ht:P.underlying t=some (.struct fs)) (hc:P.cellsOf t=R.size) (h:IQ P fs.toList 0 R Q):Dk P t R Q:=fun {H enc w base n sp held cs d p} h0 hw=>by
 obtain⟨xs,m,_,hx,hl,hlen,hf⟩:=DataW.trod_struct ht h0;simp only [yj] at hx;obtain⟨rfl,rfl⟩:=hx;refine h.2 (H:=H) (enc:=enc) (w:=w) (base:=base) (n:=m) (sp:=sp) (held:=held) (xs:=xs) (hl.trans hc) (by simpa using hlen) (fun i f hi=>?_) (fun k O=>hw k ?_)
 ·have:=hf i f (by simpa using hi);simpa using this
 ·simp only [DataW.weights,ht];exact O
end
end
section
open Go
theorem Dx {P:Program} (h:P.funcs.any Func.goes=false) (f:FuncId):P.goes f=false:=by
 unfold Program.goes;rw [h,Bool.and_false,Bool.or_false];rw [Bool.eq_false_iff];intro hc;rw [AR] at hc;obtain⟨g,_,hg⟩:=hc;cases hf:P.funcs[g]? with
 | none=>rw [hf] at hg; cases hg
 | some fn =>
  rw [hf] at hg;have:P.funcs.any Func.goes=true:=(M4).2 ⟨fn,Array.mem_of_getElem? hf,by simpa using hg⟩;rw [h] at this;cases this
theorem AB {P:Program} (h:P.funcs.any Func.goes=false) (st:Start) (func:String):P.goesAt st func=false:=by
 have hf:P.goesFrom func=false:=by
  unfold Program.goesFrom;cases P.funcNamed func with
  | none=>rfl
  | some f=>exact Dx h f
 have hi:P.inits.toList.any P.goes=false:=by
  rw [Bool.eq_false_iff];intro hc;obtain⟨g,_,hg⟩:=AR.1 hc;rw [Dx h g] at hg;cases hg
 unfold Program.goesAt;rw [hf,GH];cases st <;> first | rfl | exact hi
end
section
open Go.Lib hiding intOf
theorem CS (t:List Int):gN t=some true:=by
 rcases dZ 400 t.length with ht | ht
 ·unfold gN;rw [AC (by omega),ax,A8]; rfl
 refine KW ?_;unfold gN;refine aH (BP ht) ?_;simp only [dC,cond_false];refine aH (v:=bj.mk t 0) rfl (aD (Fh (d:=t) (i:=0) ⟨by omega,by omega,ht⟩ (by omega) (by omega)) fun u ⟨C,⟨hB,hH⟩,hrev,hd⟩=>aD (yp C hB hH (by omega) hd) fun a ⟨a1,a2,hd2⟩=>aD (uX hd2 (by omega) (by omega)) fun z ⟨z1,z2,d3⟩=>?_);have hl:=C.high;refine aD (qO C hB hH (by omega) z1 (by omega)) fun w ⟨w1,w2,⟨H,w3⟩,_⟩=>?_;have hBn:dF u.1 (ah.mk w.1.r w.1.i []):=⟨w1.rev,w1.ins,w1.insA,fun x hx=>absurd hx cJ,pY⟩;have hVn:CP u.1 (ah.mk w.1.r w.1.i []):=fun x hx=>absurd hx cJ;refine aD (vz C hBn hVn a2 (by omega)) fun x hx=>?_;obtain⟨recs,g,b1,b2,b3,b4⟩:=hx.base;obtain⟨x1,got,xe⟩:=x;have hxe:xe=0:=hx.e0;dsimp only at b1 b3 hxe;subst hxe;subst b1;have hlen:got.length=recs.length:=by
  have:=b2.len;rw [b3.len_eq b2.nd,this];simp
 have hnr:=b2.ok.nrec;have hnr:recs.length<=u.1.length:=hnr;simp only [show ((0:Int) != 0)=false from rfl,cond_false];rw [show (((got.length:Int):Int) != (recs.length:Int))=false by rw [hlen]; simp,cond_false];refine aH (vE b2.ok hl) ?_;simp only [dC,cond_false];have hin:inB (wr (ah.mk w.1.r w.1.i []) recs)=H w.1.r:=funext w3.now;have hnew:∀ m∈recs,Oa u.1 (inB (ah.mk w.1.r w.1.i [])) w.1.r m:=fun m hm=>by
  rcases b2.new m hm with h | ⟨_,h⟩
  ·cases h
  ·exact h
 refine aH (db (r:=Fl.go ()) recs.length (fun k O=>?_) ?_) ?_
 ·obtain⟨n,r,n1,n2,n3,n4⟩:=(hnew _ (dR O)).ex;have hnv:=(hnew _ (dR O)).ver;have hnl:=aY n1;have hg:fP u.1 (rk u.1 n):=.inr ⟨n,hnl,rfl⟩;obtain⟨v,v1,v2⟩:=IA C hBn hg;unfold gl;rw [dlt O,cond_true,bm O,ax];show ((i6 u.1 (ah.mk w.1.r w.1.i []) recs[k].d).bind _)=_;rw [n2,v1,ax];show ((l6 u.1 (ah.mk w.1.r w.1.i []) (rk u.1 n)).bind _)=_;rw [MN C hBn n1,ax];simp only [show ((0:Int) != 0)=false from rfl,cond_false];rw [show (recs[k].u.toList==v.toList)=true by rw [n3,v2,tb (by omega)]; exact beq_self_eq_true _];simp only [dC,cond_false];have hrl:=(b2.ok.recs _ (dR O)).reads;rw [<- n4,xB (by unfold Rm; omega),ax];simp only [dC,cond_false];rw [show ((recs[k].t:Int) != w.1.r)=false by rw [hnv]; simp,cond_false,cH (by omega)]
 ·unfold gl;rw [bZ]; rfl
 show Ok (gh u z w (wr (ah.mk w.1.r w.1.i []) recs,got,0)) _;unfold gh;refine aD (yH C d3 (by omega) (by omega)) fun q ⟨g1,g2,d4⟩=>?_;have hvi:VI u.1 H (wr (ah.mk w.1.r w.1.i []) recs) Ob:=by
  refine⟨w3.now,w3.past,fun m hm n r hn O=>?_,fun m hm x hx hmx=>.inl ⟨?_,fun _=>?_⟩⟩
  ·obtain⟨n',r',n1,n2,n3,n4⟩:=(hnew m hm).ex;have h1:=aY hn;have h2:=aY n1;obtain rfl:n'=n:=rG (by omega) (by omega) (n2.symm.trans O);obtain rfl:=bM (n1.symm.trans hn);rw [(hnew m hm).ver,<- hin];exact⟨n3,n4⟩
  ·rw [(hnew m hm).ver,(hnew x hx).ver];exact tg _
  ·obtain⟨n',r',n1,n2,n3,n4⟩:=(hnew x hx).ex;have h2:=aY n1;rw [(hnew m hm).ver,<- hin,n2,tb (by omega)];exact n3
 refine aD (tC C b2.ok hvi g1 g2) fun y hy=>?_;have hgot:∀ k∈y.2.1,(got.any fun x=>dt k x)=false:=fun k O=>by
  cases ha:got.any fun x=>dt k x with
  | false=>rfl
  | true =>
   obtain⟨m,hm,e⟩:=(b2.got k ((b3.mem k).1 (wM.1 ha))).1;have h1:=hy.ran k O;have h2:=rB b2.ok (x:=m) hm;rw [e,h1] at h2;exact absurd (of_decide_eq_false h2.symm) (fun h=>h (hnew m hm).ver)
 have hranl:=hy.few;refine aH (db (r:=Fl.go ()) y.2.1.length (fun k O=>?_) ?_) ?_
 ·unfold gk;rw [dlt O,cond_true,bm O,ax];show ((jO got y.2.1[k]).bind _)=_;rw [uB (by unfold Rm; omega),ax,hgot _ (dR O),cond_false,cH (by omega)]
 ·unfold gk;rw [bZ]; rfl
 show Ok (gg u w q y) _;unfold gg;refine aH (db (r:=Fl.go ()) q.1.length (fun k O=>?_) ?_) ?_
 ·have hgk:=g1 _ (dR O);obtain⟨v,v1,v2⟩:=IA C hBn hgk;have hkp:=KD C hy.lv.ok hy.vi hgk (hy.there _ (dR O));unfold gj;rw [dlt O,cond_true,bm O,ax];show ((kq y.1 q.1[k]).bind _)=_;rw [hkp,ax];show ((i6 u.1 (ah.mk w.1.r w.1.i []) q.1[k]).bind _)=_;rw [v1,ax,v2,hy.lv.rev];rw [show H (wr (ah.mk w.1.r w.1.i []) recs).r=inB (ah.mk w.1.r w.1.i []) from hin.symm];simp only [beq_self_eq_true,dC,cond_false];rw [cH (by omega)]
 ·unfold gj;rw [bZ]; rfl
 show Ok (gf y) _;unfold gf;rw [hy.e0];simp only [show ((0:Int)==0)=true from rfl,cond_true];rw [A8];exact ai rfl
end
end Go.Proofs.YtcpplgcgcbihoaaGreatDoor
