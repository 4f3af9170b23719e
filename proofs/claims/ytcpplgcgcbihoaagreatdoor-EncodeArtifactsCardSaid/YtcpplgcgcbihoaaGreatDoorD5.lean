/- Texts of the proof, joined (5). -/
import Derived.Test.YtcpplgcgcbihoaaGreatDoorD2
import Derived.Test.YtcpplgcgcbihoaaGreatDoorD0
import Derived.Test.YtcpplgcgcbihoaaGreatDoorD4
import Derived.Test.YtcpplgcgcbihoaaGreatDoorD3
set_option linter.unusedVariables false
set_option linter.unusedSimpArgs false
set_option linter.unusedSectionVars false
namespace Go.Proofs.YtcpplgcgcbihoaaGreatDoor
open Go.RowKit
section
open Go.Lib hiding intOf
def ZZ (rs:List Bool):Nat->Nat
 | 0=>0
 | a+1=>if rs[a]? = some true then ZZ rs a else a+1
def Ih (rs:List Bool):Nat->Nat->Nat
 | 0,b=>b
 | f+1,b=>if rs[b]? = some true then Ih rs f (b+1) else b
theorem DM (rs:List Bool) (a:Nat):ZZ rs (a+1)=if rs[a]? = some true then ZZ rs a else a+1:=rfl
theorem EV (rs:List Bool) (f b:Nat):Ih rs (f+1) b=if rs[b]? = some true then Ih rs f (b+1) else b:=rfl
theorem CO (rs:List Bool):∀ a,ZZ rs a<=a
 | 0=>bZ _
 | a+1=>by
  have:=CO rs a;unfold ZZ;split <;> omega
theorem JC (rs:List Bool):∀ f b,b<=Ih rs f b/\Ih rs f b<=b+f
 | 0,b=>⟨bZ _,bZ _⟩
 | f+1,b=>by
  have:=JC rs f (b+1);unfold Ih;split <;> omega
def blk (rs:List Bool) (n:Nat):Nat×Nat:=if rs[n]? = some true then (ZZ rs n,Ih rs (rs.length-(n+1)) (n+1)) else (n,n+1)
theorem I3 {rs:List Bool} {n:Nat} (h:n<rs.length):(blk rs n).1<=n/\n<(blk rs n).2/\(blk rs n).2<=rs.length:=by
 have h1:=CO rs n;have h2:=JC rs (rs.length-(n+1)) (n+1);unfold blk;split <;> simp only [] <;> omega
theorem yL {rs:List Bool} {n:Nat} (h:rs[n]? = some false):blk rs n=(n,n+1):=by simp [blk,h]
def bI (l:List aS):List Bool:=l.map (·.o)
theorem qO {l:List aS} {n:Nat} (h:n<l.length):(bI l)[n]? = some l[n].o:=by simp [bI,h]
theorem CW {l:List aS} {n:Nat} (h:n<l.length) (hl:l.length<=1000000):n8 l n=some (((blk (bI l) n).1:Int),((blk (bI l) n).2:Int)):=by
 unfold n8;rw [show decide ((n:Int)<0)=false by simp,show decide (((l.length:Int):Int)<=(n:Int))=false by simp; omega];simp only [cond_false,ad];have hr:=qO h;cases hb:l[n].o with
 | false =>
  rw [hb] at hr;have h1:loop (fun s:Int=>fY l n s) (n:Int)=some (n:Int):=oF (by
   unfold fY; rw [bE h]; simp only [ad,hb,cond_false])
  have h2:loop (fun s:Int=>fX l n s) ((n:Int)+1)=some ((n:Int)+1):=oF (by
   unfold fX; rw [bE h]; simp only [ad,hb,cond_false])
  rw [h1];unfold lI lH;rw [ad,lx (by omega) (by omega),h2,yL hr];rfl
 | true =>
  rw [hb] at hr;have h1:loop (fun s:Int=>fY l n s) (n:Int)=some ((ZZ (bI l) n:Nat):Int):=by
   refine Aq (I:=fun k s=>∃ a:Nat,a+k=n/\s=(a:Int)/\ZZ (bI l) a=ZZ (bI l) n) _ n ?_ ?_ ⟨n,rfl,rfl,rfl⟩
   ·rintro k _ O ⟨a,ha,rfl,e⟩;unfold fY;obtain⟨c,rfl⟩:∃ c,a=c+1:=⟨a-1,by omega⟩;have hc:c<l.length:=by omega
    rw [bE h,show decide ((0:Int)<((c+1:Nat):Int))=true by simp <;> omega,lx (by omega) (by omega),show (((c+1:Nat):Int)-1)=(c:Int) by omega,bE hc];simp only [cond_true,ad,hb];have hr2:=qO hc;rw [DM,hr2] at e;cases hb2:l[c].o with
    | true=>rw [hb2,if_pos rfl] at e; exact .inl ⟨_,rfl,c,by omega,rfl,e⟩
    | false=>rw [hb2,if_neg (by simp)] at e; right; rw [<- e]; rfl
   ·rintro _ ⟨a,ha,rfl,e⟩;obtain rfl:a=0:=by omega
    unfold fY;rw [bE h,<- e];simp only [ad,hb,cond_true];rfl
  have h2:loop (fun s:Int=>fX l n s) ((n+1:Nat):Int)=some ((Ih (bI l) ((bI l).length-(n+1)) (n+1):Nat):Int):=by
   have hlen:(bI l).length=l.length:=by simp [bI]
   rw [hlen];refine Aq (I:=fun k s=>∃ a:Nat,a=n+1+k/\a<=l.length/\s=(a:Int)/\Ih (bI l) (l.length-a) a=Ih (bI l) (l.length-(n+1)) (n+1)) _ (l.length-(n+1)) ?_ ?_ ⟨n+1,rfl,h,rfl,rfl⟩
   ·rintro k _ O ⟨a,ha,hal,rfl,e⟩;unfold fX;have hc:a<l.length:=by omega
    rw [bE h,show decide ((a:Int)<(l.length:Int))=true by simp; omega,bE hc,lx (by omega) (by omega)];simp only [cond_true,ad,hb];have hr2:=qO hc;rw [show l.length-a=(l.length-(a+1))+1 by omega] at e;rw [EV,hr2] at e;cases hb2:l[a].o with
    | true=>rw [hb2,if_pos rfl] at e; exact .inl ⟨_,rfl,a+1,by omega,by omega,by simp,e⟩
    | false=>rw [hb2,if_neg (by simp)] at e; right; rw [<- e]; rfl
   ·rintro _ ⟨a,ha,hal,rfl,e⟩;obtain rfl:a=l.length:=by omega
    unfold fX;rw [uR] at e;rw [bE h,<- e];simp [Ih,hb]
  rw [h1];simp only [ad];unfold lI lH;rw [lx (by omega) (by omega),show ((n:Int)+1)=((n+1:Nat):Int) by omega,h2];simp [blk,hr]
structure Ep (ring:Bool) (k:Nat) (b:Int) (a:fh):Prop where
 low:0<=a.N
 cell:a.t1=true->a.N<4
 rule:a.t1=false->a.N<b
 pick:a.c1=true->ring=false/\0<k
 low2:0<=a.u1
 cell2:a.t1=true->a.u1<4
 rule2:a.t1=false->a.u1<b
 none:a.c1=false->a.u1=0
structure FY (b:Int) (r:aS):Prop where
 asks:r.g.length<=3
 each:∀ k a,r.g[k]? = some a->Ep r.o k b a
 ring:r.o=true->r.p=5/\0<=r.C/\r.C<=16
 plain:r.o=false->1<=r.p/\r.p<=4/\0<=r.C/\r.C<=5
def Em (rs:List Bool) (i:Nat):Nat:=if rs[i]? = some true then (blk rs i).2 else i
structure bD (l:List aS):Prop where
 low:1<=l.length
 high:l.length<=8
 each:∀ i r,l[i]? = some r->FY (Em (bI l) i) r
def FT (ring:Bool) (b k:Int) (ks:List fh):Fl (Int×List Int×Int×List fh) (List Int×Int×List fh)->Prop
 | .go s=>s.1=k-1/\cz s.2.1 s.2.2.1/\∃ a,Ep ring ks.length b a/\s.2.2.2=ks++[a]
 | .out _=>False
section
variable {ring:Bool} {b k:Int} {ks:List fh} {cell:Bool} {most n:Int} {l:List Int} {i:Int}
theorem Qv {pick:Bool} {e:Int} (ha:Ep ring ks.length b ⟨cell,pick,n,e⟩) (hd:cz l i) (O:1<=k/\k<=3) (hl:ks.length<=3):Ok (kY k ks cell n l i pick e) (FT ring b k ks):=by
 unfold kY p8;exact bO (dJ (by simp; omega)) (ah ⟨lx (by omega) (by omega),hd,_,ha,rfl⟩)
theorem Qw {g:Bool} (hg:g=true->ring=false/\0<ks.length) (hn:0<=n/\n<most) (hc:cell=true->most=4) (hr:cell=false->most=b) (hm:1<=most/\most<=8) (hd:cz l i) (O:1<=k/\k<=3) (hl:ks.length<=3) :
  Ok (jm k ks cell most n g l i) (FT ring b k ks):=by
 unfold jm;refine ax (fun e=>au (dZ hd (by omega) (by omega)) fun r hr2=>Qv ⟨hn.1,fun h=>?_,fun h=>?_,fun _=>hg e,hr2.1,fun h=>?_,fun h=>?_,fun h=>by cases h⟩ hr2.2.2 O hl)
  (fun e=>Qv ⟨hn.1,fun h=>?_,fun h=>?_,fun h=>(by cases h),by simp,fun h=>(by simp),fun h=>?_,fun h=>rfl⟩ hd O hl)
 all_goals first
  | (have:=hc h; simp only []; omega)
  | (have:=hr h; simp only []; omega)
theorem Qx (hn:0<=n/\n<most) (hc:cell=true->most=4) (hr:cell=false->most=b) (hm:1<=most/\most<=8) (hd:cz l i) (O:1<=k/\k<=3) (hl:ks.length<=3) :
  Ok (kZ ring k ks cell most l i n) (FT ring b k ks):=by
 unfold kZ;refine ax (fun e=>ax (fun e2=>au (dZ hd (by omega) (by omega)) fun r hr2=>Qw (fun _=>⟨by simpa using e,by simpa using e2⟩) hn hc hr hm hr2.2.2 O hl) (fun e2=>?_)) (fun e=>?_)
 all_goals exact Qw (fun h=>by cases h) hn hc hr hm hd O hl
theorem Qy (hc:cell=true->most=4) (hr:cell=false->most=b) (hm:1<=most/\most<=8) (hd:cz l i) (O:1<=k/\k<=3) (hl:ks.length<=3) :
  Ok (k7 ring k ks l i cell most) (FT ring b k ks):=by
 unfold k7;refine au (dZ hd (by omega) (by omega)) fun r h1=>?_;have h8:∀ {g:Bool} {l2:List Int} {i2:Int},cz l2 i2->Ok (k6 ring k ks cell most r g l2 i2) (FT ring b k ks):=fun {g l2 i2} h2=>by
  unfold k6;refine ax (fun _=>au (dZ h2 (by omega) (by omega)) fun q h3=>?_) (fun _=>Qx ⟨h1.1,h1.2.1⟩ hc hr hm h2 O hl);have:=h3.1; have:=h3.2.1;rw [show IntKind.i64.wrap (most-1)=most-1 from lx (by omega) (by omega),lx (by omega) (by omega)];exact Qx ⟨by omega,by omega⟩ hc hr hm h3.2.2 O hl
 refine ax (fun _=>au (dZ h1.2.2 (by omega) (by omega)) fun q h3=>h8 h3.2.2) (fun _=>h8 h1.2.2)
theorem Qz (hb:0<=b/\b<=8) (hd:cz l i) (O:1<=k/\k<=3) (hl:ks.length<=3):Ok (jJ b ring k l i ks) (FT ring b k ks):=by
 unfold jJ;refine ax (fun _=>au (dZ hd (by omega) (by omega)) fun r h1=>?_) (fun e=>by simp at e; omega);have h10:∀ {c:Bool},(c=false->1<=b)->Ok (jG b ring k ks r.2.L r.2.i1 c) (FT ring b k ks):=fun {c} h=>by
  unfold jG;exact ax (fun e=>by subst e; exact Qy (fun _=>rfl) (fun h=>by cases h) ⟨by omega,by omega⟩ h1.2.2 O hl) (fun e=>by subst e; exact Qy (fun h=>by cases h) (fun _=>rfl) ⟨h rfl,hb.2⟩ h1.2.2 O hl)
 exact ax (fun _=>h10 fun h=>by cases h) (fun _=>h10 fun h=>by simp at h; omega)
end
def NH (l:List aS) (n:Nat) (ring:Bool) (b:Int):Fl (List aS×Int×List Int×Int) (List aS×List Int×Int)->Prop
 | .go s=>(∃ r,FY b r/\r.o=ring/\s.1=l.set n r)/\s.2.1=n+1/\cz s.2.2.1 s.2.2.2
 | .out _=>False
theorem Nr {l:List aS} {n:Nat} (h:n<l.length) (hl:l.length<=8) {b:Int} (hb:0<=b/\b<=8) {ring:Bool} {d:List Int} {i:Int} (hd:cz d i) {f c:Int}
  (h5:ring=true->f=5/\0<=c/\c<=16) (h6:ring=false->1<=f/\f<=4/\0<=c/\c<=5):Ok (jH l n b ring d i f c) (NH l n ring b):=by
 unfold jH;refine au (dZ hd (by omega) (by omega)) fun r h1=>?_;refine bP (fun k s=>s.1=r.1-k/\s.2.2.2.length=k/\cz s.2.1 s.2.2.1/\∀ j a,s.2.2.2[j]? = some a->Ep ring j b a) (fun q=>q.2.2.length<=3/\cz q.1 q.2.1/\∀ j a,q.2.2[j]? = some a->Ep ring j b a) r.1.toNat
  ⟨by simp,rfl,h1.2.2,fun j a e=>by simp at e⟩ (fun k s O hI=>?_) (fun q hq=>?_)
 ·obtain⟨e1,e2,e3,e4⟩:=hI;have:=h1.1; have:=h1.2.1;by_cases hz:(0:Int)<s.1
  ·refine (Qz hb e3 ⟨by omega,by omega⟩ (by omega)).mono fun y hy=>?_;cases y with
   | out q=>exact hy.elim
   | go s2 =>
    obtain⟨g1,g2,a,g3,g4⟩:=hy;refine⟨by omega,by omega,by rw [g4]; simp; omega,g2,fun j x hx=>?_⟩;rw [g4] at hx;by_cases hj:j<s.2.2.2.length
    ·rw [pp hj] at hx; exact e4 j x hx
    ·rw [sL (by omega)] at hx;obtain rfl:j=s.2.2.2.length:=by
      rcases iz s.2.2.2.length j with h | h
      ·rw [HQ (by simp; omega)] at hx; cases hx
      ·omega
     simp at hx; subst hx; exact g3
  ·unfold jJ;rw [show decide ((0:Int)<s.1)=false by simpa using hz];exact ah ⟨by simp only []; omega,e3,e4⟩
 ·unfold m5 pZ;refine xJ (by omega) (by omega) fun v _ _=>ah ⟨⟨⟨ring,q.2.2,f,c⟩,⟨hq.1,hq.2.2,h5,h6⟩,rfl,by simp⟩,lx (by omega) (by omega),hq.2.1⟩
theorem QA {l:List aS} {n:Nat} (h:n<l.length) (hl:l.length<=8) {d:List Int} {i:Int} (hd:cz d i) (l0:List aS) (h0:l0.length=l.length):Ok (jK l0 l n d i) (NH l n l[n].o (Em (bI l) n)):=by
 unfold jK;rw [show decide ((n:Int)<(l0.length:Int))=true by simp; omega,CW h (by omega)];simp only [cond_true,ad];rw [bE h];simp only [ad];have hb:=I3 (rs:=bI l) (n:=n) (by simpa [bI] using h);have hlen:(bI l).length=l.length:=by simp [bI]
 have h14:∀ {b:Int},0<=b/\b<=8->Ok (jI l n d i b) (NH l n l[n].o b):=fun {b} hb=>by
  unfold jI;rw [bE h,ad];refine au (dZ hd (by omega) (by omega)) fun r h1=>au (dZ h1.2.2 (by omega) (by omega)) fun q h2=>?_;have:=h1.1; have:=h1.2.1; have:=h2.1; have:=h2.2.1;rw [lx (by omega) (by omega)];unfold oH;refine ax (fun e=>au (dZ h2.2.2 (by omega) (by omega)) fun p h3=>xJ h3.1 (by simpa using h3.2.1) fun v _ hv=>?_) (fun e=>?_)
  ·refine Nr h hl hb h3.2.2 (fun _=>⟨rfl,?_⟩) (fun e2=>by rw [e] at e2; cases e2);simp only [dC,iJ,or_false] at hv;omega
  ·exact Nr h hl hb h2.2.2 (fun e2=>by rw [e] at e2; cases e2) (fun _=>⟨by omega,by omega,by omega,by omega⟩)
 have hr:=qO h;unfold Em;rw [hr];cases e:l[n].o with
 | true=>rw [e] at h14; simp only [eT,cond_false,if_true]; exact h14 ⟨by omega,by omega⟩
 | false=>rw [e] at h14 hr; rw [yL hr]; simp only [jj,cond_true]; exact h14 ⟨by omega,by omega⟩
theorem IC {l:List aS} {n:Nat} {r:aS} (h:n<l.length) (e:r.o=l[n].o):bI (l.set n r)=bI l:=by
 unfold bI;rw [List.map_set,e];apply List.ext_getElem (by simp);intro j h1 h2;by_cases hj:n=j
 ·subst hj; simp
 ·simp [hj]
theorem KB {d:List Int} {i:Int} (hd:cz d i):Ok (so ⟨d,i⟩) fun y=>bD y.1/\cz y.2.L y.2.i1:=by
 unfold so;refine au (dZ hd (by omega) (by omega)) fun r h1=>?_;have:=h1.1; have:=h1.2.1;rw [lx (by omega) (by omega)];refine bP (fun k s=>s.1.length=k/\s.2.1=2+r.1-k/\cz s.2.2.1 s.2.2.2) (fun q=>2<=q.1.length/\q.1.length<=8/\cz q.2.1 q.2.2) (2+r.1).toNat ⟨rfl,by simp,h1.2.2⟩ (fun k s O hI=>?_) (fun q hq=>?_)
 ·obtain⟨e1,e2,e3⟩:=hI;unfold oI;refine ax (fun e=>au (dZ e3 (by omega) (by omega)) fun q h2=>bO (dJ (by simp; omega)) (ah ?_)) (fun e=>ah ?_)
  ·have e:(0:Int)<s.2.1:=by simpa using e
   exact⟨by omega,by simp [e1],by dsimp only; rw [lx (by omega) (by omega)]; omega,h2.2.2⟩
  ·have e:¬ (0:Int)<s.2.1:=by simpa using e
   exact⟨by dsimp only; omega,by dsimp only; omega,e3⟩
 ·obtain⟨q1,q2,q3⟩:=hq;unfold lC;refine bP (fun k s=>s.1.length=q.1.length/\s.2.1=k/\cz s.2.2.1 s.2.2.2/\bI s.1=bI q.1/\∀ j r,j<k->s.1[j]? = some r->FY (Em (bI q.1) j) r) (fun p=>bD p.1/\cz p.2.1 p.2.2) q.1.length ⟨rfl,rfl,q3,rfl,fun j r h=>by omega⟩ (fun k s O hI=>?_) (fun p hp=>?_)
  ·obtain⟨e1,e2,e3,e4,e5⟩:=hI;by_cases hz:k<q.1.length
   ·have hz1:k<s.1.length:=by omega
    rw [e2];refine (QA hz1 (by omega) e3 q.1 e1.symm).mono fun y hy=>?_;cases y with
    | out q=>exact hy.elim
    | go s2 =>
     obtain⟨⟨x,g1,g2,g3⟩,g4,g5⟩:=hy;refine⟨hz,by rw [g3]; simpa using e1,by rw [g4]; simp,g5,by rw [g3,IC hz1 g2]; exact e4,fun j r hj hr=>?_⟩;rw [g3] at hr;by_cases hjk:k=j
     ·subst hjk;rw [Df hz1] at hr;injection hr with hr; subst hr;rw [e4] at g1; exact g1
     ·rw [List.getElem?_set_ne hjk] at hr;exact e5 j r (by omega) hr
   ·unfold jK;rw [show decide ((s.2.1:Int)<(q.1.length:Int))=false by simp; omega];refine ah ⟨⟨by simp only []; omega,by simp only []; omega,fun j r hr=>?_⟩,e3⟩;rw [e4];exact e5 j r (by have:=(cm.1 hr).1; dsimp only at this; omega) hr
  ·unfold m4;exact ah hp
def Gk (rs:List Bool) (i:Nat) (cell:Bool) (n:Int):Bool:=decide (0<=n)&&cond cell (decide (n<=15)) (decide (n<(Em rs i:Int)))
theorem Bn {l:List aS} {i:Nat} (h:i<l.length) (hl:l.length<=1000000) (x:fh) (n:Int):rR l (i:Int) x n=some (Gk (bI l) i x.t1 n):=by
 unfold rR Gk;cases x.t1 with
 | true =>
  rw [cond_true,cond_true];cases decide (0<=n) <;> rfl
 | false =>
  rw [cond_false,cond_false,CW h hl,ad];dsimp only;have hr:=qO h;rw [bE h,ad];unfold Em;rw [hr];cases hg:l[i].o with
  | true =>
   rw [if_pos rfl];unfold mr mq;cases decide (0<=n) <;> rfl
  | false =>
   rw [hg] at hr;rw [if_neg (by simp),yL hr];unfold mr mq;cases decide (0<=n) <;> rfl
def NL (rs:List Bool) (i:Nat) (ring first:Bool) (a:fh):Bool:=Gk rs i a.t1 a.N&&cond a.c1 (!ring && !first&&Gk rs i a.t1 a.u1) ((a.u1:Int)==0)
theorem Ba {ρ:Type} {B:Int->Option (Fl Int ρ)} (n:Nat) (p:Nat->Bool) {y r:ρ} (hgo:∀ k,k<n->p k=false->B (k:Int)=some (.go ((k+1:Nat):Int))) (hy:∀ k,k<n->p k=true->B (k:Int)=some (.out y)) (hn:B (n:Int)=some (.out r)):loop B 0=some (if (List.range n).any p then y else r):=by
 have hx:∀ (k x:Nat),(List.range n)[k]? = some x->x=k/\k<n:=fun k x h=>by
  have O:=bg h;simp only [List.length_range] at O;rw [List.getElem?_range O] at h;exact⟨(cJ h).symm,O⟩
 refine tP (xs:=List.range n) p (fun k=>(k:Int)) rfl (fun k x h hp=>?_) (fun k x h hp=>?_) (by simpa using hn)
 ·obtain⟨rfl,O⟩:=hx k x h;exact hgo _ O hp
 ·obtain⟨rfl,O⟩:=hx k x h;exact hy _ O hp
def H3 (rs:List Bool) (i:Nat) (r:aS) (k:Nat):Bool:=match r.g[k]? with
 | some a=>!NL rs i r.o (((k:Nat):Int)==0) a
 | none=>false
def Cz (rs:List Bool) (i:Nat) (r:aS):Bool:=!((List.range r.g.length).any (H3 rs i r))
def Hs (rs:List Bool) (i:Nat) (r:aS) (low high most:Int):Bool:=!decide ((6:Int)<(r.g.length:Int)) && !decide (r.p<low) && !decide (high<r.p) && !decide (r.C<0) && !decide (most<r.C)&&Cz rs i r
def Hr (rs:List Bool) (i:Nat) (r:aS):Bool:=cond r.o (Hs rs i r 5 5 65535) (Hs rs i r 1 4 999)
def Q4 (l:List aS):Prop:=l.length<=1000/\∀ r∈l,r.g.length<=1000
theorem Kn {l:List aS} {i:Nat} (h:i<l.length) (hl:Q4 l):loop (fun s:Int=>fZ l (i:Int) l[i] s) 0=some (cond (Cz (bI l) i l[i]) (Fl.go ()) (Fl.out false)):=by
 have U:=hl.2 _ (gX h);have hB:=hl.1;have hstep:∀ k,(O:k<l[i].g.length)->fZ l (i:Int) l[i] (k:Int)=some (cond (H3 (bI l) i l[i] k) (.out (.out false)) (.go ((k+1:Nat):Int))):=fun k O=>by
  unfold H3;rw [cQ O];dsimp only;unfold fZ NL eZ;rw [dlt O,cond_true,bE O,ad,Bn h (by omega),Bn h (by omega),cL (by omega)];simp only [ad,bne];generalize (((k:Nat):Int)==0)=f;generalize ((l[i].g[k].u1:Int)==0)=z;generalize Gk (bI l) i l[i].g[k].t1 l[i].g[k].N=m1;generalize Gk (bI l) i l[i].g[k].t1 l[i].g[k].u1=m2;generalize l[i].g[k].c1=pk;generalize l[i].o=rg;cases pk <;> cases rg <;> cases f <;> cases m1 <;> cases m2 <;> cases z <;> rfl
 have e:=Ba (B:=fun s:Int=>fZ l (i:Int) l[i] s) l[i].g.length (H3 (bI l) i l[i]) (y:=Fl.out false) (r:=Fl.go ()) (fun k O hp=>by rw [hstep k O,hp]; rfl) (fun k O hp=>by rw [hstep k O,hp]; rfl) (by unfold fZ; rw [bS]; rfl);rw [e];unfold Cz;cases (List.range l[i].g.length).any (H3 (bI l) i l[i]) <;> rfl
def H4 (l:List aS) (k:Nat):Bool:=match l[k]? with
 | some r=>!Hr (bI l) k r
 | none=>false
def Ec (l:List aS):Bool:=decide ((l.length:Int)<=24) && !((List.range l.length).any (H4 l))
theorem IB {l:List aS} (hl:Q4 l):qx l=some (Ec l):=by
 have hB:=hl.1;unfold qx Ec;have hstep:∀ k,(O:k<l.length)->im l (k:Int)=some (cond (H4 l k) (.out (.out false)) (.go ((k+1:Nat):Int))):=fun k O=>by
  have hj:il (k:Int) l[k]=some (cond ((cond l[k].o (!decide (l[k].p<5) && !decide (5<l[k].p) && !decide (l[k].C<0) && !decide (65535<l[k].C)) (!decide (l[k].p<1) && !decide (4<l[k].p) && !decide (l[k].C<0) && !decide (999<l[k].C)))) (.go ((k+1:Nat):Int)) (.out (.out false))):=by
   unfold il dS oO;rw [cL (by omega)];cases hrg:l[k].o
   ·cases decide (l[k].p<1) <;> cases decide (4<l[k].p) <;> cases decide (l[k].C<0) <;> cases decide (999<l[k].C) <;> rfl
   ·by_cases h5:l[k].p=5
    ·rw [show ((l[k].p:Int) != 5)=false by simp [h5],decide_eq_false (show ¬ l[k].p<5 by omega),decide_eq_false (show ¬ 5<l[k].p by omega)];cases decide (l[k].C<0) <;> cases decide (65535<l[k].C) <;> rfl
    ·rw [show ((l[k].p:Int) != 5)=true by simp [h5]];rcases (show l[k].p<5∨5<l[k].p by omega) with h | h
     ·rw [decide_eq_true h]; rfl
     ·rw [decide_eq_true h]; simp
  unfold H4;rw [cQ O];dsimp only;unfold im Hr Hs;rw [dlt O,cond_true,bE O,ad,Kn O hl,ad];have hel:∀ z:Bool,(cond z (Fl.go ()) (Fl.out false):Fl Unit Bool).el (fun s=>il (k:Int) l[k]) (fun y=>some (.out (.out y)))=cond z (il (k:Int) l[k]) (some (.out (.out false))):=fun z=>by cases z <;> rfl
  rw [hel,hj];generalize Cz (bI l) k l[k]=z;generalize decide ((6:Int)<(l[k].g.length:Int))=d6;cases l[k].o
  ·simp only [cond_false];generalize decide (l[k].p<1)=d1;generalize decide (4<l[k].p)=d2;generalize decide (l[k].C<0)=d3;generalize decide (999<l[k].C)=d4;cases z <;> cases d6 <;> cases d1 <;> cases d2 <;> cases d3 <;> cases d4 <;> rfl
  ·simp only [cond_true];generalize decide (l[k].p<5)=d1;generalize decide (5<l[k].p)=d2;generalize decide (l[k].C<0)=d3;generalize decide (65535<l[k].C)=d4;cases z <;> cases d6 <;> cases d1 <;> cases d2 <;> cases d3 <;> cases d4 <;> rfl
 rw [Ba (B:=fun s:Int=>im l s) l.length (H4 l) (y:=Fl.out false) (r:=Fl.go ()) (fun k O hp=>by rw [hstep k O,hp]; rfl) (fun k O hp=>by rw [hstep k O,hp]; rfl) (by unfold im; rw [bS]; rfl)];unfold oN;cases (List.range l.length).any (H4 l) <;> simp [Fl.el]
theorem Gj {l:List aS} (h:bD l):Ec l=true:=by
 unfold Ec;have h8:=h.high;rw [decide_eq_true (by omega),yE,uZ,FF];intro i hi;have hi:=Dg.1 hi;unfold H4;have hg:=cQ hi;rw [hg];dsimp only;have C:=h.each i l[i] hg;have ha:Cz (bI l) i l[i]=true:=by
  unfold Cz;rw [uZ,FF];intro k O;have O:=Dg.1 O;unfold H3;have hka:=cQ O;rw [hka];dsimp only;have U:=C.each k _ hka;generalize l[i].g[k]=a at U;unfold NL Gk;have hn:=U.low;have he:=U.low2;rw [decide_eq_true hn,decide_eq_true he,yE,yE];have c1:cond a.t1 (decide (a.N<=15)) (decide (a.N<(Em (bI l) i:Int)))=true:=by
   cases hc:a.t1
   ·exact decide_eq_true (U.rule hc)
   ·have:=U.cell hc;exact decide_eq_true (by omega)
  have c2:cond a.t1 (decide (a.u1<=15)) (decide (a.u1<(Em (bI l) i:Int)))=true:=by
   cases hc:a.t1
   ·exact decide_eq_true (U.rule2 hc)
   ·have:=U.cell2 hc;exact decide_eq_true (by omega)
  rw [c1,c2,yE];cases hp:a.c1
  ·rw [U.none hp]; simp
  ·obtain⟨p1,p2⟩:=U.pick hp;rw [p1,show (((k:Nat):Int)==0)=false by simp; omega]; simp
 have hb:Hr (bI l) i l[i]=true:=by
  have hl:=C.asks;unfold Hr Hs;rw [ha,decide_eq_false (show ¬ (6:Int)<(l[i].g.length:Int) by omega)];cases hr:l[i].o
  ·obtain⟨q1,q2,q3,q4⟩:=C.plain hr;rw [cond_false,decide_eq_false (show ¬ l[i].p<1 by omega),decide_eq_false (show ¬ 4<l[i].p by omega),decide_eq_false (show ¬ l[i].C<0 by omega),decide_eq_false (show ¬ 999<l[i].C by omega)]; rfl
  ·obtain⟨q1,q2,q3⟩:=C.ring hr;rw [cond_true,decide_eq_false (show ¬ l[i].p<5 by omega),decide_eq_false (show ¬ 5<l[i].p by omega),decide_eq_false (show ¬ l[i].C<0 by omega),decide_eq_false (show ¬ 65535<l[i].C by omega)]; rfl
 rw [hb]; decide
theorem bD.bnd {l:List aS} (h:bD l):Q4 l:=⟨by have:=h.high; omega,fun r hr=>by
 obtain⟨i,hi⟩:=ot.1 hr;have:=(h.each i r hi).asks; omega⟩
theorem Gl (n:Int) {m:Int} (hm:0<m) (hm2:m<=1000000000):Ok (oG n m) fun r=>0<=r/\r<m:=by
 obtain⟨k,rfl⟩:∃ k:Nat,m=k:=⟨m.toNat,by omega⟩;obtain⟨r,hr,e⟩:=JZ n (m:=k) (by omega) (by omega);exact⟨_,e,by omega,by omega⟩
end
section
open Go.Lib hiding intOf
def ia (s:ByteArray):Int:=if r6 s.toList<0 then 0 else if 65535<r6 s.toList then 0 else r6 s.toList
theorem Ft (s:ByteArray):n9 s=some (ia s):=by
 unfold n9 ia;rw [Jr,ad];by_cases h1:r6 s.toList<0
 ·simp [h1]
 ·by_cases h2:65535<r6 s.toList
  ·simp [h1,h2]
  ·simp [h1,h2]
theorem jt (s:ByteArray):0<=ia s/\ia s<=65535:=by
 unfold ia;split
 ·omega
 ·split <;> omega
theorem yz {n:Nat} (h:n<65536):ia (db n)=n:=by
 unfold ia;rw [sc,oD,AS (by omega),if_neg (by omega),if_neg (by omega)]
theorem wv:∀ {l:List Int},(∀ x∈l,0<=x/\x<=65535)->0<=l.sum/\l.sum<=65535*l.length
 | [],_=>by simp
 | a::l,h=>by
  have h1:=wv (l:=l) fun x hx=>h x (wY _ hx);have h2:=h a vX;simp only [List.sum_cons,j8];omega
def vm (r:aS) (ls:List ByteArray):Int :=
 let s:=r.C+(ls.map ia).sum
 if r.p=1 then s.tmod 1000 else if r.p=2 then (s.tdiv 2).tmod 1000 else if r.p=3 then (ls.map ia).foldl max r.C else if r.p=4 then s.tmod 2 else (ls.map ia).foldl (fun a b=>qV .or .i64 a b) r.C
theorem Mo {α:Type} {l:List α} {k:Nat} (h:k<l.length):l.take (k+1)=l.take k++[l[k]]:=by rw [List.take_add_one,cQ h]; rfl
theorem Jz {r:aS} {ls:List ByteArray} (hc:0<=r.C/\r.C<=65535) (hl:ls.length<=1000):qz r ls=some (vm r ls):=by
 have hb:∀ x∈ls.map ia,0<=x/\x<=65535:=fun x hx=>by
  obtain⟨s,_,rfl⟩:=jw.1 hx;exact jt s
 have h1:loop (fun s:Int×Int×Int×Int=>jP ls s.1 s.2.1 s.2.2.1 s.2.2.2) (r.C,r.C,r.C,0)=some (r.C+(ls.map ia).sum,(ls.map ia).foldl max r.C,(ls.map ia).foldl (fun a b=>qV .or .i64 a b) r.C):=by
  refine Aq (I:=fun k s=>s=(r.C+((ls.take k).map ia).sum,((ls.take k).map ia).foldl max r.C,((ls.take k).map ia).foldl (fun a b=>qV .or .i64 a b) r.C,(k:Int))) _ ls.length ?_ ?_ (by simp)
  ·rintro k _ O rfl;left;refine⟨_,?_,rfl⟩;unfold jP;have hs:=wv (l:=(ls.take k).map ia) fun x hx=>by
    obtain⟨s,_,rfl⟩:=jw.1 hx;exact jt s
   have hlen:((ls.take k).map ia).length<=1000:=by rw [pq,fe]; omega
   have hx:=jt ls[k];dsimp only;rw [dlt O,cond_true,bE O,ad,Ft,ad,lx (by omega) (by omega),lx (by omega) (by omega),Mo O];simp only [BS,wX,FM,List.sum_append,List.foldl_append,FH,List.foldl_nil,List.sum_cons,List.sum_nil,Int.add_zero,Int.natCast_add,Int.natCast_one,Int.add_assoc]
  ·rintro _ rfl;unfold jP;rw [bS];simp
 have hs:=wv hb;rw [pq] at hs;unfold qz lJ vm;rw [h1,ad];simp only [];by_cases f1:r.p=1
 ·simp [f1]
 ·by_cases f2:r.p=2
  ·have ht:0<=(r.C+(ls.map ia).sum).tdiv 2/\(r.C+(ls.map ia).sum).tdiv 2<=r.C+(ls.map ia).sum:=by
    rw [Int.tdiv_eq_ediv_of_nonneg (by omega)]; omega
   simp only [f2];rw [lx (by omega) (by omega)];simp
  ·by_cases f3:r.p=3
   ·simp [f3]
   ·by_cases f4:r.p=4
    ·simp [f4]
    ·have hb:∀ n:Int,r.p≠n->(r.p==n)=false:=fun n h=>by simpa using h
     rw [hb 1 f1,hb 2 f2,hb 3 f3,hb 4 f4];simp [f1,f2,f3,f4]
theorem Qn {a b:Nat} (ha:a<65536) (hb:b<65536):qV .or .i64 (a:Int) (b:Int)=((a ||| b:Nat):Int)/\a ||| b<65536:=by
 have h:=Nat.or_lt_two_pow (n:=16) ha hb;refine⟨?_,h⟩;unfold qV;simp only [show IntKind.i64.bits=64 from rfl];rw [BitVec.toNat_or,BitVec.toNat_ofInt,BitVec.toNat_ofInt,show ((a:Int) % ((2 ^ IntKind.i64.bits:Nat):Int)).toNat=a by rw [show IntKind.i64.bits=64 from rfl]; omega,show ((b:Int) % ((2 ^ IntKind.i64.bits:Nat):Int)).toNat=b by rw [show IntKind.i64.bits=64 from rfl]; omega];exact lx (by omega) (by omega)
theorem DE:∀ (l:List Nat) (a:Nat),(∀ x∈l,x<=65535)->a<65536->(l.map fun x:Nat=>(x:Int)).foldl (fun a b=>qV .or .i64 a b) (a:Int)=((l.foldl (· ||| ·) a:Nat):Int)/\l.foldl (· ||| ·) a<65536
 | [],a,_,ha=>⟨rfl,ha⟩
 | x::l,a,h,ha=>by
  have hx:=h x vX;obtain⟨h1,h2⟩:=Qn ha (show x<65536 by omega);simp only [wX,FH,h1];exact DE l _ (fun y hy=>h y (wY _ hy)) h2
theorem xf {l:List aS} {n:Nat} {r:aS} (C:bD l) (h:l[n]? = some r) {ls:List ByteArray} (hl:ls.length<=3):∃ m:Nat,vm r ls=m/\m<65536:=by
 have hb:∀ x∈ls.map ia,0<=x/\x<=65535:=fun x hx=>by
  obtain⟨s,_,rfl⟩:=jw.1 hx;exact jt s
 have hs:=wv hb;rw [pq] at hs;have hr:=C.each n r h;unfold vm;dsimp only;cases hg:r.o with
 | false =>
  obtain⟨h1,h2,h3,h4⟩:=hr.plain hg;have key:∀ z:Int,0<=z->z<65536->∃ m:Nat,z=m/\m<65536:=fun z h1 h2=>⟨z.toNat,by omega,by omega⟩;by_cases f1:r.p=1
  ·rw [if_pos f1];refine key _ (C8 _ (by omega)) ?_;have:=C7 (r.C+(ls.map ia).sum) (b:=1000) (by omega);omega
  ·rw [if_neg f1];by_cases f2:r.p=2
   ·rw [if_pos f2];have ht:0<=(r.C+(ls.map ia).sum).tdiv 2:=by rw [Int.tdiv_eq_ediv_of_nonneg (by omega)]; omega
    refine key _ (C8 _ ht) ?_;have:=C7 ((r.C+(ls.map ia).sum).tdiv 2) (b:=1000) (by omega);omega
   ·rw [if_neg f2];by_cases f3:r.p=3
    ·rw [if_pos f3];have hm:∀ (xs:List Int) (c:Int),(∀ x∈xs,0<=x/\x<=65535)->0<=c->c<=65535->0<=xs.foldl max c/\xs.foldl max c<=65535:=by
      intro xs
      induction xs with
      | nil=>intro c _ h1 h2; exact⟨h1,h2⟩
      | cons x xs ih =>
       intro c hx h1 h2;have:=hx x vX;exact ih _ (fun y hy=>hx y (wY _ hy)) (by omega) (by omega)
     have:=hm (ls.map ia) r.C hb (by omega) (by omega);exact key _ this.1 (by omega)
    ·rw [if_neg f3,if_pos (by omega)];refine key _ (C8 _ (by omega)) ?_;have:=C7 (r.C+(ls.map ia).sum) (b:=2) (by omega);omega
 | true =>
  obtain⟨h1,h2,h3⟩:=hr.ring hg;rw [if_neg (by omega),if_neg (by omega),if_neg (by omega),if_neg (by omega)];obtain⟨c,hc⟩:∃ c:Nat,r.C=c:=⟨r.C.toNat,by omega⟩;have e:ls.map ia=(ls.map fun s=>(ia s).toNat).map fun x:Nat=>(x:Int):=by
   rw [zU];refine HT fun s _=>?_;have:=jt s;simp only [Function.comp];omega
  rw [e,hc];have:=DE (ls.map fun s=>(ia s).toNat) c (fun x hx=>by
   obtain⟨s,_,rfl⟩:=jw.1 hx;have:=jt s;omega) (by omega)
  exact⟨_,this.1,this.2⟩
end
section
open Go.Lib hiding intOf
variable {l:List aA} {r:aA}
def IU (l:List ae):Prop:=l.Pairwise fun a b=>dI a b<0
structure zz (l m:List ae):Prop where
 asc:IU m
 mem:∀ x,x∈m↔x∈l
 len:m.length<=l.length
def IX (l:List aA):Prop:=Rm l.length/\∀ r∈l,Rm r.v.length
def GD (l:List aA):Prop:=l.Pairwise fun a b=>dI a.d b.d<0
def qX (l:List aA) (r:aA):List aA:=(l.filter fun x=>decide (dI x.d r.d<0))++r::(l.filter fun x=>decide (0<dI x.d r.d))
theorem yT (a:ae):iL a a=true:=mX.2 rfl
theorem CK (a b:ae):iL a b=iL b a:=by
 by_cases h:a=b
 ·rw [h]
 ·rw [Ao.2 h,Ao.2 fun e=>h e.symm]
def R1:aA:=⟨⟨0,⟨#[]⟩⟩,⟨#[]⟩,[],0,0,0,false⟩
def cO (l:List aA) (k:ae):aA×Bool:=match l.find? (fun r=>iL r.d k) with | some r=>(r,true) | none=>(R1,false)
theorem G5 {α:Type} {p:α->Bool} {l:List α} {k:Nat} {x:α} (h1:l[k]? = some x) (h2:p x=true) (h3:∀ j z,j<k->l[j]? = some z->p z=false):l.find? p=some x:=by
 obtain⟨h,e⟩:=cm.1 h1;have:l=l.take k++x::l.drop (k+1):=by rw [<- e]; simp
 rw [this,List.find?_append,List.find?_cons_of_pos h2];have:(l.take k).find? p=none:=by
  rw [FG];intro z hz;obtain⟨j,hj⟩:=ot.1 hz;rw [s6] at hj;split at hj
  ·rename_i hjk;rw [h3 j z hjk hj]; simp
  ·cases hj
 rw [this]; rfl
theorem oq (a b:ae):jN a b=some (dI a b):=by
 unfold jN dI rL;by_cases h1:a.k<b.k
 ·simp [h1]
 ·by_cases h2:b.k<a.k <;> simp [h1,h2]
theorem rX (h:Rm r.v.length):gV r=some r:=by
 unfold gV Rm at *;rw [show bW (([]:List ae).length+r.v.length)=true from dJ (by simp; omega)]; rfl
theorem CY (h:GD l) (hl:Rm l.length) (hr:Rm r.v.length):mw l r=some (qX l r):=by
 unfold Rm at hl;have hpl:∀ i,((l.take i).filter fun x=>decide (dI x.d r.d<0)).length+((l.take i).filter fun x=>decide (0<dI x.d r.d)).length<=l.length:=fun i=>by
  have h1:∀ m:List aA,(m.filter fun x=>decide (dI x.d r.d<0)).length+(m.filter fun x=>decide (0<dI x.d r.d)).length<=m.length:=by
   intro m
   induction m with
   | nil=>simp
   | cons y m ih =>
    by_cases a:dI y.d r.d<0
    ·rw [Db (by simpa using a),wW (by simp; omega)]; simp only [j8]; omega
    ·by_cases b:0<dI y.d r.d
     ·rw [wW (by simpa using a),Db (by simpa using b)]; simp only [j8]; omega
     ·rw [wW (by simpa using a),wW (by simpa using b)]; simp only [j8]; omega
  have:=h1 (l.take i);rw [fe] at this; omega
 have key:Ok (mw l r) fun y=>y=qX l r:=by
  unfold mw;refine bP (fun n t=>n<=l.length/\t.2.2=(n:Int)/\((t.1=l.take n/\t.2.1=false/\∀ x∈l.take n,dI x.d r.d<0)∨(t.1=qX (l.take n) r/\t.2.1=true/\∃ x∈l.take n,¬ dI x.d r.d<0)))
   (fun t=>(t.1=l/\t.2=false/\∀ x∈l,dI x.d r.d<0)∨(t.1=qX l r/\t.2=true)) l.length ⟨bT _,rfl,.inl ⟨rfl,rfl,by simp⟩⟩ (fun n t hn hI=>?_) (fun t ht=>?_)
  ·obtain⟨out,put,i⟩:=t;obtain⟨_,h1,h2⟩:=hI;dsimp only at h1 h2;subst h1;unfold rE;dsimp only;by_cases hi:n<l.length
   ·have hx:l[n]? = some l[n]:=cQ hi;obtain⟨x,hxe⟩:∃ x,x=l[n]:=⟨_,rfl⟩;rw [<- hxe] at hx;rw [dlt hi,cond_true,bj,hx,ad,oq,ad];have tk:=bM hx;have hle:=hpl n;rcases h2 with⟨rfl,rfl,h3⟩|⟨rfl,rfl,y,hy,h3⟩
    ·have e0:((l.take n).filter fun x=>decide (dI x.d r.d<0))=l.take n:=Dc.2 fun x hx=>by simpa using h3 x hx
     have e1:((l.take n).filter fun x=>decide (0<dI x.d r.d))=[]:=HO.2 fun x hx=>by have:=h3 x hx; simp; omega
     rcases sd x.d r.d with hc | hc | hc
     ·rw [hc];unfold ja i8 i7;rw [show bW ((l.take n).length+[x].length)=true from dJ (by simp; omega),cL (by omega)];refine ah ⟨hi,hi,rfl,.inl ⟨tk.symm,rfl,fun z hz=>?_⟩⟩;rw [tk] at hz;rcases de.1 hz with hz | hz
      ·exact h3 z hz
      ·simp only [dC,iJ,or_false] at hz; subst hz; omega
     ·rw [hc];unfold ja i8 i7;rw [rX hr,cL (by omega)];simp only [ad];rw [show bW ((l.take n).length+[r].length)=true from dJ (by simp; omega)];refine ah ⟨hi,hi,rfl,.inr ⟨?_,rfl,x,by rw [tk]; simp,by omega⟩⟩;unfold qX;rw [tk,s4,s4,e0,e1];simp [hc]
     ·rw [hc];unfold ja i8 i7;rw [rX hr,cL (by omega)];simp only [ad];rw [show bW ((l.take n).length+[r].length)=true from dJ (by simp; omega),show bW ((l.take n++[r]).length+[x].length)=true from dJ (by simp; omega)];refine ah ⟨hi,hi,rfl,.inr ⟨?_,rfl,x,by rw [tk]; simp,by omega⟩⟩;unfold qX;rw [tk,s4,s4,e0,e1];simp [hc]
    ·have hyx:dI y.d x.d<0:=by
      obtain⟨j,hj⟩:=ot.1 hy;rw [s6] at hj;split at hj
      ·rename_i hjn;obtain⟨q1,q2⟩:=cm.1 hj;have:=fJ.1 h j n q1 hi hjn;rw [q2,<- hxe] at this; exact this
      ·cases hj
     have hc:0<dI x.d r.d:=by
      rw [qs];exact wL (b:=y.d) h3 hyx
     have hc1:dI x.d r.d=1:=by rcases sd x.d r.d with h | h | h <;> omega
     rw [hc1];unfold ja i8 i7;rw [cL (by omega),show bW ((qX (l.take n) r).length+[x].length)=true from dJ (by unfold qX; simp only [bm,j8,rp]; omega)];refine ah ⟨hi,hi,rfl,.inr ⟨?_,rfl,y,by rw [tk]; exact mD _ hy,h3⟩⟩;unfold qX;rw [tk,s4,s4];simp [hc1]
   ·have hn2:n=l.length:=by omega
    rw [hn2,bS,cond_false];rw [hn2,fK] at h2;refine ah ?_;rcases h2 with⟨a,b,c⟩|⟨a,b,c⟩
    ·exact .inl ⟨a,b,c⟩
    ·exact .inr ⟨a,b⟩
  ·obtain⟨out,put⟩:=t;dsimp only at ht;unfold oR oQ;rcases ht with⟨rfl,rfl,h3⟩|⟨rfl,rfl⟩
   ·rw [rX hr];simp only [jj,cond_true,ad];rw [show bW (out.length+[r].length)=true from dJ (by simp; omega)];refine ah ?_;unfold qX;rw [Dc.2 fun x hx=>by simpa using h3 x hx,HO.2 fun x hx=>by have:=h3 x hx; simp; omega]
   ·exact ah rfl
 obtain⟨y,e,rfl⟩:=key;exact e
theorem Cr {l:List ae} (h:Rm l.length):lG l l=some true:=by
 unfold Rm at h;unfold lG;rw [show ((l.length:Int) != (l.length:Int))=false by simp,cond_false];refine fL (dG (xs:=l) (fun i=>(i:Int)) rfl (r:=.go ()) (fun i x hx=>?_) ?_) rfl
 ·unfold i6;rw [iK hx,cond_true,bj,hx,ad,ad,cL (by have:=bg hx; omega)];show cond (!iL x x) _ _=_;rw [yT]; rfl
 ·unfold i6;rw [bS]; rfl
theorem Kg {x:aA} (h:x∈qX l r):x∈l∨x=r:=by
 unfold qX at h;rcases de.1 h with h | h
 ·exact .inl (nu.1 h).1
 ·rcases dC.1 h with h | h
  ·exact .inr h
  ·exact .inl (nu.1 h).1
theorem Fg (h:GD l) (r:aA):GD (qX l r):=by
 unfold GD qX;rw [tv];refine⟨HN _ h,uP.2 ⟨fun x hx=>?_,HN _ h⟩,fun x hx y hy=>?_⟩
 ·have:=(nu.1 hx).2;simp only [decide_eq_true_eq] at this;exact qs.1 this
 ·have h1:=(nu.1 hx).2;simp only [decide_eq_true_eq] at h1;rcases dC.1 hy with rfl | hy
  ·exact h1
  ·have h2:=(nu.1 hy).2;simp only [decide_eq_true_eq] at h2;exact se h1 (qs.1 h2)
theorem uE (hl:IX l) (k:ae):da l k=some (cO l k):=by
 have h1:=hl.1;unfold Rm at h1;unfold da;have key:=un (B:=fun t:Int=>jp l k t) (xs:=l) (fun r=>iL r.d k) (fun i=>(i:Int)) (s0:=0) rfl (y:=fun i x=>Fl.out (x,true)) (n:=Fl.go ()) (fun i x hx hp=>by
   unfold jp;rw [iK hx,cond_true,bj,hx,ad,cL (by have:=bg hx; omega)];show cond (iL x.d k) _ _=_;rw [hp]; rfl) (fun i x hx hp=>by
   unfold jp;rw [iK hx,cond_true,bj,hx,ad];show cond (iL x.d k) _ _=_;rw [hp,rX (hl.2 x (aK hx))]; rfl) (by
   unfold jp;rw [bS]; rfl)
 unfold cO;rcases key with⟨i,x,h1,h2,h3,h4⟩|⟨h1,h2⟩
 ·rw [h4,G5 (p:=fun r=>iL r.d k) h1 h2 h3]; rfl
 ·rw [h2,show l.find? (fun r=>iL r.d k)=none from FG.2 fun x hx=>by rw [h1 x hx]; simp]; rfl
theorem y5 {l:List ae} (hl:Rm l.length) (k:ae):pD l k=some (l.any fun x=>iL k x):=by
 unfold Rm at hl;unfold pD;refine fL (tP (xs:=l) (fun x=>iL k x) (fun i=>(i:Int)) rfl (y:=Fl.out true) (n:=Fl.go ()) (fun i x hx hp=>?_) (fun i x hx hp=>?_) ?_) ?_
 ·unfold mp;rw [iK hx,cond_true,bj,hx,ad,cL (by have:=bg hx; omega)];show cond (iL x k) _ _=_;rw [CK,hp]; rfl
 ·unfold mp;rw [iK hx,cond_true,bj,hx,ad];show cond (iL x k) _ _=_;rw [CK,hp]; rfl
 ·unfold mp;rw [bS]; rfl
 ·cases l.any fun x=>iL k x <;> rfl
theorem L1 {out:List ae} (h:IU out) {i:Nat} {k:ae} (h1:∀ y∈out.take i,dI y k<0) (h2:∀ y∈out.drop i,dI k y<0):IU (out.take i++[k]++out.drop i):=by
 unfold IU at *;rw [fc,tv];refine⟨h.sublist (List.take_sublist _ _),uP.2 ⟨fun y hy=>h2 y hy,h.sublist (List.drop_sublist _ _)⟩,fun a ha b hb=>?_⟩;rcases dC.1 hb with rfl | hb
 ·exact h1 a ha
 ·exact se (h1 a ha) (h2 b hb)
theorem L3 {out:List ae} {i:Nat} {k x:ae}:x∈out.take i++[k]++out.drop i↔x∈out∨x=k:=by
 conv=>rhs; rw [<- pc i out]
 simp only [de,dC,iJ,or_false];constructor
 ·rintro ((h | h) | h)
  ·exact .inl (.inl h)
  ·exact .inr h
  ·exact .inl (.inr h)
 ·rintro ((h | h) | h)
  ·exact .inl (.inl h)
  ·exact .inr h
  ·exact .inl (.inr h)
theorem wS {l:List ae} (hl:Rm l.length):∃ m,km l=some m/\zz l m:=by
 unfold Rm at hl;have key:Ok (km l) fun m=>zz l m:=by
  unfold km;refine bP (fun n s=>s.2=(n:Int)/\n<=l.length/\zz (l.take n) s.1) (fun r=>zz l r) l.length ⟨rfl,bT _,rn,fun x=>by simp,by simp⟩ (fun n s hn hI=>?_) (fun r hr=>ah hr);obtain⟨out,g⟩:=s;obtain⟨h1,h2,h3⟩:=hI;dsimp only at h1 h3;subst h1;have hol:=h3.len;rw [fe] at hol;unfold nC;dsimp only;by_cases hi:n<l.length
  ·have hx:l[n]? = some l[n]:=cQ hi;obtain⟨k,O⟩:∃ k,k=l[n]:=⟨_,rfl⟩;rw [<- O] at hx;rw [dlt hi,cond_true,bj,hx,ad];have stay:k∈out->zz (l.take (n+1)) out:=fun hm=>⟨h3.asc,fun x=>by
    rw [bM hx,de,h3.mem];constructor
    ·exact .inl
    ·rintro (h | h)
     ·exact h
     ·simp only [dC,iJ,or_false] at h;subst h; exact (h3.mem _).1 hm,by rw [fe]; omega⟩
   have put:∀ i:Nat,i<=out.length->(∀ y∈out.take i,dI y k<0)->(∀ y∈out.drop i,dI k y<0)->zz (l.take (n+1)) (out.take i++[k]++out.drop i):=fun i hio q1 q2=>⟨L1 h3.asc q1 q2,fun x=>by
    rw [L3,bM hx,de,h3.mem];simp,by simp only [bm,fe,nr,j8,rp]; omega⟩
   have j3:∀ i:Nat,i<=out.length->(∀ y∈out.take i,dI y k<0)->(∀ y∈out.drop i,dI k y<0)->Ok (fk out (n:Int) k (i:Int) true) fun r=>match r with
     | .go s'=>n<l.length/\s'.2=((n+1:Nat):Int)/\n+1<=l.length/\zz (l.take (n+1)) s'.1
     | .out r=>zz l r:=fun i hio q1 q2=>by
    unfold fk iP;rw [cond_true,tZ hio,ad,yu hio,ad,cL (by omega)];have r1:bW (([]:List ae).length+(out.take i).length)=true:=dJ (by simp; omega);have r2:bW ((([]:List ae)++out.take i).length+[k].length)=true:=dJ (by simp; omega);have r3:bW (((([]:List ae)++out.take i)++[k]).length+(out.drop i).length)=true:=dJ (by simp; omega);rw [r1,r2,r3];simp only [gd,cond_true,s7];exact ah ⟨hi,rfl,hi,put i hio q1 q2⟩
   have inner:=un (B:=fun t:Int=>gq out k t) (xs:=out) (fun y=>!decide (dI y k<0)) (fun i=>(i:Int)) (s0:=0) rfl (y:=fun i _=>(i:Int)) (n:=(out.length:Int)) (fun i y hy hp=>by
     unfold gq;simp only [Bool.not_eq_false'] at hp;rw [iK hy,cond_true,bj,hy,ad,oq,ad,hp,cond_true,cL (by have:=bg hy; omega)]) (fun i y hy hp=>by
     unfold gq;simp only [uZ] at hp;rw [iK hy,cond_true,bj,hy,ad,oq,ad,hp,cond_false]) (by
     unfold gq;rw [bS]; rfl)
   rcases inner with⟨i,y,a1,a2,a3,a4⟩|⟨a1,a2⟩
   ·rw [a4,ad];have hio:=bg a1;have hge:¬ dI y k<0:=by simpa using a2
    have hb:∀ z∈out.take i,dI z k<0:=fun z hz=>by
     obtain⟨j,hj⟩:=ot.1 hz;rw [s6] at hj;split at hj
     ·rename_i hji;simpa using a3 j z hji hj
     ·cases hj
    unfold kJ;rw [show ((i:Int)==(out.length:Int))=false from by simp; omega,cond_false,bj,a1,ad];show Ok (fk out (n:Int) k (i:Int) (!iL y k)) _;cases hq:iL y k
    ·rw [jj];refine (j3 i (by omega) hb fun z hz=>?_).mono fun y hy=>by cases y <;> exact hy
     have hyk:dI k y<0:=by
      rcases xZ y k with h | h | h
      ·exact absurd h hge
      ·exact absurd h (Ao.1 hq)
      ·exact h
     obtain⟨j,hj⟩:=ot.1 hz;rw [vV] at hj;obtain⟨q1,q2⟩:=cm.1 hj;obtain⟨q3,q4⟩:=cm.1 a1;by_cases hj0:j=0
     ·subst hj0;rw [pd,a1] at hj;injection hj with hj;rw [<- hj]; exact hyk
     ·have:=fJ.1 h3.asc i (i+j) q3 q1 (by omega);rw [q4,q2] at this;exact se hyk this
    ·unfold fk iP;rw [eT,cond_false,cL (by omega)];exact ah ⟨hi,rfl,hi,stay (by rw [<- mX.1 hq]; exact aK a1)⟩
   ·rw [a2,ad];unfold kJ;rw [beq_self_eq_true,cond_true];refine (j3 out.length (bZ _) (fun z hz=>?_) (fun z hz=>by rw [Da] at hz; cases hz)).mono fun y hy=>by cases y <;> exact hy
    rw [fK] at hz;simpa using a1 z hz
  ·rw [LM hi,cond_false];have:n=l.length:=by omega
   subst this;rw [fK] at h3;exact ah h3
 obtain⟨m,e,h⟩:=key;exact⟨m,e,h⟩
end
section
open Go.Lib hiding intOf
variable {α:Type} {E:α->α->Prop} {T:List ae} {r x:ae} {z:α}
instance SE:DecidableEq ae:=fun a b=>decidable_of_iff (iL a b=true) mX
inductive mF {α:Type} (E:α->α->Prop) (x:α):α->Prop
 | refl:mF E x x
 | snoc {y z:α}:mF E x y->E y z->mF E x z
theorem mF.trans {x y:α} (h:mF E x y) (k:mF E y z):mF E x z:=by
 induction k with
 | refl=>exact h
 | snoc _ e ih=>exact .snoc ih e
theorem mF.head {x y:α} (h:E x y) (k:mF E y z):mF E x z:=(mF.snoc .refl h).trans k
def FX (E:α->α->Prop) (x z:α):Prop:=∃ y,mF E x y/\E y z
theorem FX.star {x:α} (h:FX E x z):mF E x z:=by obtain⟨y,h1,h2⟩:=h; exact .snoc h1 h2
theorem mF.plus {x:α} (h:mF E x z) (hne:x≠z):FX E x z:=by
 cases h with
 | refl=>exact absurd rfl hne
 | snoc h1 h2=>exact⟨_,h1,h2⟩
theorem pC:∀ {l m:List α},l.Nodup->(∀ x∈l,x∈m)->l.length<=m.length
 | [],m,_,_=>bT _
 | x::l,m,h,hs=>by
  have h':=Dh.1 h;obtain⟨a,b,rfl⟩:=List.append_of_mem (hs x vX);have:=pC (l:=l) (m:=a++b) h'.2 fun y hy=>by
   have h1:=hs y (wY _ hy);rw [de,dC] at h1;rw [de];rcases h1 with h1 | rfl | h1
   ·exact .inl h1
   ·exact absurd hy h'.1
   ·exact .inr h1
  simp only [j8,bm] at this ⊢;omega
theorem pT:∀ a b:ae,aR a b=true↔a=b:=fun a b=>mX (a:=a) (b:=b)
theorem Kh {m:List (ae×Bool)} {M:List ae} (h:∀ x,(dv aR x m).getD false=decide (x∈M)) (e:ae):∀ x,(dv aR x (fV aR e true m)).getD false=decide (x∈M++[e]):=fun x=>by
 rw [x9 pT];by_cases hx:x=e
 ·subst hx; rw [if_pos ((pT _ _).2 rfl)]; simp
 ·rw [if_neg (fun h=>hx ((pT _ _).1 h)),h]; simp [hx]
section
variable {succ:ae->List ae} {filt:ae->Bool}
def FV (succ:ae->List ae) (filt:ae->Bool) (T:List ae) (i g:Nat) (x r:ae):Prop :=
 ∃ j,T[j]? = some x/\filt r=true/\((j<i/\r∈succ x)∨(j=i/\r∈(succ x).take g))
theorem FV.grow {T':List ae} {i g:Nat} (hi:i<T.length):FV succ filt (T++T') i g x r↔FV succ filt T i g x r:=by
 constructor
 ·rintro⟨j,h1,h2,h3⟩;rw [pp (by omega)] at h1;exact⟨j,h1,h2,h3⟩
 ·rintro⟨j,h1,h2,h3⟩;exact⟨j,by rw [pp (by omega)]; exact h1,h2,h3⟩
theorem FV.step {i g:Nat} {c e:ae} (hc:T[i]? = some c) (he:(succ c)[g]? = some e):FV succ filt T i (g+1) x r↔FV succ filt T i g x r∨(x=c/\r=e/\filt e=true):=by
 constructor
 ·rintro⟨j,h1,h2,h3 | ⟨rfl,h3⟩⟩
  ·exact .inl ⟨j,h1,h2,.inl h3⟩
  ·rw [hc] at h1;injection h1 with h1;subst h1;rw [bM he,de,eU] at h3;rcases h3 with h3 | rfl
   ·exact .inl ⟨j,hc,h2,.inr ⟨rfl,h3⟩⟩
   ·exact .inr ⟨rfl,rfl,h2⟩
 ·rintro (⟨j,h1,h2,h3 | ⟨rfl,h3⟩⟩|⟨rfl,rfl,h⟩)
  ·exact⟨j,h1,h2,.inl h3⟩
  ·rw [hc] at h1;injection h1 with h1;subst h1;exact⟨j,hc,h2,.inr ⟨rfl,by rw [bM he]; exact mD _ h3⟩⟩
  ·exact⟨i,hc,h,.inr ⟨rfl,by rw [bM he]; simp⟩⟩
theorem FV.next {i:Nat} {c:ae} (hc:T[i]? = some c):FV succ filt T i (succ c).length x r↔FV succ filt T (i+1) 0 x r:=by
 constructor
 ·rintro⟨j,h1,h2,h3 | ⟨rfl,h3⟩⟩
  ·exact⟨j,h1,h2,.inl ⟨by omega,h3.2⟩⟩
  ·rw [hc] at h1;injection h1 with h1;subst h1;rw [fK] at h3;exact⟨j,hc,h2,.inl ⟨by omega,h3⟩⟩
 ·rintro⟨j,h1,h2,h3 | ⟨rfl,h3⟩⟩
  ·by_cases hj:j=i
   ·subst hj;rw [hc] at h1;injection h1 with h1;subst h1;exact⟨j,hc,h2,.inr ⟨rfl,by rw [fK]; exact h3.2⟩⟩
   ·exact⟨j,h1,h2,.inl ⟨by omega,h3.2⟩⟩
  ·simp at h3
structure WL (succ:ae->List ae) (filt:ae->Bool) (Rch:ae->Prop) (pre:List ae) (seen:List (ae×Bool)) (M:List ae) (i g:Nat):Prop where
 nd:M.Nodup
 see:∀ x,(dv aR x seen).getD false=decide (x∈M)
 rch:∀ x∈M,Rch x
 con:∀ x r,FV succ filt (pre++M) i g x r->r∈M
variable {Rch:ae->Prop} {pre:List ae} {seen:List (ae×Bool)} {M:List ae} {i g:Nat} {c e:ae}
theorem WL.skip (h:WL succ filt Rch pre seen M i g) (hc:(pre++M)[i]? = some c) (he:(succ c)[g]? = some e) (hf:filt e=false):WL succ filt Rch pre seen M i (g+1) :=
 ⟨h.nd,h.see,h.rch,fun x r hx=>by
  rcases (FV.step hc he).1 hx with h1 | ⟨_,_,h1⟩
  ·exact h.con x r h1
  ·rw [hf] at h1; cases h1⟩
theorem WL.old (h:WL succ filt Rch pre seen M i g) (hc:(pre++M)[i]? = some c) (he:(succ c)[g]? = some e) (hm:e∈M):WL succ filt Rch pre seen M i (g+1) :=
 ⟨h.nd,h.see,h.rch,fun x r hx=>by
  rcases (FV.step hc he).1 hx with h1 | ⟨_,rfl,_⟩
  ·exact h.con x r h1
  ·exact hm⟩
theorem WL.new (h:WL succ filt Rch pre seen M i g) (hc:(pre++M)[i]? = some c) (he:(succ c)[g]? = some e) (hm:e ∉ M) (hr:Rch e):WL succ filt Rch pre (fV aR e true seen) (M++[e]) i (g+1) :=
 ⟨List.nodup_append.2 ⟨h.nd,by simp,fun a ha b hb e2=>by rw [eU] at hb; subst hb e2; exact hm ha⟩,Kh h.see e,fun x hx=>by
  rcases de.1 hx with hx | hx
  ·exact h.rch x hx
  ·rw [eU] at hx; subst hx; exact hr,fun x r hx=>by
  have hi:i<(pre++M).length:=(cm.1 hc).1;rw [<- fc,FV.grow hi] at hx;rcases (FV.step hc he).1 hx with h1 | ⟨_,rfl,_⟩
  ·exact mD _ (h.con x r h1)
  ·simp⟩
theorem WL.next (h:WL succ filt Rch pre seen M i g) (hc:(pre++M)[i]? = some c) (hg:g=(succ c).length):WL succ filt Rch pre seen M (i+1) 0 :=
 ⟨h.nd,h.see,h.rch,fun x r hx=>h.con x r (by subst hg; exact (FV.next hc).2 hx)⟩
theorem WL.fin (h:WL succ filt Rch pre seen M i g) (hi:(pre++M).length<=i) (hx:x∈pre++M) (hr:r∈succ x) (hf:filt r=true):r∈M:=by
 obtain⟨j,hj⟩:=ot.1 hx;exact h.con x r ⟨j,hj,hf,.inl ⟨by have:=(cm.1 hj).1; omega,hr⟩⟩
end
section
variable {rd:ae->List ae} {op:ae->Bool} {k:ae}
def Eg (rd:ae->List ae) (op:ae->Bool) (x y:ae):Prop:=op x=true/\y∈rd x/\op y=true
theorem Mm (O:op k=true) (h:mF (Eg rd op) k x):op x=true:=by
 cases h with
 | refl=>exact O
 | snoc _ e=>exact e.2.2
end
def rY (k:ae):Bool:=decide (k.k=32)||(decide (k.k=7)||decide (k.k=14)||decide (k.k=17)||decide (k.k=18))
theorem hU (k:ae):cU k=some (rY k):=by
 unfold cU rA rY gp gn;have hb:∀ n:Int,((k.k:Int)==n)=decide (k.k=n):=fun n=>by rw [Bool.eq_iff_iff]; simp
 rw [hb,hb,hb,hb,hb];by_cases h32:k.k=32
 ·simp [h32]
 ·by_cases h7:k.k=7
  ·simp [h7]
  ·by_cases h14:k.k=14
   ·simp [h14]
   ·by_cases h17:k.k=17
    ·simp [h17]
    ·by_cases h18:k.k=18
     ·simp [h18]
     ·simp only [h32,h7,h14,h17,h18,decide_false,Bool.or_false,cond_false];cases decide ((1:Int)<=k.k) <;> cases decide ((k.k:Int)<=22) <;> rfl
def J7 (r:aA) (rev:Int):Bool:=rY r.d&&decide (r.l<rev) && !r.d1
theorem J8 (r:aA) (rev:Int):J7 r rev=(rY r.d&&decide (r.l<rev) && !r.d1):=rfl
noncomputable def DS (l:List aA) (rev:Int) (k:ae):Bool:=(cO l k).2&&J7 (cO l k).1 rev
def CV (l:List aA) (k:ae):List ae:=(cO l k).1.v
theorem kV {l:List aA} {k:ae} (h:(cO l k).2=true):(cO l k).1∈l/\(cO l k).1.d=k:=by
 unfold cO at *;cases hf:l.find? (fun r=>iL r.d k) with
 | none=>rw [hf] at h; cases h
 | some r =>
  have h2:=List.find?_some hf;exact⟨K8 hf,mX.1 h2⟩
theorem uj {l:List aA} {k:ae} (h:(cO l k).2=false):cO l k=(R1,false)/\∀ r∈l,r.d≠k:=by
 unfold cO at *;cases hf:l.find? (fun r=>iL r.d k) with
 | none =>
  refine⟨rfl,fun r hr e=>?_⟩;have:=FG.1 hf r hr;exact this (mX.2 e)
 | some r=>rw [hf] at h; cases h
theorem DT {l:List aA} {rev:Int} {k:ae} (h:DS l rev k=true):k∈l.map aA.d:=by
 unfold DS at h;simp only [ri] at h;obtain⟨h1,h2⟩:=kV h.1;exact jw.2 ⟨_,h1,h2⟩
theorem xr {l:List aA} (hl:IX l) (rev:Int) (k:ae):pI l rev k=some (DS l rev k):=by
 unfold pI jq;rw [uE hl,ad];cases hf:(cO l k).2 with
 | false=>simp [DS,hf]
 | true =>
  have O:=(kV hf).2;unfold DS;rw [hf,J8,O,cond_true,hU,ad];cases rY k <;> cases decide (((cO l k).1.l:Int)<rev) <;> rfl
structure H1 (l:List aA):Prop where
 asc:GD l
 len:l.length<=1000
 rds:∀ r∈l,r.v.length<=1000
theorem H1.rm {l:List aA} (h:H1 l):IX l:=⟨by have:=h.len; unfold Rm; omega,fun r hr=>by have:=h.rds r hr; unfold Rm; omega⟩
theorem H1.rd {l:List aA} (h:H1 l) (k:ae):(CV l k).length<=1000:=by
 unfold CV;cases hf:(cO l k).2 with
 | true=>exact h.rds _ (kV hf).1
 | false=>rw [(uj hf).1]; exact bT _
noncomputable abbrev Ek (l:List aA) (rev:Int):=Eg (CV l) (DS l rev)
def Q5 (l:List aA) (rev:Int) (k:ae) (m:List ae):Prop:=IU m/\∀ x,x∈m↔mF (Ek l rev) k x/\mF (Ek l rev) x k
section
variable {l:List aA} (hl:H1 l) {rev:Int} {k:ae} (O:DS l rev k=true)
theorem vM (O:DS l rev k=true) (h:mF (Ek l rev) k x):DS l rev x=true:=Mm O h
abbrev B1 (l:List aA) (rev:Int) (k:ae) (seen:List (ae×Bool)) (M:List ae) (i g:Nat):Prop:=WL (CV l) (DS l rev) (FX (Ek l rev) k) [k] seen M i g
theorem B1.len {seen:List (ae×Bool)} {M:List ae} {i g:Nat} (h:B1 l rev k seen M i g):M.length<=l.length:=by
 have:=pC (m:=l.map aA.d) h.nd fun x hx=>by
  obtain⟨y,_,e⟩:=h.rch x hx;exact DT e.2.2
 rwa [pq] at this
include hl O in
theorem JU {seen:List (ae×Bool)} {M:List ae} {i:Nat} {c:ae} (hc:([k]++M)[i]? = some c) (h:B1 l rev k seen M i 0) :
  Ok (loop (fun s:(List (ae×Bool))×(List ae)×Int=>ga l rev (cO l c) s.1 s.2.1 s.2.2) (seen,[k]++M,0)) fun r=>∃ M',r.2=[k]++M'/\B1 l rev k r.1 M' (i+1) 0/\i<([k]++M').length:=by
 have hcs:mF (Ek l rev) k c:=by
  cases i with
  | zero=>simp at hc; subst hc; exact .refl
  | succ i =>
   rw [sL (by simp)] at hc;exact (h.rch c (aK hc)).star
 have hcop:=vM O hcs;have hrl:=hl.rd c;have hll:=hl.len;refine rO (B:=fun s:(List (ae×Bool))×(List ae)×Int=>ga l rev (cO l c) s.1 s.2.1 s.2.2)
  (fun g s=>s.2.2=(g:Int)/\∃ M',s.2.1=[k]++M'/\B1 l rev k s.1 M' i g/\([k]++M')[i]? = some c) _ (CV l c).length ?_ ?_ ⟨rfl,M,rfl,h,hc⟩
 ·rintro g ⟨sn,L,gi⟩ hg ⟨rfl,M',rfl,U,hLc⟩;dsimp only at U hLc ⊢;have hge:(CV l c)[g]? = some (CV l c)[g]:=cQ hg;have hlen:=B1.len U;have hLi:i<([k]++M').length:=(cm.1 hLc).1;refine .inl ?_;have hgu:(cO l c).1.v=CV l c:=rfl;unfold ga;rw [hgu,dlt hg,cond_true,bj,hge,ad];generalize (CV l c)[g]=e at hge;rw [xr hl.rm,ad];unfold lW lV;rw [cL (by omega)];cases hf:DS l rev e with
  | false=>exact⟨_,rfl,rfl,M',rfl,U.skip hLc hge hf,hLc⟩
  | true =>
   have hEg:Ek l rev c e:=⟨hcop,aK hge,hf⟩;rw [cond_true,U.see e,ad];by_cases hm:e∈M'
   ·rw [decide_eq_true hm];exact⟨_,rfl,rfl,M',rfl,U.old hLc hge hm,hLc⟩
   ·rw [decide_eq_false hm];simp only [jj,cond_true];rw [gd,dJ (by simp only [FL,bm]; omega),cond_true];refine⟨_,rfl,rfl,M'++[e],by simp,U.new hLc hge hm ⟨c,hcs,hEg⟩,?_⟩;rw [<- fc,pp hLi]; exact hLc
 ·rintro⟨sn,L,gi⟩ ⟨rfl,M',rfl,U,hLc⟩;dsimp only at U hLc ⊢;have hend:ga l rev (cO l c) sn ([k]++M') ((CV l c).length:Int)=some (.out (sn,[k]++M')):=by
   unfold ga;rw [show (cO l c).1.v=CV l c from rfl,bS]; rfl
  exact⟨_,hend,M',rfl,U.next hLc rfl,(cm.1 hLc).1⟩
include hl O in
theorem E2:Ok (oh l rev k) fun m=>∀ x,(dv aR x m).getD false=true↔FX (Ek l rev) k x:=by
 have hll:=hl.len;have h0:B1 l rev k [] [] 0 0:=⟨List.nodup_nil,fun x=>by simp [dv],fun x hx=>by simp at hx,fun x r h=>by
  obtain⟨j,h1,h2,h3 | ⟨_,h3⟩⟩:=h
  ·omega
  ·simp at h3⟩
 have fin:∀ {sn M i},B1 l rev k sn M i 0->([k]++M).length<=i->∀ x,(dv aR x sn).getD false=true↔FX (Ek l rev) k x:=by
  intro sn M i U hL x;rw [U.see,decide_eq_true_iff];refine⟨U.rch x,?_⟩;rintro⟨y,hy,e⟩;have hall:∀ z,mF (Ek l rev) k z->z∈[k]++M:=fun z hz=>by
   induction hz with
   | refl=>simp
   | snoc _ e ih=>exact vW _ (U.fin hL ih e.2.1 e.2.2)
  exact U.fin hL (hall y hy) e.2.1 e.2.2
 unfold oh oU;refine au (Q:=fun m=>∀ x,(dv aR x m).getD false=true↔FX (Ek l rev) k x) ?_ fun m hm=>ah hm;refine rO (B:=fun s:(List (ae×Bool))×(List ae)×Int=>ir l rev s.1 s.2.1 s.2.2)
  (fun i s=>s.2.2=(i:Int)/\∃ M,s.2.1=[k]++M/\B1 l rev k s.1 M i 0/\i<=([k]++M).length) _ (l.length+1) ?_ ?_ ⟨rfl,[],rfl,h0,bT _⟩
 ·rintro i ⟨sn,L,ii⟩ hi ⟨rfl,M,rfl,U,hiL⟩;dsimp only at U hiL ⊢;by_cases hlt:i<([k]++M).length
  ·refine .inl ?_;have hc:([k]++M)[i]? = some ([k]++M)[i]:=cQ hlt;obtain⟨⟨s2,L2⟩,e2,M',rfl,h2,h3⟩:=JU hl O hc U;refine⟨(s2,[k]++M',((i+1:Nat):Int)),?_,rfl,M',rfl,h2,h3⟩;unfold ir lU;rw [dlt hlt,cond_true,bj,hc,ad,uE hl.rm,ad,e2,ad,cL (by omega)]
  ·refine .inr ⟨sn,?_,fin U (by omega)⟩;unfold ir;rw [LM hlt]; rfl
 ·rintro⟨sn,L,ii⟩ ⟨rfl,M,rfl,U,hiL⟩;dsimp only at U hiL ⊢;have hlen:=B1.len U;have hlen2:([k]++M).length<=l.length+1:=by rw [bm,FL]; omega
  refine⟨sn,?_,fin U hlen2⟩;unfold ir;rw [LM (by omega)]; rfl
include hl O in
theorem Ko:Ok (nc l rev k) (Q5 l rev k):=by
 have hll:=hl.len;unfold nc;rw [xr hl.rm,ad,O];simp only [eT,cond_false];refine au (E2 hl O) fun tm htm=>?_;unfold sV;refine au (Q:=fun out=>out.length<=1001/\∀ x,x∈out↔mF (Ek l rev) k x/\mF (Ek l rev) x k) ?_ fun out ⟨h1,h2⟩=>?_
 ·refine rO (B:=fun s:(List ae)×Int=>og l rev k tm s.1 s.2)
   (fun i s=>s.2=(i:Int)/\s.1.length<=i+1/\∀ x,x∈s.1↔x=k∨(∃ r∈l.take i,r.d=x)/\mF (Ek l rev) k x/\mF (Ek l rev) x k) _ l.length ?_ ?_ ⟨rfl,by simp,fun x=>by simp⟩
  ·rintro i ⟨out,ii⟩ hi ⟨rfl,hlen,hm⟩;dsimp only at hlen hm ⊢;refine .inl ?_;have hr:l[i]? = some l[i]:=cQ hi;generalize l[i]=r at hr;have hkeep:¬ (r.d≠k/\mF (Ek l rev) k r.d/\mF (Ek l rev) r.d k)->∀ x,x∈out↔x=k∨(∃ r∈l.take (i+1),r.d=x)/\mF (Ek l rev) k x/\mF (Ek l rev) x k:=fun hn x=>by
    rw [hm,bM hr];constructor
    ·rintro (h | ⟨⟨r',h1,h2⟩,h3⟩)
     ·exact .inl h
     ·exact .inr ⟨⟨r',mD _ h1,h2⟩,h3⟩
    ·rintro (h | ⟨⟨r',h1,h2⟩,h3⟩)
     ·exact .inl h
     ·rcases de.1 h1 with h1 | h1
      ·exact .inr ⟨⟨r',h1,h2⟩,h3⟩
      ·rw [eU] at h1;subst h1 h2;by_cases hx:r'.d=k
       ·exact .inl hx
       ·exact absurd ⟨hx,h3⟩ hn
   have hadd:mF (Ek l rev) k r.d->mF (Ek l rev) r.d k->∀ x,x∈out++[r.d]↔x=k∨(∃ r∈l.take (i+1),r.d=x)/\mF (Ek l rev) k x/\mF (Ek l rev) x k:=fun ha hb x=>by
    rw [de,hm,bM hr,eU];constructor
    ·rintro ((h | ⟨⟨r',h1,h2⟩,h3⟩) | rfl)
     ·exact .inl h
     ·exact .inr ⟨⟨r',mD _ h1,h2⟩,h3⟩
     ·exact .inr ⟨⟨r,by simp,rfl⟩,ha,hb⟩
    ·rintro (h | ⟨⟨r',h1,h2⟩,h3⟩)
     ·exact .inl (.inl h)
     ·rcases de.1 h1 with h1 | h1
      ·exact .inl (.inr ⟨⟨r',h1,h2⟩,h3⟩)
      ·rw [eU] at h1;subst h1 h2; exact .inr rfl
   unfold og oe qE;rw [dlt hi,cond_true,bj,hr,ad,cL (by omega)];show ∃ s',cond (!(iL r.d k)) _ _=_/\_;by_cases hx:r.d=k
   ·rw [mX.2 hx];exact⟨_,rfl,rfl,by dsimp only; omega,hkeep fun h=>h.1 hx⟩
   ·rw [Ao.2 hx];simp only [jj,cond_true,ad];cases ht:(dv aR r.d tm).getD false with
    | false =>
     refine⟨_,rfl,rfl,by dsimp only; omega,hkeep fun h=>?_⟩;have:=(htm r.d).2 (h.2.1.plus (fun e=>hx e.symm));rw [ht] at this; cases this
    | true =>
     have hp:=(htm r.d).1 ht;obtain⟨m2,e2,h2⟩:=E2 hl (vM O hp.star);rw [cond_true,e2,ad];cases ht2:(dv aR k m2).getD false with
     | false =>
      refine⟨_,rfl,rfl,by dsimp only; omega,hkeep fun h=>?_⟩;have:=(h2 k).2 (h.2.2.plus hx);rw [ht2] at this; cases this
     | true =>
      have hp2:=(h2 k).1 ht2;rw [cond_true,gd,dJ (by simp only [FL]; omega),cond_true];exact⟨_,rfl,rfl,by simp only [bm,FL]; omega,hadd hp.star hp2.star⟩
  ·rintro⟨out,ii⟩ ⟨rfl,hlen,hm⟩;dsimp only at hlen hm ⊢;refine⟨out,by unfold og; rw [bS]; rfl,by omega,fun x=>(hm x).trans ?_⟩;rw [fK];constructor
   ·rintro (rfl | ⟨_,h⟩)
    ·exact⟨.refl,.refl⟩
    ·exact h
   ·intro h;by_cases hx:x=k
    ·exact .inl hx
    ·obtain⟨r,hr,e⟩:=jw.1 (DT (vM O h.1));exact .inr ⟨⟨r,hr,e⟩,h⟩
 ·obtain⟨m,e,hm⟩:=wS (l:=out) (by unfold Rm; omega);rw [e];exact ah ⟨hm.asc,fun x=>(hm.mem x).trans (h2 x)⟩
end
theorem Q5.len {l:List aA} (hl:H1 l) {rev:Int} {k:ae} (O:DS l rev k=true) {m:List ae} (h:Q5 l rev k m):m.length<=1000:=by
 have hn:m.Nodup:=List.Pairwise.imp (fun {a b} h=>wh h) h.1;have:=pC (m:=l.map aA.d) hn fun x hx=>DT (vM O ((h.2 x).1 hx).1);rw [pq] at this;exact cI this hl.len
def I7 (l:List aA) (g:List ae) (m:ae):List dY:=((CV l m).filter fun x=>!(g.any fun y=>iL x y)).map fun x=>⟨m,x⟩
def gg (l:List aA) (g h:List ae):List dY:=h.flatMap (I7 l g)
theorem I8 {l:List aA} (hl:H1 l) (g:List ae) (m:ae):(I7 l g m).length<=1000:=by
 unfold I7;rw [pq];exact cI (List.length_filter_le _ _) (hl.rd m)
theorem sQ {l:List aA} (hl:H1 l) (g:List ae):∀ h:List ae,(gg l g h).length<=h.length*1000
 | []=>bT _
 | m::h=>by
  have:=sQ hl g h;have:=I8 hl g m;unfold gg at *;rw [u0,bm,j8]; omega
theorem CB {l:List aA} (hl:H1 l) {g:List ae} (hg:g.length<=2000):jc l g=some (gg l g g):=by
 unfold jc nH;refine fL (dG (xs:=g) (fun k=>(gg l g (g.take k),(k:Int))) rfl (r:=gg l g g) (fun k m hm=>?_) ?_) rfl
 ·have O:=bg hm;have hc:=sQ hl g (g.take k);have hct:(g.take k).length<=2000:=by rw [fe]; omega
  unfold kQ nI;dsimp only;rw [iK hm,cond_true,bj,hm,ad,uE hl.rm,ad,cL (by omega)];have hin:loop (fun s:List dY×Int=>iQ g m (cO l m) s.1 s.2) (gg l g (g.take k),0)=some (gg l g (g.take k)++I7 l g m):=by
   have hrl:=hl.rd m;refine dG (xs:=CV l m) (fun i=>(gg l g (g.take k)++(((CV l m).take i).filter fun x=>!(g.any fun y=>iL x y)).map (fun x=>(⟨m,x⟩:dY)),(i:Int))) (by simp) (fun i x hx=>?_) ?_
   ·have hi:=bg hx;unfold iQ kP;dsimp only;rw [show (cO l m).1.v=CV l m from rfl,iK hx,cond_true,bj,hx,ad,y5 (by unfold Rm; omega),ad,cL (by omega),bM hx,s4,BS];have hpl:((((CV l m).take i).filter fun x=>!(g.any fun y=>iL x y)).map (fun x=>(⟨m,x⟩:dY))).length<=1000:=by
     rw [pq];exact cI (uU _ _ _) hrl
    cases hh:g.any fun y=>iL x y with
    | true=>simp [hh]
    | false =>
     simp only [jj,cond_true];rw [gd,dJ (by simp only [bm,FL]; omega),cond_true];simp [hh]
   ·unfold iQ;dsimp only;rw [show (cO l m).1.v=CV l m from rfl,bS,fK]; rfl
  rw [hin,ad,bM hm];unfold gg;rw [s5,List.flatMap_singleton]
 ·unfold kQ;dsimp only;rw [bS,fK]; rfl
end
section
open Go.Lib hiding intOf
variable {ls:List ByteArray} {r:aS} {x:fh}
noncomputable def rk (l:List aS) (n:Nat):ae:=⟨if (bI l)[n]? = some true then 32 else 31,db n⟩
section
variable {l:List aS} {n a b:Nat}
theorem CH (ha:a<65536) (hb:b<65536) (h:db (a:Int)=db b):a=b:=by
 have h1:=yz ha;rw [h,yz hb] at h1;omega
theorem Br (ha:a<100) (hb:b<100) (h:rk l a=rk l b):a=b:=CH (by omega) (by omega) (congrArg ae.t h)
theorem Ks (h:n<l.length):rk l n=Ht l[n] n:=by
 unfold rk Ht;rw [qO h];cases l[n].o <;> simp
theorem Bt (h:n<l.length) (hl:l.length<=100):lF l n=some (rk l n):=by rw [Ks h]; exact IA h (by omega)
theorem rH:(rk l n).k=31/\(bI l)[n]? ≠ some true∨(rk l n).k=32/\(bI l)[n]? = some true:=by
 unfold rk;by_cases h:(bI l)[n]? = some true
 ·exact .inr ⟨by simp [h],h⟩
 ·exact .inl ⟨by simp [h],h⟩
theorem Fd (h:n<100):Bd 99 (db (n:Int)).toList=n:=by
 unfold Bd;rw [sc,oD,AS (by omega),if_pos (by omega)]
theorem Bs (h:n<100):Ae (rk l n)=n:=by
 unfold Ae;rw [if_pos (by rcases rH (l:=l) (n:=n) with⟨h,_⟩|⟨h,_⟩ <;> rw [h] <;> decide)];exact Fd h
theorem I5 (h:n<100):Ae (gf n)=n:=by
 unfold Ae;rw [if_pos ⟨by show (30:Int)<=30; omega,by show (30:Int)<=32; omega⟩];exact Fd h
theorem oC (k:ae):cH k=some (decide (k.k=1)||(decide (k.k=2)||decide (k.k=30))):=by
 unfold cH jO;by_cases h1:k.k=1
 ·simp [h1]
 ·by_cases h2:k.k=2
  ·simp [h2]
  ·by_cases h3:k.k=30
   ·simp [h3]
   ·have hb:∀ n:Int,k.k≠n->(k.k==n)=false:=fun n h=>by simpa using h
    rw [hb 1 h1,hb 2 h2,hb 30 h3];simp [h1,h2,h3]
theorem sG:cH (rk l n)=some false:=by
 rw [oC];rcases rH (l:=l) (n:=n) with⟨h,_⟩|⟨h,_⟩ <;> rw [h] <;> rfl
theorem pv:cH (gf n)=some true:=by rw [oC]; rfl
theorem Hm:rY (rk l n)=decide ((bI l)[n]? = some true):=by
 unfold rY;rcases rH (l:=l) (n:=n) with⟨h,k⟩|⟨h,k⟩
 ·rw [h,decide_eq_false k]; rfl
 ·rw [h,decide_eq_true k]; rfl
theorem H8:rY (gf n)=false:=rfl
theorem GQ:gf a≠rk l b:=fun h=>by
 have h30:(30:Int)=(rk l b).k:=congrArg ae.k h;rcases rH (l:=l) (n:=b) with⟨h,_⟩|⟨h,_⟩ <;> rw [h] at h30 <;> omega
theorem C3 {k:ae} (h:30<=k.k/\k.k<=32):cV k=some (decide (0<=Ae k)):=by
 unfold cV fW;rw [decide_eq_true h.1,decide_eq_true h.2,cond_true,cond_true,pN];rfl
theorem Bu (h:n<100):cV (rk l n)=some true:=by
 rw [C3 (by rcases rH (l:=l) (n:=n) with⟨h,_⟩|⟨h,_⟩ <;> rw [h] <;> decide),Bs h,decide_eq_true (by omega)]
theorem w9 (h:n<100):cV (gf n)=some true:=by
 rw [C3 (k:=gf n) ⟨by show (30:Int)<=30; omega,by show (30:Int)<=32; omega⟩,I5 h,decide_eq_true (by omega)]
def jB (l:List aS) (k:ae):Prop:=(∃ c,c<10/\k=gf c)∨∃ n,n<l.length/\k=rk l n
theorem jB.valid (hl:l.length<=8) {k:ae} (h:jB l k):cV k=some true:=by
 rcases h with⟨c,hc,rfl⟩|⟨n,hn,rfl⟩
 ·exact w9 (by omega)
 ·exact Bu (by omega)
theorem A9 (h:n<l.length):Em (bI l) n<=l.length:=by
 unfold Em;split
 ·have:=(I3 (rs:=bI l) (n:=n) (by unfold bI; rwa [pq])).2.2;unfold bI at this ⊢;rwa [pq] at this
 ·omega
noncomputable def tF (x:fh) (ls:List ByteArray):Int:=if x.c1=true/\(ls.length=0∨ia (ls.getD (ls.length-1) ⟨#[]⟩) % 2=0) then x.u1 else x.N
noncomputable def tE (l:List aS) (x:fh) (ls:List ByteArray):ae:=if x.t1=true then gf (tF x ls).toNat else rk l (tF x ls).toNat
theorem qk (C:bD l) (h:l[n]? = some r) {k:Nat} (hx:r.g[k]? = some x) (ls:List ByteArray) :
  0<=tF x ls/\((x.t1=true/\∃ c,c<10/\(tF x ls)=(c:Nat)/\tE l x ls=gf c)∨(x.t1=false/\∃ j,j<Em (bI l) n/\(tF x ls)=(j:Nat)/\tE l x ls=rk l j)):=by
 have U:=(C.each n r h).each k x hx;have h0:0<=tF x ls:=by unfold tF; split; exact U.low2; exact U.low
 refine⟨h0,?_⟩;cases hc:x.t1 with
 | true =>
  have:tF x ls<4:=by unfold tF; split; exact U.cell2 hc; exact U.cell hc
  exact .inl ⟨rfl,(tF x ls).toNat,by omega,by omega,by unfold tE; rw [if_pos hc]⟩
 | false =>
  have:tF x ls<Em (bI l) n:=by unfold tF; split; exact U.rule2 hc; exact U.rule hc
  exact .inr ⟨rfl,(tF x ls).toNat,by omega,by omega,by unfold tE; rw [if_neg (by rw [hc]; simp)]⟩
theorem Fr (C:bD l) (h:l[n]? = some r) (hn:r.g.length<=ls.length) :
  ik l (rk l n) ls=some ⟨true,db (vm r (ls.take r.g.length)),⟨0,⟨#[]⟩⟩⟩:=by
 have hlt:=bg h;have h8:=C.high;have h3:=(C.each n r h).asks;have hC:0<=r.C/\r.C<=65535:=by
  have hr:=C.each n r h;cases hg:r.o with
  | true=>have:=hr.ring hg; omega
  | false=>have:=hr.plain hg; omega
 obtain⟨m,hm,hm2⟩:=xf C h (ls:=ls.take r.g.length) (by rw [fe]; omega);unfold ik;rw [pN,ad,Bs (by omega),decide_eq_false (by omega),cond_false,decide_eq_false (by omega),cond_false,Bt hlt (by omega),ad];rw [show (!((rk l n).k==(rk l n).k&&(rk l n).t.toList==(rk l n).t.toList))=false by simp,cond_false,bj,h,ad,decide_eq_true (by omega),cond_true];rw [tZ (by omega),ad,Jz hC (by rw [fe]; omega),ad,hm,rN (by omega),ad]
theorem Gx (C:bD l) (h:l[n]? = some r) (hx:r.g[ls.length]? = some x) :
  ik l (rk l n) ls=some ⟨false,⟨#[]⟩,tE l x ls⟩:=by
 have hlt:=bg h;have hla:=bg hx;have h8:=C.high;have h3:=(C.each n r h).asks;have U:=(C.each n r h).each _ x hx;obtain⟨g0,hg⟩:=qk C h hx ls;have hll:=A9 hlt;have j1:∀ z:Int,z=tF x ls->k9 l x z=some ⟨false,⟨#[]⟩,tE l x ls⟩:=by
  rintro _ rfl;unfold k9;rcases hg with⟨hc,c,h4,e1,e2⟩|⟨hc,j,h4,e1,e2⟩
  ·rw [hc,cond_true,e1,xm (by omega),ad,e2]
  ·rw [hc,cond_false,e1,Bt (by omega) (by omega),ad,e2]
 unfold ik;rw [pN,ad,Bs (by omega),decide_eq_false (by omega),cond_false,decide_eq_false (by omega),cond_false,Bt hlt (by omega),ad];rw [show (!((rk l n).k==(rk l n).k&&(rk l n).t.toList==(rk l n).t.toList))=false by simp,cond_false,bj,h,ad,decide_eq_false (by omega),cond_false,bj,hx,ad];unfold lb;cases hp:x.c1 with
 | false=>exact j1 _ (by unfold tF; rw [if_neg (by rw [hp]; simp)])
 | true =>
  obtain⟨_,O⟩:=U.pick hp;rw [cond_true,show (((ls.length:Nat):Int)==0)=false from beq_eq_false_iff_ne.2 (by omega),cond_false];have hw:IntKind.i64.wrap ((ls.length:Int)-1)=((ls.length-1:Nat):Int):=by rw [lx (by omega) (by omega)]; omega
  have hg2:=cQ (l:=ls) (i:=ls.length-1) (by omega);rw [hw,bj,hg2,ad,Ft,ad];have hv:=jt ls[ls.length-1];have hd:ls.getD (ls.length-1) ⟨#[]⟩=ls[ls.length-1]:=by rw [K7,hg2]; rfl
  have ht:Int.tmod (ia ls[ls.length-1]) 2=ia ls[ls.length-1] % 2:=Int.tmod_eq_emod_of_nonneg (by omega);by_cases hz:ia ls[ls.length-1] % 2=0
  ·rw [ht,hz];exact j1 _ (by unfold tF; rw [if_pos ⟨hp,.inr (by rw [hd]; exact hz)⟩])
  ·rw [ht,show (ia ls[ls.length-1] % 2==0)=false by simpa using hz];exact j1 _ (by unfold tF; rw [if_neg (by rw [hd]; rintro⟨_,h | h⟩; exact absurd h (by omega); exact hz h)])
theorem KS (k:ae) (O:k.k=31∨k.k=32) (ls:List ByteArray):eN l k ls=ik l k ls:=by
 unfold eN;rcases O with h | h
 ·rw [h]; cases ik l k ls <;> rfl
 ·rw [h]; cases ik l k ls <;> rfl
theorem ym:(rk l n).k=31∨(rk l n).k=32:=by rcases rH (l:=l) (n:=n) with⟨h,_⟩|⟨h,_⟩; exact .inl h; exact .inr h
theorem zh (C:bD l) (h:l[n]? = some r) (hn:r.g.length<=ls.length) :
  eN l (rk l n) ls=some ⟨true,db (vm r (ls.take r.g.length)),⟨0,⟨#[]⟩⟩⟩:=(KS _ ym _).trans (Fr C h hn)
theorem BG (C:bD l) (h:l[n]? = some r) (hx:r.g[ls.length]? = some x) :
  eN l (rk l n) ls=some ⟨false,⟨#[]⟩,tE l x ls⟩:=(KS _ ym _).trans (Gx C h hx)
end
end
section
open Go.Lib hiding intOf
variable {V:Nat->ByteArray} {b j n:Nat} {r:aS}
section
variable {rs:List Bool}
theorem He:∀ {a j:Nat},ZZ rs a<=j->j<a->rs[j]? = some true
 | 0,_,_,h=>absurd h (by omega)
 | a+1,j,h1,h2=>by
  rw [DM] at h1;split at h1
  ·rename_i h;rcases iz j a with h3 | h3
   ·exact He h1 h3
   ·have:j=a:=by omega
    rw [this]; exact h
  ·omega
theorem JV {a:Nat}:∀ {j:Nat},a<=j->(∀ i,a<=i->i<j->rs[i]? = some true)->ZZ rs j<=a
 | 0,h,_=>by have:=CO rs 0; omega
 | j+1,h,hr=>by
  rcases iz j a with h3 | h3
  ·have:=CO rs (j+1); omega
  ·rw [DM,if_pos (hr j h3 (by omega))];exact JV h3 fun i h1 h2=>hr i h1 (by omega)
theorem EU:∀ {f b j:Nat},b<=j->j<Ih rs f b->rs[j]? = some true
 | 0,b,j,h1,h2=>by have:Ih rs 0 b=b:=rfl; omega
 | f+1,b,j,h1,h2=>by
  rw [EV] at h2;split at h2
  ·rename_i h;rcases Nat.eq_or_lt_of_le h1 with h3 | h3
   ·rw [<- h3]; exact h
   ·exact EU h3 h2
  ·omega
def tX (rs:List Bool) (n:Nat):Nat:=(blk rs n).1
theorem wr (h:rs[n]? ≠ some true):tX rs n=n:=by unfold tX blk; rw [if_neg h]
theorem yn (h:rs[n]? = some true):tX rs n=ZZ rs n:=by unfold tX blk; rw [if_pos h]
theorem Ku (n:Nat):tX rs n<=n:=by
 by_cases h:rs[n]? = some true
 ·rw [yn h]; exact CO rs n
 ·rw [wr h]; omega
theorem Ew (h:rs[n]? = some true) (h1:ZZ rs n<=j) (h2:j<Em rs n):rs[j]? = some true:=by
 unfold Em at h2;rw [if_pos h] at h2;unfold blk at h2;rw [if_pos h] at h2;rcases Nat.lt_trichotomy j n with h3 | h3 | h3
 ·exact He h1 h3
 ·rw [h3]; exact h
 ·exact EU h3 h2
theorem Bq (h:rs[n]? = some true) (hj:j<Em rs n) (hp:rs[j]? ≠ some true):j<tX rs n:=by
 rw [yn h];rcases iz j (ZZ rs n) with h3 | h3
 ·exact h3
 ·exact absurd (Ew h h3 hj) hp
theorem CZ (h:rs[n]? = some true) (hj:j<Em rs n) (hp:rs[j]? = some true):tX rs j<=tX rs n:=by
 rw [yn h,yn hp];rcases iz j (ZZ rs n) with h3 | h3
 ·have:=CO rs j; omega
 ·exact JV h3 fun i h1 h2=>Ew h h1 (by omega)
theorem CU (h:rs[n]? ≠ some true) (hj:j<Em rs n):tX rs j<tX rs n:=by
 unfold Em at hj;rw [if_neg h] at hj;rw [wr h];have:=Ku (rs:=rs) j;omega
end
def xM (p:Nat->Bool):Nat->Nat
 | 0=>0
 | k+1=>if p k then 2 ^ k+xM p k else xM p k
theorem AG (p:Nat->Bool):∀ k,xM p k<2 ^ k
 | 0=>by simp [xM]
 | k+1=>by
  have:=AG p k;have h2:2 ^ (k+1)=2 ^ k+2 ^ k:=by rw [zu]; omega
  unfold xM;split <;> omega
theorem AH (p:Nat->Bool):∀ k b,(xM p k).testBit b=(decide (b<k)&&p b)
 | 0,b=>by simp [xM]
 | k+1,b=>by
  have ih:=AH p k b;have hlt:=AG p k;unfold xM;rcases Nat.lt_trichotomy b k with h | h | h
  ·rw [decide_eq_true (by omega),yE];rw [decide_eq_true h,yE] at ih;split
   ·rw [Nat.testBit_two_pow_add_gt h]; exact ih
   ·exact ih
  ·subst h;rw [decide_eq_true (by omega),yE];split
   ·rename_i hp;rw [Nat.testBit_two_pow_add_eq,Eh hlt,hp]; rfl
   ·rename_i hp;rw [Eh hlt];simpa using hp
  ·rw [decide_eq_false (by omega),Bool.false_and];have h2:2 ^ (k+1)=2 ^ k+2 ^ k:=by rw [zu]; omega
   have h3:2 ^ (k+1)<=2 ^ b:=uQ (by omega) (by omega);split <;> exact Eh (by omega)
section
variable (l:List aS) (inp:ae->ByteArray)
noncomputable def ud (V:Nat->ByteArray) (x:fh) (ls:List ByteArray):ByteArray:=if x.t1=true then inp (tE l x ls) else V (tF x ls).toNat
noncomputable def rv (V:Nat->ByteArray) (r:aS):Nat->List ByteArray
 | 0=>[]
 | k+1=>match r.g[k]? with
  | none=>rv V r k
  | some x=>rv V r k++[ud l inp V x (rv V r k)]
inductive RB (V:Nat->ByteArray):Nat->Nat->Prop
 | own {n b:Nat} {r:aS}:l[n]? = some r->r.C.toNat.testBit b=true->RB V n b
 | ask {n b:Nat} {r:aS} {x:fh}:l[n]? = some r->x∈r.g->(x.t1=true∨(bI l)[x.N.toNat]? ≠ some true)->(ia (ud l inp V x [])).toNat.testBit b=true->RB V n b
 | ring {n b:Nat} {r:aS} {x:fh}:l[n]? = some r->x∈r.g->x.t1=false->(bI l)[x.N.toNat]? = some true->RB V x.N.toNat b->RB V n b
open Classical in
noncomputable def IM (V:Nat->ByteArray) (n:Nat):ByteArray:=match l[n]? with
 | none=>⟨#[]⟩
 | some r=>if r.o=true then db (xM (fun b=>decide (RB l inp V n b)) 16:Nat) else db (vm r (rv l inp V r r.g.length))
noncomputable def Wd:Nat->Nat->ByteArray
 | 0=>fun _=>⟨#[]⟩
 | k+1=>fun n=>if tX (bI l) n<k then Wd k n else IM l inp (Wd k) n
noncomputable def Vd (n:Nat):ByteArray:=Wd l inp (tX (bI l) n+1) n
theorem ML:∀ {k n:Nat},tX (bI l) n<k->Wd l inp k n=Vd l inp n
 | 0,n,h=>absurd h (by omega)
 | k+1,n,h=>by
  rcases iz (tX (bI l) n) k with h1 | h1
  ·show (if tX (bI l) n<k then Wd l inp k n else _)=_;rw [if_pos h1];exact ML h1
  ·obtain rfl:k=tX (bI l) n:=by omega
   rfl
variable {l inp}
theorem Hl (C:bD l) (h:l[n]? = some r) (hr:r.o=true) {k:Nat} {x:fh} (hx:r.g[k]? = some x) (ls:List ByteArray):tF x ls=x.N:=by
 have:=(C.each n r h).each k x hx;unfold tF;rw [if_neg];rintro⟨hp,_⟩;have:=(this.pick hp).1;rw [hr] at this; cases this
theorem nY (h:l[n]? = some r):(bI l)[n]? = some r.o:=by
 have:=bg h;rw [qO this];rw [cQ this] at h;rw [cJ h]
theorem Az {V':Nat->ByteArray} (C:bD l) (h:l[n]? = some r) (hr:r.o=false) (hV:∀ j,tX (bI l) j<tX (bI l) n->V j=V' j):∀ k,rv l inp V r k=rv l inp V' r k
 | 0=>rfl
 | k+1=>by
  have ih:=Az C h hr hV k;unfold rv;cases hx:r.g[k]? with
  | none=>exact ih
  | some x =>
   dsimp only;rw [ih];congr 2;unfold ud;obtain⟨_,⟨hc,_⟩|⟨hc,j,hj,e1,_⟩⟩:=qk C h hx (rv l inp V' r k)
   ·rw [if_pos hc,if_pos hc]
   ·rw [if_neg (by rw [hc]; simp),if_neg (by rw [hc]; simp),e1];exact hV _ (CU (by rw [nY h,hr]; simp) hj)
theorem Er {V':Nat->ByteArray} (C:bD l) {n0:Nat} (hV:∀ j,tX (bI l) j<tX (bI l) n0->V j=V' j) (h:RB l inp V n b):(bI l)[n]? = some true->tX (bI l) n<=tX (bI l) n0->RB l inp V' n b:=by
 induction h with
 | own h1 h2=>exact fun _ _=>.own h1 h2
 | @ask n b r x h1 h2 h3 h4 =>
  intro hr hn;obtain⟨k,O⟩:=ot.1 h2;have hrr:r.o=true:=by rw [nY h1] at hr; exact cJ hr
  have e:=Hl C h1 hrr O [];refine .ask h1 h2 h3 ?_;rw [<- h4];congr 3;unfold ud;obtain⟨_,⟨hc,_⟩|⟨hc,j,hj,e1,_⟩⟩:=qk C h1 O []
  ·rw [if_pos hc,if_pos hc]
  ·rw [if_neg (by rw [hc]; simp),if_neg (by rw [hc]; simp),e1];have e2:x.N.toNat=j:=by omega
   rw [hc,e2] at h3;have hp:(bI l)[j]? ≠ some true:=by rcases h3 with h3 | h3; cases h3; exact h3
   have:=Bq hr hj hp;exact (hV _ (by rw [show ((j:Nat):Int).toNat=j by omega,wr hp]; omega)).symm
 | @ring n b r x h1 h2 h3 h4 h5 ih =>
  intro hr hn;obtain⟨k,O⟩:=ot.1 h2;have hrr:r.o=true:=by rw [nY h1] at hr; exact cJ hr
  have e:=Hl C h1 hrr O [];refine .ring h1 h2 h3 h4 (ih h4 ?_);obtain⟨_,⟨hc,_⟩|⟨hc,j,hj,e1,_⟩⟩:=qk C h1 O []
  ·rw [h3] at hc; cases hc
  ·have e2:x.N.toNat=j:=by omega
   rw [e2] at h4 ⊢;have:=CZ hr hj h4;omega
theorem GH (C:bD l) (hn:n<l.length):Vd l inp n=IM l inp (Vd l inp) n:=by
 have hg:=cQ hn;have e:Vd l inp n=IM l inp (Wd l inp (tX (bI l) n)) n:=by
  show (if tX (bI l) n<tX (bI l) n then _ else _)=_;rw [if_neg (by omega)]
 rw [e];have hV:∀ j,tX (bI l) j<tX (bI l) n->Wd l inp (tX (bI l) n) j=Vd l inp j:=fun j hj=>ML l inp hj;unfold IM;rw [hg];dsimp only;cases hr:l[n].o with
 | false=>rw [if_neg (by simp),if_neg (by simp),Az C hg hr hV]
 | true =>
  rw [if_pos rfl,if_pos rfl];have hr2:(bI l)[n]? = some true:=by rw [nY hg,hr]
  have:∀ b,RB l inp (Wd l inp (tX (bI l) n)) n b↔RB l inp (Vd l inp) n b:=fun b =>
   ⟨fun h=>Er C hV h hr2 (bZ _),fun h=>Er C (fun j hj=>(hV j hj).symm) h hr2 (bZ _)⟩
  congr 3;funext b;rw [decide_eq_decide];exact this b
end
structure Dj (l:List aS) (inp:ae->ByteArray) (V:Nat->ByteArray):Prop where
 plain:∀ n r,l[n]? = some r->r.o=false->V n=db (vm r (rv l inp V r r.g.length))
 ring:∀ n r,l[n]? = some r->r.o=true->∃ u:Nat,V n=db u/\u<65536/\∀ b,u.testBit b=true↔RB l inp V n b
theorem BF {u:Nat} (h:u<65536) (ht:u.testBit b=true):b<16:=by
 rcases iz b 16 with h1 | h1
 ·exact h1
 ·have:2 ^ 16<=2 ^ b:=uQ (by omega) h1;rw [Eh (by have:2 ^ 16=65536:=rfl; omega)] at ht;cases ht
theorem OX {l:List aS} {inp:ae->ByteArray} (C:bD l) (h:RB l inp V n b):b<16:=by
 induction h with
 | own h1 h2 =>
  rename_i n b r;have hr:=C.each _ _ h1;refine BF ?_ h2;cases hg:r.o with
  | true=>have:=hr.ring hg; omega
  | false=>have:=hr.plain hg; omega
 | ask h1 h2 h3 h4 =>
  refine BF ?_ h4;rename_i x;have:=jt (ud l inp V x []);omega
 | ring _ _ _ _ _ ih=>exact ih
theorem Js {l:List aS} (inp:ae->ByteArray) (C:bD l):Dj l inp (Vd l inp):=by
 refine⟨fun n r h hr=>?_,fun n r h hr=>?_⟩
 ·rw [GH C (bg h)];unfold IM;rw [h];dsimp only;rw [if_neg (by rw [hr]; simp)]
 ·classical
  rw [GH C (bg h)];unfold IM;rw [h];dsimp only;rw [if_pos hr];refine⟨_,rfl,AG _ 16,fun b=>?_⟩;rw [AH,ri,decide_eq_true_eq,decide_eq_true_eq];exact⟨fun h=>h.2,fun h=>⟨OX C h,h⟩⟩
end
section
open Go.Lib hiding intOf
variable {a:Nat->Nat} {idx:List Nat} {list:List ae} {m memo memo':List (ae×ByteArray)} {n0:Nat}
theorem JM {a b:ae} (h:a≠b):aR a b=false:=by rw [<- Bool.not_eq_true]; exact fun e=>h ((pT a b).1 e)
theorem EZ (a:ae):aR a a=true:=(pT a a).2 rfl
theorem gS {ν:Type} (k:ae) (v:ν) (m:List (ae×ν)):dv aR k (fV aR k v m)=some v:=by rw [x9 pT,EZ]; rfl
theorem lA {ν:Type} {k k':ae} (h:k≠k') (v:ν) (m:List (ae×ν)):dv aR k (fV aR k' v m)=dv aR k m:=by rw [x9 pT,JM h]; rfl
def Gf (b:ar) (k:ae):be:=match b.i.find? (fun x=>iL x.d k) with | some x=>x | none=>⟨k,⟨#[]⟩,0⟩
theorem CX {b:ar} (hb:Rm b.i.length) (k:ae):pH b k=some (Gf b k):=by
 unfold Rm at hb;have key:loop (fun s:Int=>gW b k s) 0=some (match b.i.find? (fun x=>iL x.d k) with | some x=>Fl.out x | none=>Fl.go ()):=by
  rcases un (xs:=b.i) (B:=fun s:Int=>gW b k s) (fun x=>iL x.d k) (fun i=>(i:Int)) (s0:=0) rfl (y:=fun _ x=>Fl.out x) (n:=Fl.go ()) (fun i x hx hp=>by
   unfold gW;rw [iK hx,cond_true,bj,hx,ad,cL (by have:=bg hx; omega)];show cond (iL x.d k) _ _=_;rw [hp]; rfl) (fun i x hx hp=>by
   unfold gW;rw [iK hx,cond_true,bj,hx,ad];show cond (iL x.d k) _ _=_;rw [hp]; rfl) (by unfold gW; rw [bS]; rfl) with⟨i,x,h1,h2,h3,h4⟩|⟨h1,h2⟩
  ·rw [h4,G5 (p:=fun x=>iL x.d k) h1 h2 h3]
  ·rw [h2,FG.2 fun x hx=>by rw [h1 x hx]; simp]
 unfold pH;rw [key];unfold Gf;cases b.i.find? (fun x=>iL x.d k) <;> rfl
theorem G6 {b:ar} (hb:Rm b.i.length) (k:ae):ob b k=some (Gf b k).u:=by
 unfold ob;rw [CX hb]; rfl
theorem DG:db ((0:Nat):Int)=⟨#[48]⟩:=by
 unfold db;rw [oD];unfold decDigits;simp
def kC (m m':List (ae×ByteArray)):Prop:=∀ k v,dv aR k m=some v->dv aR k m'=some v
theorem kC.refl (m:List (ae×ByteArray)):kC m m:=fun _ _ h=>h
theorem kC.trans {a b c:List (ae×ByteArray)} (h:kC a b) (k:kC b c):kC a c:=fun x v e=>k x v (h x v e)
theorem kC.has {a b:List (ae×ByteArray)} (h:kC a b) {k:ae} (e:dv aR k a≠none):dv aR k b≠none:=by
 cases O:dv aR k a with
 | none=>exact absurd O e
 | some v=>rw [h k v O]; simp
structure tx (l:List aS) (V:Nat->ByteArray) (b:ar) (s:aw):Prop where
 rules:s.x=l
 base:s.b=b
 memo:∀ n,n<l.length->∀ v,dv aR (rk l n) s.f=some v->v=V n
 cell:∀ c,dv aR (gf c) s.f=none
section
variable {l:List aS} {V:Nat->ByteArray} {b:ar} {inp:ae->ByteArray}
theorem tx.put {s:aw} (h:tx l V b s) {n:Nat} (hn:n<l.length) (hl:l.length<=8):tx l V b ⟨s.x,s.b,fV aR (rk l n) (V n) s.f,s.n⟩/\kC s.f (fV aR (rk l n) (V n) s.f):=by
 refine⟨⟨h.rules,h.base,fun m hm v e=>?_,fun c=>?_⟩,fun k v e=>?_⟩
 ·by_cases O:m=n
  ·subst O;rw [gS] at e;exact (cJ e).symm
  ·rw [lA (fun e=>O (Br (by omega) (by omega) e))] at e;exact h.memo m hm v e
 ·rw [lA GQ];exact h.cell c
 ·by_cases O:k=rk l n
  ·subst O;rw [gS,h.memo n hn v e]
  ·rw [lA O,e]
def IT (l:List aS) (x:fh):Prop:=x.t1=true∨(bI l)[x.N.toNat]? ≠ some true
def wF (l:List aS) (V:Nat->ByteArray) (inp:ae->ByteArray) (memo0 memo:List (ae×ByteArray)) (idx:List Nat) (a:Nat->Nat) (x:fh) (v:ByteArray):Prop :=
 (IT l x/\v=ud l inp V x [])∨(¬ IT l x/\((dv aR (rk l x.N.toNat) memo≠none/\v=V x.N.toNat)∨(x.N.toNat∈idx/\v=db (a x.N.toNat:Nat)/\dv aR (rk l x.N.toNat) memo0=none)))
theorem wF.mono {memo0:List (ae×ByteArray)} {idx':List Nat} {x:fh} {v:ByteArray} (h:wF l V inp memo0 memo idx a x v) (hg:kC memo memo') (hi:∀ i∈idx,i∈idx'):wF l V inp memo0 memo' idx' a x v:=by
 rcases h with h | ⟨h0,⟨h1,h2⟩|⟨h1,h2,h3⟩⟩
 ·exact .inl h
 ·exact .inr ⟨h0,.inl ⟨hg.has h1,h2⟩⟩
 ·exact .inr ⟨h0,.inr ⟨hi _ h1,h2,h3⟩⟩
def Vw (l:List aS) (V:Nat->ByteArray) (inp:ae->ByteArray) (memo:List (ae×ByteArray)) (a:Nat->Nat) (x:fh) (q:Nat):Prop :=
 (IT l x/\(ia (ud l inp V x [])).toNat.testBit q=true)∨(¬ IT l x/\((dv aR (rk l x.N.toNat) memo≠none/\RB l inp V x.N.toNat q)∨(a x.N.toNat).testBit q=true))
def Fb (l:List aS) (V:Nat->ByteArray) (inp:ae->ByteArray) (memo:List (ae×ByteArray)) (a:Nat->Nat) (i q:Nat):Prop:=∃ r,l[i]? = some r/\(r.C.toNat.testBit q=true∨∃ x∈r.g,Vw l V inp memo a x q)
theorem Fb.mono {a':Nat->Nat} {i q:Nat} (h:Fb l V inp memo a i q) (hg:kC memo memo') (ha:∀ j q,(a j).testBit q=true->(a' j).testBit q=true):Fb l V inp memo' a' i q:=by
 obtain⟨r,h1,h2 | ⟨x,h2,h3⟩⟩:=h
 ·exact⟨r,h1,.inl h2⟩
 ·refine⟨r,h1,.inr ⟨x,h2,?_⟩⟩;rcases h3 with h3 | ⟨h0,⟨h3,h4⟩ | h3⟩
  ·exact .inl h3
  ·exact .inr ⟨h0,.inl ⟨hg.has h3,h4⟩⟩
  ·exact .inr ⟨h0,.inr (ha _ _ h3)⟩
structure zV (l:List aS) (V:Nat->ByteArray) (inp:ae->ByteArray) (n0:Nat) (memo:List (ae×ByteArray)) (m:List (ae×ByteArray)) (list:List ae) (idx:List Nat) (a:Nat->Nat):Prop where
 eq:list=idx.map (rk l)
 nd:idx.Nodup
 ring:∀ i∈idx,i<l.length/\(bI l)[i]? = some true/\tX (bI l) i<=tX (bI l) n0
 head:n0∈idx
 get:∀ i,i<l.length->dv aR (rk l i) m=if i∈idx then some (db (a i:Nat)) else none
 zero:∀ i,i ∉ idx->a i=0
 lt:∀ i,a i<65536
 le:∀ i q,(a i).testBit q=true->RB l inp V i q
 up:∀ i∈idx,∀ q,(a i).testBit q=true->Fb l V inp memo a i q
theorem J2 (hn:idx.Nodup) {N:Nat} (h:∀ i∈idx,i<N):idx.length<=N:=by
 have:=pC hn (m:=List.range N) fun x hx=>Dg.2 (h x hx);rwa [List.length_range] at this
theorem zV.len (h:zV l V inp n0 memo m list idx a):list.length=idx.length/\idx.length<=l.length :=
 ⟨by rw [h.eq,pq],J2 h.nd fun i hi=>(h.ring i hi).1⟩
theorem zV.grow (h:zV l V inp n0 memo m list idx a) (hg:kC memo memo'):zV l V inp n0 memo' m list idx a :=
 ⟨h.eq,h.nd,h.ring,h.head,h.get,h.zero,h.lt,h.le,fun i hi q hq=>(h.up i hi q hq).mono hg fun _ _ e=>e⟩
theorem zV.add (h:zV l V inp n0 memo m list idx a) (hl:l.length<=8) {j:Nat} (hj:j<l.length) (hr:(bI l)[j]? = some true) (O:tX (bI l) j<=tX (bI l) n0) (hn:j ∉ idx) :
  zV l V inp n0 memo (fV aR (rk l j) ⟨#[48]⟩ m) (list++[rk l j]) (idx++[j]) a:=by
 refine⟨by rw [h.eq,BS]; rfl,?_,?_,mD _ h.head,?_,fun i hi=>h.zero i fun e=>hi (mD _ e),h.lt,h.le,?_⟩
 ·rw [List.nodup_append];exact⟨h.nd,by simp,fun x hx y hy=>by rw [eU.1 hy]; exact fun e=>hn (e▸hx)⟩
 ·intro i hi;rcases de.1 hi with hi | hi
  ·exact h.ring i hi
  ·rw [eU.1 hi]; exact⟨hj,hr,O⟩
 ·intro i hi;by_cases e:i=j
  ·subst e;rw [gS,if_pos (vW _ (eU.2 rfl)),h.zero i hn,DG]
  ·rw [lA (fun e2=>e (Br (by omega) (by omega) e2)),h.get i hi];have:(i∈idx++[j])↔i∈idx:=by rw [de,eU]; exact⟨fun h=>h.resolve_right e,.inl⟩
   simp only [this]
 ·intro i hi q hq;rcases de.1 hi with hi | hi
  ·exact h.up i hi q hq
  ·rw [eU.1 hi,h.zero j hn] at hq;simp at hq
end
end
section
open Go.Lib hiding intOf
theorem ER:∀ (xs:List Nat) (c q:Nat),(xs.foldl (· ||| ·) c).testBit q=true↔c.testBit q=true∨∃ x∈xs,x.testBit q=true
 | [],c,q=>by simp
 | x::xs,c,q=>by
  rw [FH,ER xs (c ||| x) q,Nat.testBit_or,yD];simp only [dC];constructor
  ·rintro ((h | h) | ⟨y,h1,h2⟩)
   ·exact .inl h
   ·exact .inr ⟨x,.inl rfl,h⟩
   ·exact .inr ⟨y,.inr h1,h2⟩
  ·rintro (h | ⟨y,rfl | h1,h2⟩)
   ·exact .inl (.inl h)
   ·exact .inl (.inr h2)
   ·exact .inr ⟨y,h1,h2⟩
section
variable {l:List aS} {V:Nat->ByteArray} {b:ar} {inp:ae->ByteArray}
theorem Jy (C:bD l) {n:Nat} {r:aS} (h:l[n]? = some r) (hr:r.o=true) (ls:List ByteArray) :
  ∃ m:Nat,vm r ls=m/\m<65536/\∀ q,m.testBit q=true↔r.C.toNat.testBit q=true∨∃ v∈ls,(ia v).toNat.testBit q=true:=by
 obtain⟨h1,h2,h3⟩:=(C.each n r h).ring hr;obtain⟨c,hc⟩:∃ c:Nat,r.C=c:=⟨r.C.toNat,by omega⟩;have e:ls.map ia=(ls.map fun s=>(ia s).toNat).map fun x:Nat=>(x:Int):=by
  rw [zU];refine HT fun s _=>?_;have:=jt s;simp only [Function.comp];omega
 have:=DE (ls.map fun s=>(ia s).toNat) c (fun x hx=>by
  obtain⟨s,_,rfl⟩:=jw.1 hx;have:=jt s;omega) (by omega)
 refine⟨(ls.map fun s=>(ia s).toNat).foldl (· ||| ·) c,?_,this.2,fun q=>?_⟩
 ·unfold vm;dsimp only;rw [if_neg (by omega),if_neg (by omega),if_neg (by omega),if_neg (by omega),e,hc];exact this.1
 ·rw [ER,hc];rw [show ((c:Nat):Int).toNat=c from s3 c];refine or_congr Iff.rfl ⟨fun ⟨x,hx,hq⟩=>?_,fun ⟨v,hv,hq⟩=>⟨_,jw.2 ⟨v,hv,rfl⟩,hq⟩⟩;obtain⟨v,hv,rfl⟩:=jw.1 hx;exact⟨v,hv,hq⟩
def OV (l:List aS) (V:Nat->ByteArray) (b:ar) (inp:ae->ByteArray) (n0:Nat) (a:Nat->Nat) (i:Nat) (r:aS) (memo0:List (ae×ByteArray)) (idx0:List Nat) (ch0:Bool) (k:Nat) :
  (List (ae×ByteArray))×(List ae)×Bool×(List ByteArray)×(List aS)×Int×(List be)×(List aA)×(List (ae×ByteArray))×(List (ae×(List ae)))×Bool×ByteArray×Int×ByteArray->Prop
 | (m,list,ch,ws,rules,rev,inps,recs,memo,seen,d,v,ak,at_) =>
  ∃ (idx:List Nat),zV l V inp n0 memo m list idx a/\tx l V b (aw.mk rules (ar.mk rev inps recs) memo seen)/\kC memo0 memo/\idx0 <+: idx/\((ch=ch0/\idx=idx0)∨(ch=true/\idx0.length<idx.length)) /\
   ws.length=k/\(∀ q x,q<k->r.g[q]? = some x->∃ v,ws[q]? = some v/\wF l V inp memo0 memo idx a x v)/\eN l (rk l i) ws=some ⟨d,v,⟨ak,at_⟩⟩
def IV (l:List aS) (V:Nat->ByteArray) (b:ar) (inp:ae->ByteArray) (n0:Nat) (a:Nat->Nat) (i:Nat) (r:aS) (memo0:List (ae×ByteArray)) (idx0:List Nat) (ch0:Bool) :
  (List (ae×ByteArray))×(List ae)×Bool×(List aS)×Int×(List be)×(List aA)×(List (ae×ByteArray))×(List (ae×(List ae)))×Bool×ByteArray×Int×ByteArray->Prop
 | (m,list,ch,rules,rev,inps,recs,memo,seen,d,v,ak,at_) =>
  ∃ (idx:List Nat) (ws:List ByteArray),zV l V inp n0 memo m list idx a/\tx l V b (aw.mk rules (ar.mk rev inps recs) memo seen)/\kC memo0 memo/\idx0 <+: idx/\((ch=ch0/\idx=idx0)∨(ch=true/\idx0.length<idx.length)) /\
   ws.length=r.g.length/\(∀ (q:Nat) (x:fh),r.g[q]? = some x->∃ (w:ByteArray),ws[q]? = some w/\wF l V inp memo0 memo idx a x w)/\v=db (vm r ws)
section
variable {n0:Nat} {a:Nat->Nat} {i p:Nat} {r:aS} {memo0:List (ae×ByteArray)} {idx0:List Nat} {ch0:Bool} (C:bD l) (hi:l[i]? = some r) (hr:r.o=true) (hp:idx0[p]? = some i)
include C hi
theorem wx {ws:List ByteArray} (h:ws.length<=r.g.length):∃ t,eN l (rk l i) ws=some t/\((ws.length=r.g.length/\t=⟨true,db (vm r ws),⟨0,⟨#[]⟩⟩⟩)∨∃ x,r.g[ws.length]? = some x/\t=⟨false,⟨#[]⟩,tE l x ws⟩):=by
 rcases iz ws.length r.g.length with h1 | h1
 ·exact⟨_,BG C hi (cQ h1),.inr ⟨_,cQ h1,rfl⟩⟩
 ·exact⟨_,zh C hi h1,.inl ⟨by omega,by rw [zk (by omega)]⟩⟩
include hp
theorem Qd {k:Nat} {m:List (ae×ByteArray)} {list:List ae} {ch:Bool} {ws:List ByteArray} {rules:List aS} {rev:Int} {inps:List be} {recs:List aA} {memo:List (ae×ByteArray)} {seen:List (ae×(List ae))} {idx:List Nat} {x:fh} {v:ByteArray}
  (h1:zV l V inp n0 memo m list idx a) (h2:tx l V b (aw.mk rules (ar.mk rev inps recs) memo seen)) (h3:kC memo0 memo) (h4:idx0 <+: idx) (h5:(ch=ch0/\idx=idx0)∨(ch=true/\idx0.length<idx.length))
  (h6:ws.length=k) (h7:∀ q x,q<k->r.g[q]? = some x->∃ v,ws[q]? = some v/\wF l V inp memo0 memo idx a x v) (hx:r.g[k]? = some x) (hv:wF l V inp memo0 memo idx a x v) :
  Ok (dc p ws m list ch v rules rev inps recs memo seen) fun y=>match y with
   | .go s'=>k<r.g.length/\OV l V b inp n0 a i r memo0 idx0 ch0 (k+1) s'
   | .out y=>IV l V b inp n0 a i r memo0 idx0 ch0 y:=by
 have O:=bg hx;have h3l:=(C.each i r hi).asks;obtain⟨t,ht,_⟩:=wx C hi (ws:=ws++[v]) (by rw [bm,h6]; simp; omega);have hlist:bG list (p:Int)=some (rk l i):=by
  obtain⟨u,rfl⟩:=h4;rw [bj,h1.eq,ro,pp (bg hp),hp]; rfl
 have hru:rules=l:=h2.rules;unfold dc;refine bO (dJ (by simp; omega)) (aI hlist (aI (by rw [hru]; exact ht) (ah ⟨O,idx,h1,h2,h3,h4,h5,by rw [bm,h6]; rfl,fun q y hq hy=>?_,ht⟩)));rcases iz q k with h | h
 ·obtain⟨w,hw1,hw2⟩:=h7 q y h hy;exact⟨w,by rw [pp (bg hw1)]; exact hw1,hw2⟩
 ·obtain rfl:q=k:=by omega
  rw [hx] at hy;obtain rfl:=cJ hy;exact⟨v,by rw [sL (by omega),h6]; simp,hv⟩
end
end
end
section
open Go.Lib hiding intOf
structure NJ (l:List aS) (V:Nat->ByteArray) (b:ar) (inp:ae->ByteArray) (ρ:Nat) (vrec:aw->ae->Option (ByteArray×aw)):Prop where
 rule:∀ s n,tx l V b s->n<l.length->tX (bI l) n<ρ->Ok (vrec s (rk l n)) fun y=>y.1=V n/\tx l V b y.2/\kC s.f y.2.f
 cell:∀ s c,tx l V b s->c<10->Ok (vrec s (gf c)) fun y=>y.1=inp (gf c)/\y.2=s
section
variable {l:List aS} {V:Nat->ByteArray} {b:ar} {inp:ae->ByteArray} {vrec:aw->ae->Option (ByteArray×aw)}
variable {n0:Nat} {a:Nat->Nat} {i p:Nat} {r:aS} {memo0:List (ae×ByteArray)} {idx0:List Nat} {ch0:Bool} (C:bD l) (hv:NJ l V b inp (tX (bI l) n0) vrec) (hi:l[i]? = some r) (hr:r.o=true) (hp:idx0[p]? = some i)
include C hv hi hr hp
theorem Qh {k:Nat} (O:k<=r.g.length):∀ s,OV l V b inp n0 a i r memo0 idx0 ch0 k s->Ok (ep vrec p s.1 s.2.1 s.2.2.1 s.2.2.2.1 s.2.2.2.2.1 s.2.2.2.2.2.1 s.2.2.2.2.2.2.1 s.2.2.2.2.2.2.2.1 s.2.2.2.2.2.2.2.2.1 s.2.2.2.2.2.2.2.2.2.1 s.2.2.2.2.2.2.2.2.2.2.1 s.2.2.2.2.2.2.2.2.2.2.2.1 s.2.2.2.2.2.2.2.2.2.2.2.2.1 s.2.2.2.2.2.2.2.2.2.2.2.2.2) fun y=>match y with
   | .go s'=>k<r.g.length/\OV l V b inp n0 a i r memo0 idx0 ch0 (k+1) s'
   | .out y=>IV l V b inp n0 a i r memo0 idx0 ch0 y:=by
 rintro⟨m,list,ch,ws,rules,rev,inps,recs,memo,seen,d,v,ak,at_⟩ ⟨idx,h1,h2,h3,h4,h5,h6,h7,h8⟩;dsimp only;have hl8:=C.high;obtain⟨t,ht,hcase⟩:=wx C hi (ws:=ws) (by omega);rw [h8] at ht;obtain rfl:=cJ ht;have hiI:i∈idx:=h4.subset (aK hp);unfold ep;rcases hcase with⟨e1,e2⟩|⟨x,hx,e2⟩
 ·injection e2 with ed ev ea;subst ed;simp only [eT,cond_false];exact ah ⟨idx,ws,h1,h2,h3,h4,h5,e1,fun q x hx=>h7 q x (by have:=bg hx; omega) hx,ev⟩
 ·injection e2 with ed ev ea;subst ed;rw [h6] at hx;have n1:=Hl C hi hr hx ws;have n2:=Hl C hi hr hx [];obtain⟨g0,hg⟩:=qk C hi hx ws;simp only [jj,cond_true,ad];rw [ea];have done:∀ {m list ch rules rev inps recs memo seen} {idx:List Nat} {w:ByteArray},zV l V inp n0 memo m list idx a->tx l V b (aw.mk rules (ar.mk rev inps recs) memo seen)->kC memo0 memo->idx0 <+: idx->((ch=ch0/\idx=idx0)∨(ch=true/\idx0.length<idx.length)) ->
    (∀ q x,q<k->r.g[q]? = some x->∃ v,ws[q]? = some v/\wF l V inp memo0 memo idx a x v)->wF l V inp memo0 memo idx a x w->Ok (dc p ws m list ch w rules rev inps recs memo seen) fun y=>match y with
   | .go s'=>k<r.g.length/\OV l V b inp n0 a i r memo0 idx0 ch0 (k+1) s'
   | .out y=>IV l V b inp n0 a i r memo0 idx0 ch0 y:=fun q1 q2 q3 q4 q5 q6 q7=>Qd C hi hp q1 q2 q3 q4 q5 h6 q6 hx q7
  rcases hg with⟨hc,c,hc4,e3,e4⟩|⟨hc,j,hj,e3,e4⟩
  ·have hB:IT l x:=.inl hc;have U:ud l inp V x []=inp (gf c):=by
    unfold ud tE;rw [if_pos hc,if_pos hc,n2,<- n1,e3]; rfl
   rw [e4,h2.cell c];simp only [Option.isSome_none,cond_false];refine aI (hU _) ?_;rw [H8];simp only [jj,cond_true];refine au (hv.cell _ c h2 hc4) fun y hy=>?_;obtain⟨y1,y2⟩:=y;obtain⟨f1,f2⟩:=hy;simp only at f1 f2;subst f1 f2;exact done h1 h2 h3 h4 h5 h7 (.inl ⟨hB,U.symm⟩)
  ·have hll:=A9 (bg hi);have hjl:j<l.length:=by omega
   have hxj:x.N.toNat=j:=by omega
   have hri:(bI l)[i]? = some true:=by rw [nY hi,hr]
   have hio:=h1.ring i hiI;rw [e4];cases hm:dv aR (rk l j) memo with
   | some w =>
    have hw:=h2.memo j hjl w hm;simp only [Option.isSome_some,cond_true,zw];refine done h1 h2 h3 h4 h5 h7 ?_;by_cases hB:IT l x
    ·refine .inl ⟨hB,?_⟩;unfold ud;rw [if_neg (by rw [hc]; simp),n2,hxj,hw]
    ·exact .inr ⟨hB,.inl ⟨by rw [hxj,hm]; simp,by rw [hxj,hw]⟩⟩
   | none =>
    simp only [Option.isSome_none,cond_false];refine aI (hU _) ?_;rw [Hm];by_cases hrj:(bI l)[j]? = some true
    ·have hB:¬ IT l x:=by
      rintro (h | h)
      ·rw [hc] at h; cases h
      ·rw [hxj] at h; exact h hrj
     have hm0:dv aR (rk l x.N.toNat) memo0=none:=by
      rw [hxj];cases h0:dv aR (rk l j) memo0 with
      | none=>rfl
      | some w=>rw [h3 _ _ h0] at hm; cases hm
     rw [decide_eq_true hrj];simp only [eT,cond_false];have hg:=h1.get j hjl;by_cases hjI:j∈idx
     ·rw [if_pos hjI] at hg;rw [hg];simp only [Option.isSome_some,eT,cond_false];unfold eo;rw [ea,e4,hg];exact done h1 h2 h3 h4 h5 h7 (.inr ⟨hB,.inr ⟨by rw [hxj]; exact hjI,by rw [hxj]; rfl,hm0⟩⟩)
     ·rw [if_neg hjI] at hg;rw [hg];simp only [Option.isSome_none,jj,cond_true];have hL:kh (rk l j)=some ⟨#[48]⟩:=by
       unfold kh;rcases rH (l:=l) (n:=j) with⟨_,h⟩|⟨h,_⟩
       ·exact absurd hrj h
       ·rw [h]; rfl
      have hadd:=h1.add hl8 hjl hrj (by have:=CZ hri hj hrj; omega) hjI;have hlen:=h1.len;refine aI hL (bO (dJ (by simp; omega)) ?_);unfold eo;rw [ea,e4,gS];refine done hadd h2 h3 (h4.trans (List.prefix_append _ _)) (.inr ⟨rfl,?_⟩) (fun q y hq hy=>?_) (.inr ⟨hB,.inr ⟨by rw [hxj]; exact vW _ (eU.2 rfl),?_,hm0⟩⟩)
      ·have:=h4.length_le;rw [bm]; simp; omega
      ·obtain⟨w,q1,q2⟩:=h7 q y hq hy;exact⟨w,q1,q2.mono (kC.refl _) fun _ h=>mD _ h⟩
      ·rw [hxj,h1.zero j hjI,DG]; rfl
    ·have hB:IT l x:=.inr (by rw [hxj]; exact hrj);have U:ud l inp V x []=V j:=by
      unfold ud;rw [if_neg (by rw [hc]; simp),n2,hxj]
     rw [decide_eq_false hrj];simp only [jj,cond_true];have hlow:=Bq hri hj hrj;refine au (hv.rule _ j h2 hjl (by rw [wr hrj]; omega)) fun y hy=>?_;obtain⟨f1,f2,f3⟩:=hy;exact done (h1.grow f3) f2 (h3.trans f3) h4 h5 (fun q y hq hy=>by
      obtain⟨w,q1,q2⟩:=h7 q y hq hy;exact⟨w,q1,q2.mono f3 fun _ h=>h⟩) (.inl ⟨hB,by rw [U,f1]⟩)
theorem KT {m:List (ae×ByteArray)} {list:List ae} {rules:List aS} {rev:Int} {inps:List be} {recs:List aA} {seen:List (ae×(List ae))} (h1:zV l V inp n0 memo0 m list idx0 a) (h2:tx l V b (aw.mk rules (ar.mk rev inps recs) memo0 seen)) {t:tD} (ht:eN l (rk l i) []=some t) {β:Type} {R:β->Prop} {g:_->Option β} (hg:∀ y,IV l V b inp n0 a i r memo0 idx0 ch0 y->Ok (g y) R) :
  Ok ((loop (fun s:(List (ae×ByteArray))×(List ae)×Bool×(List ByteArray)×(List aS)×Int×(List be)×(List aA)×(List (ae×ByteArray))×(List (ae×(List ae)))×Bool×ByteArray×Int×ByteArray=>ep vrec p s.1 s.2.1 s.2.2.1 s.2.2.2.1 s.2.2.2.2.1 s.2.2.2.2.2.1 s.2.2.2.2.2.2.1 s.2.2.2.2.2.2.2.1 s.2.2.2.2.2.2.2.2.1 s.2.2.2.2.2.2.2.2.2.1 s.2.2.2.2.2.2.2.2.2.2.1 s.2.2.2.2.2.2.2.2.2.2.2.1 s.2.2.2.2.2.2.2.2.2.2.2.2.1 s.2.2.2.2.2.2.2.2.2.2.2.2.2) (m,list,ch0,[],rules,rev,inps,recs,memo0,seen,t.a1,t.u,t.l1.k,t.l1.t)).bind g) R:=by
 refine bP (OV l V b inp n0 a i r memo0 idx0 ch0) (IV l V b inp n0 a i r memo0 idx0 ch0) r.g.length ?_ (fun k s O hI=>(Qh C hv hi hr hp O s hI).mono fun y hy=>by cases y <;> exact hy) hg;exact⟨idx0,h1,h2,kC.refl _,List.prefix_refl _,.inl ⟨rfl,rfl⟩,rfl,fun q x hq=>absurd hq (by omega),ht⟩
end
end
section
open Go.Lib hiding intOf
def ze (a:Nat->Nat):Nat->Nat
 | 0=>0
 | n+1=>ze a n+a n
theorem Hx {a a':Nat->Nat} (h:∀ j,a j<=a' j):∀ n,ze a n<=ze a' n
 | 0=>bZ _
 | n+1=>Nat.add_le_add (Hx h n) (h n)
theorem Hy {a a':Nat->Nat} (h:∀ j,a j<=a' j) {i:Nat} (hi:a i<a' i):∀ n,i<n->ze a n<ze a' n
 | 0,h0=>absurd h0 (by omega)
 | n+1,h0=>by
  have h1:=h n;have h2:=Hx h n;show ze a n+a n<ze a' n+a' n;rcases iz i n with h3 | h3
  ·have:=Hy h hi n h3; omega
  ·obtain rfl:i=n:=by omega
   omega
theorem BE {a:Nat->Nat} (h:∀ j,a j<65536):∀ n,ze a n<=n*65536
 | 0=>by simp [ze]
 | n+1=>by
  have:=BE h n;have:=h n;show ze a n+a n<=_;omega
theorem Ls {a m:Nat} (h:∀ q,a.testBit q=true->m.testBit q=true):a<=m:=by
 have:a &&& m=a:=by
  apply Nat.eq_of_testBit_eq;intro q;rw [Nat.testBit_and];cases ha:a.testBit q with
  | false=>rfl
  | true=>rw [h q ha]; rfl
 rw [<- this];exact Nat.and_le_right
section
variable {l:List aS} {V:Nat->ByteArray} {b:ar} {inp:ae->ByteArray} {vrec:aw->ae->Option (ByteArray×aw)}
def ZY (l:List aS) (V:Nat->ByteArray) (inp:ae->ByteArray) (idx:List Nat) (a:Nat->Nat) (i:Nat):Prop :=
 ∃ r,l[i]? = some r/\(∀ q,r.C.toNat.testBit q=true->(a i).testBit q=true)/\∀ x∈r.g,(IT l x->∀ q,(ia (ud l inp V x [])).toNat.testBit q=true->(a i).testBit q=true) /\
  (¬ IT l x->(∀ q,RB l inp V x.N.toNat q->(a i).testBit q=true)∨(x.N.toNat∈idx/\∀ q,(a x.N.toNat).testBit q=true->(a i).testBit q=true))
theorem Ga {idx:List Nat} {a:Nat->Nat} (hc:∀ i∈idx,ZY l V inp idx a i) {i q:Nat} (h:RB l inp V i q):i∈idx->(a i).testBit q=true:=by
 induction h with
 | own h1 h2 =>
  intro hi;obtain⟨r,g1,g2,g3⟩:=hc _ hi;rw [h1] at g1;obtain rfl:=cJ g1;exact g2 _ h2
 | ask h1 h2 h3 h4 =>
  intro hi;obtain⟨r,g1,g2,g3⟩:=hc _ hi;rw [h1] at g1;obtain rfl:=cJ g1;exact (g3 _ h2).1 h3 _ h4
 | ring h1 h2 h3 h4 h5 ih =>
  intro hi;obtain⟨r,g1,g2,g3⟩:=hc _ hi;rw [h1] at g1;obtain rfl:=cJ g1;rcases (g3 _ h2).2 (by rintro (h | h); rw [h3] at h; cases h; exact h h4) with h | ⟨h,k⟩
  ·exact h _ h5
  ·exact k _ (ih h)
theorem xR (C:bD l) (hD:Dj l inp V) {j:Nat} (hj:(bI l)[j]? = some true):∃ u:Nat,V j=db u/\u<65536/\(ia (V j)).toNat=u/\∀ q,u.testBit q=true↔RB l inp V j q:=by
 have hl:j<l.length:=by have:=bg hj; unfold bI at this; rwa [pq] at this
 have hg:=cQ hl;obtain⟨u,h1,h2,h3⟩:=hD.ring j l[j] hg (by rw [qO hl] at hj; exact cJ hj);exact⟨u,h1,h2,by rw [h1,yz h2]; omega,h3⟩
theorem BK {n:Nat} (h:n<65536):(ia (db (n:Int))).toNat=n:=by rw [yz h]; omega
theorem Gm {x:fh} (h:¬ IT l x):x.t1=false/\(bI l)[x.N.toNat]? = some true:=by
 constructor
 ·cases hc:x.t1 with
  | false=>rfl
  | true=>exact absurd (.inl hc) h
 ·exact HM fun e=>h (.inr e)
theorem zV.set {n0:Nat} {memo m:List (ae×ByteArray)} {list:List ae} {idx:List Nat} {a:Nat->Nat} (h:zV l V inp n0 memo m list idx a) (hl:l.length<=8) {i u:Nat} (hi:i∈idx) (hu:u<65536) (hlow:∀ q,(a i).testBit q=true->u.testBit q=true) (hRB:∀ q,u.testBit q=true->RB l inp V i q) (hF:∀ q,u.testBit q=true->Fb l V inp memo a i q) :
  zV l V inp n0 memo (fV aR (rk l i) (db (u:Int)) m) list idx (fun j=>if j=i then u else a j):=by
 have hmono:∀ j q,(a j).testBit q=true->(if j=i then u else a j).testBit q=true:=by
  intro j q hq;by_cases e:j=i
  ·rw [if_pos e]; rw [e] at hq; exact hlow q hq
  ·rw [if_neg e]; exact hq
 refine⟨h.eq,h.nd,h.ring,h.head,fun j hj=>?_,fun j hj=>?_,fun j=>?_,fun j q hq=>?_,fun j hj q hq=>?_⟩
 ·by_cases e:j=i
  ·subst e;rw [gS,if_pos hi,if_pos rfl]
  ·rw [lA (fun e2=>e (Br (by omega) (by have:=(h.ring i hi).1; omega) e2)),h.get j hj];simp only [if_neg e]
 ·have:j≠i:=fun e=>hj (e▸hi);show (if j=i then u else a j)=0;rw [if_neg this]; exact h.zero j hj
 ·show (if j=i then u else a j)<65536;split
  ·exact hu
  ·exact h.lt j
 ·by_cases e:j=i
  ·rw [if_pos e] at hq; rw [e]; exact hRB q hq
  ·rw [if_neg e] at hq; exact h.le j q hq
 ·by_cases e:j=i
  ·rw [if_pos e] at hq; rw [e]; exact (hF q hq).mono (kC.refl _) hmono
  ·rw [if_neg e] at hq; exact (h.up j hj q hq).mono (kC.refl _) hmono
section
variable {n0:Nat} {a:Nat->Nat} {i:Nat} {r:aS} {memo0 memo m m0:List (ae×ByteArray)} {idx0 idx:List Nat} {list list0:List ae} {ws:List ByteArray} {u:Nat} (C:bD l) (hD:Dj l inp V) (hi:l[i]? = some r) (hr:r.o=true)
 (h0:zV l V inp n0 memo0 m0 list0 idx0 a) (h1:zV l V inp n0 memo m list idx a) (hiI:i∈idx0) (hlen:ws.length=r.g.length) (hans:∀ (q:Nat) (x:fh),r.g[q]? = some x->∃ (w:ByteArray),ws[q]? = some w/\wF l V inp memo0 memo idx a x w)
 (hu:∀ q,u.testBit q=true↔r.C.toNat.testBit q=true∨∃ v∈ws,(ia v).toNat.testBit q=true)
include C hD hi h0 h1 hiI hlen hans hu
omit hlen in
theorem L8 (q:Nat) (hq:(a i).testBit q=true):u.testBit q=true:=by
 obtain⟨r',g1,g2⟩:=h0.up i hiI q hq;rw [hi] at g1;obtain rfl:=cJ g1;rcases g2 with g2 | ⟨x,g2,g3⟩
 ·exact (hu q).2 (.inl g2)
 ·obtain⟨k,O⟩:=ot.1 g2;obtain⟨w,w1,w2⟩:=hans k x O;refine (hu q).2 (.inr ⟨w,aK w1,?_⟩);rcases w2 with⟨w2,rfl⟩|⟨w2,w3⟩
  ·rcases g3 with⟨_,g3⟩|⟨g3,_⟩
   ·exact g3
   ·exact absurd w2 g3
  ·obtain⟨u',d1,d2,d3,d4⟩:=xR C hD (Gm w2).2;rcases g3 with⟨g3,_⟩|⟨_,g3⟩
   ·exact absurd g3 w2
   ·rcases w3 with⟨_,rfl⟩|⟨_,rfl,w5⟩
    ·rw [d3,d4];rcases g3 with⟨_,g3⟩ | g3
     ·exact g3
     ·exact h1.le _ _ g3
    ·rw [BK (h1.lt _)];rcases g3 with⟨g3,_⟩ | g3
     ·exact absurd w5 g3
     ·exact g3
omit h0 hiI in
theorem Od (q:Nat) (hq:u.testBit q=true):RB l inp V i q/\Fb l V inp memo a i q:=by
 rcases (hu q).1 hq with g | ⟨w,g1,g2⟩
 ·exact⟨.own hi g,r,hi,.inl g⟩
 ·obtain⟨k,O⟩:=ot.1 g1;have hk2:=bg O;have hx:=cQ (l:=r.g) (i:=k) (by omega);obtain⟨w',w1,w2⟩:=hans k _ hx;rw [O] at w1;obtain rfl:=cJ w1;have hm:=aK hx;rcases w2 with⟨w2,rfl⟩|⟨w2,w3⟩
  ·exact⟨.ask hi hm w2 g2,r,hi,.inr ⟨_,hm,.inl ⟨w2,g2⟩⟩⟩
  ·obtain⟨u',d1,d2,d3,d4⟩:=xR C hD (Gm w2).2;rcases w3 with⟨w3,rfl⟩|⟨_,rfl,w5⟩
   ·rw [d3,d4] at g2;exact⟨.ring hi hm (Gm w2).1 (Gm w2).2 g2,r,hi,.inr ⟨_,hm,.inr ⟨w2,.inl ⟨w3,g2⟩⟩⟩⟩
   ·rw [BK (h1.lt _)] at g2;exact⟨.ring hi hm (Gm w2).1 (Gm w2).2 (h1.le _ _ g2),r,hi,.inr ⟨_,hm,.inr ⟨w2,.inr g2⟩⟩⟩
omit h0 hiI hlen in
theorem Oc (hau:a i=u):ZY l V inp idx a i:=by
 refine⟨r,hi,fun q hq=>?_,fun x hx=>?_⟩
 ·rw [hau]; exact (hu q).2 (.inl hq)
 ·obtain⟨k,O⟩:=ot.1 hx;obtain⟨w,w1,w2⟩:=hans k x O;have hw:∀ q,(ia w).toNat.testBit q=true->(a i).testBit q=true:=fun q hq=>by
   rw [hau]; exact (hu q).2 (.inr ⟨w,aK w1,hq⟩)
  rcases w2 with⟨w2,rfl⟩|⟨w2,w3⟩
  ·exact⟨fun _ q hq=>hw q hq,fun h=>absurd w2 h⟩
  ·obtain⟨u',d1,d2,d3,d4⟩:=xR C hD (Gm w2).2;refine⟨fun h=>absurd h w2,fun _=>?_⟩;rcases w3 with⟨_,rfl⟩|⟨w3,rfl,_⟩
   ·exact .inl fun q hq=>hw q (by rw [d3,d4]; exact hq)
   ·exact .inr ⟨w3,fun q hq=>hw q (by rw [BK (h1.lt _)]; exact hq)⟩
end
end
end
section
open Go.Lib hiding intOf
section
variable {l:List aS} {V:Nat->ByteArray} {b:ar} {inp:ae->ByteArray} {vrec:aw->ae->Option (ByteArray×aw)}
def mu (l:List aS) (idx:List Nat) (a:Nat->Nat):Nat:=idx.length+ze a l.length
def Jm (l:List aS) (V:Nat->ByteArray) (b:ar) (inp:ae->ByteArray) (n0:Nat) (memo1:List (ae×ByteArray)) (idx1:List Nat) (a1:Nat->Nat) (k:Nat) :
  (List (ae×ByteArray))×(List ae)×Bool×Int×(List aS)×Int×(List be)×(List aA)×(List (ae×ByteArray))×(List (ae×(List ae)))->Prop
 | (m,list,ch,p,rules,rev,inps,recs,memo,seen) =>
  ∃ (idx:List Nat) (a:Nat->Nat),p=(k:Int)/\k<=idx.length/\zV l V inp n0 memo m list idx a/\tx l V b (aw.mk rules (ar.mk rev inps recs) memo seen)/\kC memo1 memo /\
   ((ch=false/\idx=idx1/\a=a1/\∀ (q i:Nat),q<k->idx[q]? = some i->ZY l V inp idx a i)∨(ch=true/\mu l idx1 a1<mu l idx a))
def Jo (l:List aS) (V:Nat->ByteArray) (b:ar) (inp:ae->ByteArray) (n0:Nat) (memo1:List (ae×ByteArray)) (idx1:List Nat) (a1:Nat->Nat) :
  (List (ae×ByteArray))×(List ae)×Bool×(List aS)×Int×(List be)×(List aA)×(List (ae×ByteArray))×(List (ae×(List ae)))->Prop
 | (m,list,ch,rules,rev,inps,recs,memo,seen) =>
  ∃ (idx:List Nat) (a:Nat->Nat),zV l V inp n0 memo m list idx a/\tx l V b (aw.mk rules (ar.mk rev inps recs) memo seen)/\kC memo1 memo /\
   ((ch=false/\∀ i∈idx,ZY l V inp idx a i)∨(ch=true/\mu l idx1 a1<mu l idx a))
section
variable {n0:Nat} {memo1:List (ae×ByteArray)} {idx1:List Nat} {a1:Nat->Nat} (C:bD l) (hD:Dj l inp V) (hv:NJ l V b inp (tX (bI l) n0) vrec)
include C hD hv
theorem N8 {k:Nat} (O:k<=l.length):∀ s,Jm l V b inp n0 memo1 idx1 a1 k s->Ok (e7 vrec s.1 s.2.1 s.2.2.1 s.2.2.2.1 s.2.2.2.2.1 s.2.2.2.2.2.1 s.2.2.2.2.2.2.1 s.2.2.2.2.2.2.2.1 s.2.2.2.2.2.2.2.2.1 s.2.2.2.2.2.2.2.2.2) fun y=>match y with
   | .go s'=>k<l.length/\Jm l V b inp n0 memo1 idx1 a1 (k+1) s'
   | .out y=>Jo l V b inp n0 memo1 idx1 a1 y:=by
 rintro⟨m,list,ch,p,rules,rev,inps,recs,memo,seen⟩ ⟨idx,a,rfl,hkl,h1,h2,h3,h4⟩;dsimp only;have hl8:=C.high;obtain⟨len1,len2⟩:=h1.len;unfold e7;refine ax (fun hb=>?_) (fun hb=>?_)
 ·have hlt:k<idx.length:=by have:=of_decide_eq_true hb; omega
  have hp:=cQ hlt;have hiI:=aK hp;generalize idx[k]=i at hp hiI;obtain⟨hil,hir,hio⟩:=h1.ring i hiI;have hi:=cQ hil;generalize l[i]=r at hi;have hr:r.o=true:=by rw [nY hi] at hir; exact cJ hir
  obtain⟨t,ht,_⟩:=wx C hi (ws:=[]) (by simp);have hget:bG list ((k:Nat):Int)=some (rk l i):=by rw [bj,h1.eq,ro,hp]; rfl
  have hru:rules=l:=h2.rules;refine aI hget (aI (by rw [hru]; exact ht) ?_);unfold gL;refine KT C hv hi hr hp h1 h2 ht ?_;rintro⟨m',list',ch',rules',rev',inps',recs',memo',seen',d',v',ak',at'⟩ ⟨idx',ws,g1,g2,g3,g4,g5,g6,g7,g8⟩;dsimp only;obtain⟨u,hu1,hu2,hu3⟩:=Jy C hi hr ws;rw [hu1] at g8;subst g8;have hp':idx'[k]? = some i:=by
   obtain⟨z,rfl⟩:=g4;rw [pp hlt]; exact hp
  have hiI':i∈idx':=g4.subset hiI;have hget':bG list' ((k:Nat):Int)=some (rk l i):=by rw [bj,g1.eq,ro,hp']; rfl
  have hm:=g1.get i hil;rw [if_pos hiI'] at hm;have hlen':=g4.length_le;have hk1:k+1<=idx'.length:=bg hp';have hwr:IntKind.i64.wrap ((k:Int)+1)=((k+1:Nat):Int):=cL (by omega);unfold fx;refine aI hget' ?_;rw [hm];simp only [zw,ad];by_cases e:a i=u
  ·rw [e,show ((db (u:Int)).toList==(db (u:Int)).toList)=true by simp];simp only [eT,cond_false];unfold em;rw [hwr];refine ah ⟨by omega,idx',a,rfl,hk1,g1,g2,h3.trans g3,?_⟩;rcases g5 with⟨e1,e2⟩|⟨e1,e2⟩
   ·subst e1 e2;rcases h4 with⟨q1,q2,q3,q4⟩|⟨q1,q2⟩
    ·refine .inl ⟨q1,q2,q3,fun q j hq hj=>?_⟩;rcases iz q k with hq2 | hq2
     ·exact q4 q j hq2 hj
     ·obtain rfl:q=k:=by omega
      rw [hp'] at hj;obtain rfl:=cJ hj;exact Oc C hD hi g1 g7 hu3 e
    ·exact .inr ⟨q1,q2⟩
   ·refine .inr ⟨e1,?_⟩;unfold mu at h4 ⊢;rcases h4 with⟨q1,q2,q3,q4⟩|⟨q1,q2⟩
    ·rw [<- q2,<- q3]; omega
    ·omega
  ·have hne:((db ((a i:Nat):Int)).toList==(db (u:Int)).toList)=false:=by
    rw [beq_eq_false_iff_ne];exact fun h=>e (CH (g1.lt i) hu2 (toList_inj h))
   rw [hne];simp only [jj,cond_true];refine aI hget' ?_;unfold em;rw [hwr];have hlow:=L8 C hD hi h1 g1 hiI g7 hu3;have hup:=Od C hD hi g1 g6 g7 hu3;have qU:=g1.set hl8 hiI' hu2 hlow (fun q hq=>(hup q hq).1) (fun q hq=>(hup q hq).2);refine ah ⟨by omega,idx',_,rfl,hk1,qU,g2,h3.trans g3,.inr ⟨rfl,?_⟩⟩;have hle:a i<=u:=Ls hlow;have hs:ze a l.length<ze (fun j=>if j=i then u else a j) l.length:=by
    refine Hy (i:=i) (fun j=>?_) ?_ _ hil
    ·show a j<=if j=i then u else a j;split
     ·rename_i hj; rw [hj]; exact hle
     ·exact bZ _
    ·show a i<if i=i then u else a i;rw [if_pos rfl]; omega
   unfold mu at h4 ⊢;rcases h4 with⟨q1,q2,q3,q4⟩|⟨q1,q2⟩
   ·rw [<- q2,<- q3]; omega
   ·omega
 ·have hge:¬ k<idx.length:=by have:=of_decide_eq_false hb; omega
  refine ah ⟨idx,a,h1,h2,h3,?_⟩;rcases h4 with⟨q1,q2,q3,q4⟩|⟨q1,q2⟩
  ·refine .inl ⟨q1,fun i hi=>?_⟩;obtain⟨q,hq⟩:=ot.1 hi;exact q4 q i (by have:=bg hq; omega) hq
  ·exact .inr ⟨q1,q2⟩
def Io (l:List aS) (V:Nat->ByteArray) (b:ar) (inp:ae->ByteArray) (n0:Nat) (memo1:List (ae×ByteArray)) (k:Nat) :
  (List (ae×ByteArray))×(List ae)×Bool×(List aS)×Int×(List be)×(List aA)×(List (ae×ByteArray))×(List (ae×(List ae)))->Prop
 | (m,list,ch,rules,rev,inps,recs,memo,seen) =>
  ∃ (idx:List Nat) (a:Nat->Nat),zV l V inp n0 memo m list idx a/\tx l V b (aw.mk rules (ar.mk rev inps recs) memo seen)/\kC memo1 memo /\
   ((ch=false/\∀ i∈idx,ZY l V inp idx a i)∨(ch=true/\k<=mu l idx a))
def Fo (l:List aS) (V:Nat->ByteArray) (b:ar) (inp:ae->ByteArray) (n0:Nat) (memo1:List (ae×ByteArray)) :
  (List (ae×ByteArray))×(List ae)×(List aS)×Int×(List be)×(List aA)×(List (ae×ByteArray))×(List (ae×(List ae)))->Prop
 | (m,list,rules,rev,inps,recs,memo,seen) =>
  ∃ (idx:List Nat) (a:Nat->Nat),zV l V inp n0 memo m list idx a/\tx l V b (aw.mk rules (ar.mk rev inps recs) memo seen)/\kC memo1 memo/\∀ i∈idx,ZY l V inp idx a i
omit hD hv in
theorem J0 {memo m:List (ae×ByteArray)} {list:List ae} {idx:List Nat} {a:Nat->Nat} (h:zV l V inp n0 memo m list idx a):mu l idx a<=600000:=by
 have:=BE h.lt l.length;have:=h.len.2;have:=C.high;unfold mu;omega
theorem N9 {k:Nat}:∀ s,Io l V b inp n0 memo1 k s->Ok (e8 vrec s.1 s.2.1 s.2.2.1 s.2.2.2.1 s.2.2.2.2.1 s.2.2.2.2.2.1 s.2.2.2.2.2.2.1 s.2.2.2.2.2.2.2.1 s.2.2.2.2.2.2.2.2) fun y=>match y with
   | .go s'=>k<600001/\Io l V b inp n0 memo1 (k+1) s'
   | .out y=>Fo l V b inp n0 memo1 y:=by
 rintro⟨m,list,ch,rules,rev,inps,recs,memo,seen⟩ ⟨idx,a,h1,h2,h3,h4⟩;dsimp only;unfold e8;refine ax (fun hb=>?_) (fun hb=>?_)
 ·subst hb;have h5:k<=mu l idx a:=by
   rcases h4 with⟨h,_⟩|⟨_,h⟩
   ·cases h
   ·exact h
  have hbd:=J0 C h1;refine bP (Jm l V b inp n0 memo idx a) (Jo l V b inp n0 memo idx a) l.length ⟨idx,a,rfl,bT _,h1,h2,kC.refl _,.inl ⟨rfl,rfl,rfl,fun q i hq=>absurd hq (by omega)⟩⟩
   (fun k s O hI=>(N8 C hD hv O s hI).mono fun y hy=>by cases y <;> exact hy) ?_
  rintro⟨m',list',ch',rules',rev',inps',recs',memo',seen'⟩ ⟨idx',a',g1,g2,g3,g4⟩;refine ah ⟨by omega,idx',a',g1,g2,h3.trans g3,?_⟩;rcases g4 with⟨q1,q2⟩|⟨q1,q2⟩
  ·exact .inl ⟨q1,q2⟩
  ·exact .inr ⟨q1,by omega⟩
 ·subst hb;refine ah ⟨idx,a,h1,h2,h3,?_⟩;rcases h4 with⟨_,h⟩|⟨h,_⟩
  ·exact h
  ·cases h
omit hv in
theorem Jx {m list memo idx a} (h1:zV l V inp n0 memo m list idx a) (hc:∀ i∈idx,ZY l V inp idx a i) {i:Nat} (hi:i∈idx):db ((a i:Nat):Int)=V i:=by
 obtain⟨u,d1,d2,d3,d4⟩:=xR C hD (h1.ring i hi).2.1;rw [d1];congr 2;apply Nat.eq_of_testBit_eq;intro q;rw [Bool.eq_iff_iff,d4];exact⟨h1.le i q,fun h=>Ga hc h hi⟩
theorem KM {s:aw} (hs:tx l V b s) (hn:n0<l.length) (hr0:(bI l)[n0]? = some true) :
  Ok (iq vrec s (rk l n0)) fun s'=>tx l V b s'/\kC s.f s'.f/\dv aR (rk l n0) s'.f=some (V n0):=by
 have hl8:=C.high;have hL:kh (rk l n0)=some ⟨#[48]⟩:=by
  unfold kh;rcases rH (l:=l) (n:=n0) with⟨_,h⟩|⟨h,_⟩
  ·exact absurd hr0 h
  ·rw [h]; rfl
 unfold iq;refine aI hL ?_;unfold gM;have U:zV l V inp n0 s.f (fV aR (rk l n0) ⟨#[48]⟩ []) [rk l n0] [n0] (fun _=>0):=by
  refine⟨rfl,by simp,fun i hi=>?_,eU.2 rfl,fun i hi=>?_,fun _ _=>rfl,fun _=>by simp,fun i q hq=>by simp at hq,fun i _ q hq=>by simp at hq⟩
  ·rw [eU.1 hi]; exact⟨hn,hr0,bZ _⟩
  ·by_cases e:i=n0
   ·subst e;rw [gS,if_pos (eU.2 rfl),DG]
   ·rw [lA (fun e2=>e (Br (by omega) (by omega) e2)),if_neg (by simpa using e)]; rfl
 refine bP (Io l V b inp n0 s.f) (Fo l V b inp n0 s.f) 600001 ⟨[n0],fun _=>0,U,hs,kC.refl _,.inr ⟨rfl,bT _⟩⟩
  (fun k s O hI=>(N9 C hD hv s hI).mono fun y hy=>by cases y <;> exact hy) ?_
 rintro⟨m,list,rules,rev,inps,recs,memo,seen⟩ ⟨idx,a,h1,h2,h3,h4⟩;obtain⟨len1,len2⟩:=h1.len;dsimp only;unfold fw;refine bP (fun (k:Nat) (st:Int×List (ae×ByteArray))=>st.1=k/\k<=idx.length/\tx l V b (aw.mk rules (ar.mk rev inps recs) st.2 seen)/\kC s.f st.2/\∀ (q i:Nat),q<k->idx[q]? = some i->dv aR (rk l i) st.2=some (V i))
  (fun memo'=>tx l V b (aw.mk rules (ar.mk rev inps recs) memo' seen)/\kC s.f memo'/\dv aR (rk l n0) memo'=some (V n0)) idx.length ⟨rfl,bT _,h2,h3,fun q i hq=>absurd hq (by omega)⟩ ?_ ?_
 ·rintro k ⟨p,memo'⟩ O ⟨rfl,_,g1,g2,g3⟩;dsimp only;unfold iE;refine ax (fun hb=>?_) (fun hb=>?_)
  ·have hlt:k<idx.length:=by have:=of_decide_eq_true hb; omega
   have hp:=cQ hlt;have hiI:=aK hp;generalize idx[k]=i at hp hiI;obtain⟨hil,_⟩:=h1.ring i hiI;have hget:bG list ((k:Nat):Int)=some (rk l i):=by rw [bj,h1.eq,ro,hp]; rfl
   refine aI hget ?_;have hm:=h1.get i hil;rw [if_pos hiI,Jx C hD h1 h4 hiI] at hm;rw [hm];simp only [zw,ad];obtain⟨p1,p2⟩:=g1.put hil hl8;refine ah ⟨hlt,cL (by omega),hlt,p1,g2.trans p2,fun q j hq hj=>?_⟩;rcases iz q k with hq2 | hq2
   ·exact p2 _ _ (g3 q j hq2 hj)
   ·obtain rfl:q=k:=by omega
    rw [hp] at hj;obtain rfl:=cJ hj;exact gS _ _ _
  ·have hge:¬ k<idx.length:=by have:=of_decide_eq_false hb; omega
   obtain⟨q,hq⟩:=ot.1 h1.head;exact ah ⟨g1,g2,g3 q n0 (by have:=bg hq; omega) hq⟩
 ·rintro memo' ⟨g1,g2,g3⟩;exact ah ⟨g1,g2,g3⟩
end
end
end
section
open Go.Lib hiding intOf
variable {inp:ae->ByteArray} {s:aw} {vrec:aw->ae->Option (ByteArray×aw)}
section
variable {l:List aS} {V:Nat->ByteArray} {b:ar}
noncomputable abbrev ta (b:ar) (k:ae):ByteArray:=(Gf b k).u
theorem NJ.le {ρ ρ':Nat} (h:NJ l V b inp ρ vrec) (hl:ρ'<=ρ):NJ l V b inp ρ' vrec :=
 ⟨fun s n hs hn hr=>h.rule s n hs hn (by omega),h.cell⟩
theorem Cx {r:aS} {k:Nat} {x:fh} (hx:r.g[k]? = some x):rv l inp V r (k+1)=rv l inp V r k++[ud l inp V x (rv l inp V r k)]:=by
 show (match r.g[k]? with | none=>_ | some x=>_)=_;rw [hx]
theorem AA {r:aS}:∀ {k:Nat},k<=r.g.length->(rv l inp V r k).length=k
 | 0,_=>rfl
 | k+1,h=>by rw [Cx (cQ (show k<r.g.length by omega)),bm,AA (by omega)]; rfl
theorem GA (C:bD l) (hD:Dj l (ta b) V) (hb:Rm b.i.length) {f:Nat} (hv:NJ l V b (ta b) f vrec) {n:Nat} (hs:tx l V b s) (hn:n<l.length) (hf:tX (bI l) n<=f) :
  Ok (eM vrec s (rk l n)) fun y=>y.1=V n/\tx l V b y.2/\kC s.f y.2.f:=by
 have hl8:=C.high;unfold eM;refine aI sG ?_;simp only [cond_false,ad];refine ax (fun hm=>?_) (fun hm=>?_)
 ·obtain⟨v,hv⟩:=Option.isSome_iff_exists.1 hm;rw [hv];exact ah ⟨hs.memo n hn v hv,hs,kC.refl _⟩
 ·refine aI (hU _) ?_;rw [Hm];by_cases hr:(bI l)[n]? = some true
  ·rw [decide_eq_true hr];simp only [cond_true];refine au (KM C hD (hv.le hf) hs hn hr) fun s' ⟨h1,h2,h3⟩=>?_;rw [h3];exact ah ⟨rfl,h1,h2⟩
  ·rw [decide_eq_false hr];simp only [cond_false];have hi:=cQ hn;generalize l[n]=r at hi;have hrr:r.o=false:=by
    rw [nY hi] at hr;cases h:r.o with
    | false=>rfl
    | true=>rw [h] at hr; exact absurd rfl hr
   have h3l:=(C.each n r hi).asks;refine bP (fun (k:Nat) (st:(List ByteArray)×(List aS)×Int×(List be)×(List aA)×(List (ae×ByteArray))×(List (ae×(List ae))))=>k<=r.g.length/\st.1=rv l (ta b) V r k/\tx l V b (aw.mk st.2.1 (ar.mk st.2.2.1 st.2.2.2.1 st.2.2.2.2.1) st.2.2.2.2.2.1 st.2.2.2.2.2.2)/\kC s.f st.2.2.2.2.2.1)
    (fun y=>y.1=V n/\tx l V b y.2/\kC s.f y.2.f) r.g.length ⟨bT _,rfl,hs,kC.refl _⟩ ?_ (fun y hy=>ah hy)
   rintro k ⟨ws,rules,rev,inps,recs,memo,seen⟩ O ⟨_,e,g1,g2⟩;dsimp only at e g1 g2 ⊢;subst e;have hru:rules=l:=g1.rules;unfold iC;rw [hru];rcases iz k r.g.length with hlt | hge
   ·have hx:=cQ hlt;generalize r.g[k]=x at hx;have hlen:=AA (l:=l) (V:=V) (inp:=ta b) (r:=r) O;refine aI (BG C hi (x:=x) (by rw [hlen]; exact hx)) ?_;unfold fv;simp only [cond_false];obtain⟨_,hg⟩:=qk C hi hx (rv l (ta b) V r k);have fin:∀ {w:ByteArray} {rules rev inps recs memo seen},w=ud l (ta b) V x (rv l (ta b) V r k)->tx l V b (aw.mk rules (ar.mk rev inps recs) memo seen)->kC s.f memo->Ok (gd (bW ((rv l (ta b) V r k).length+[w].length)) <| some (Fl.go (R:=ByteArray×aw) (rv l (ta b) V r k++[w],rules,rev,inps,recs,memo,seen))) fun y=>match y with
      | .go st=>k<r.g.length/\(k+1<=r.g.length/\st.1=rv l (ta b) V r (k+1)/\tx l V b (aw.mk st.2.1 (ar.mk st.2.2.1 st.2.2.2.1 st.2.2.2.2.1) st.2.2.2.2.2.1 st.2.2.2.2.2.2)/\kC s.f st.2.2.2.2.2.1)
      | .out y=>y.1=V n/\tx l V b y.2/\kC s.f y.2.f:=by
     intro w rules rev inps recs memo seen hw q1 q2;exact bO (dJ (by rw [hlen]; simp; omega)) (ah ⟨hlt,hlt,by rw [Cx hx,hw],q1,q2⟩)
    have hK:ae.mk (tE l x (rv l (ta b) V r k)).k (tE l x (rv l (ta b) V r k)).t=tE l x (rv l (ta b) V r k):=rfl;rw [hK];rw [hru] at g1;rcases hg with⟨hc,c,hc4,e3,e4⟩|⟨hc,j,hj,e3,e4⟩
    ·have U:ud l (ta b) V x (rv l (ta b) V r k)=ta b (gf c):=by unfold ud; rw [if_pos hc,e4]
     rw [e4];refine au (hv.cell _ c g1 hc4) fun y hy=>?_;obtain⟨y1,y2⟩:=y;obtain⟨f1,f2⟩:=hy;simp only at f1 f2;subst f1 f2;exact (fin U.symm g1 g2).mono fun y hy=>by cases y <;> exact hy
    ·have hll:=A9 hn;have U:ud l (ta b) V x (rv l (ta b) V r k)=V j:=by unfold ud; rw [if_neg (by rw [hc]; simp),e3]; rfl
     rw [e4];refine au (hv.rule _ j g1 (by omega) (by have:=CU hr hj; omega)) fun y hy=>?_;obtain⟨f1,f2,f3⟩:=hy;exact (fin (by rw [f1,U]) f2 (g2.trans f3)).mono fun y hy=>by cases y <;> exact hy
   ·obtain rfl:k=r.g.length:=by omega
    have hlen:=AA (l:=l) (V:=V) (inp:=ta b) (r:=r) (bZ r.g.length);refine aI (zh C hi (by rw [hlen]; exact bZ _)) ?_;have hval:=hD.plain n r hi hrr;unfold fv;simp only [cond_true];rw [zk (by rw [hlen]; exact bZ _),<- hval];rw [hru] at g1;obtain⟨p1,p2⟩:=g1.put hn hl8;exact ah ⟨rfl,p1,g2.trans p2⟩
theorem BL (hb:Rm b.i.length) {c:Nat} (hs:tx l V b s):Ok (eM vrec s (gf c)) fun y=>y.1=ta b (gf c)/\y.2=s:=by
 unfold eM;refine aI pv ?_;simp only [cond_true];refine aI (by rw [hs.base]; exact G6 hb _) (ah ⟨rfl,rfl⟩)
theorem Fv (C:bD l) (hD:Dj l (ta b) V) (hb:Rm b.i.length):∀ f,NJ l V b (ta b) f (Mr (f+1))
 | 0=>⟨fun s n _ _ h=>absurd h (by omega),fun s c hs _=>BL hb hs⟩
 | f+1=>⟨fun s n hs hn h=>GA C hD hb (Fv C hD hb f) hs hn (by omega),fun s c hs _=>BL hb hs⟩
theorem NB (C:bD l) (hD:Dj l (ta b) V) (hb:Rm b.i.length) (hs:tx l V b s) {k:ae} (O:jB l k):Ok (vv s k) fun y=>tx l V b y.2/\(∀ n,n<l.length->k=rk l n->y.1=V n):=by
 have h:=Fv C hD hb 39;have hl8:=C.high;rcases O with⟨c,hc,rfl⟩|⟨n,hn,rfl⟩
 ·exact (h.cell s c hs hc).mono fun y hy=>⟨by rw [hy.2]; exact hs,fun n _ e=>absurd e GQ⟩
 ·refine (h.rule s n hs hn ?_).mono fun y hy=>⟨hy.2.1,fun m hm e=>?_⟩
  ·have:=Ku (rs:=bI l) n; omega
  ·rw [Br (by omega) (by omega) e] at hy;exact hy.1
end
end
section
open Go.Lib hiding intOf
variable {b:ar} {l:List aA} {x:aA}
theorem Bb {r:aA}:x∈qX l r↔x=r∨(x∈l/\x.d≠r.d):=by
 unfold qX;rw [de,dC,nu,nu];simp only [decide_eq_true_eq];constructor
 ·rintro (⟨h,h1⟩ | h | ⟨h,h1⟩)
  ·exact .inr ⟨h,wh h1⟩
  ·exact .inl h
  ·exact .inr ⟨h,fun e=>by rw [e,yS] at h1; omega⟩
 ·rintro (h | ⟨h,h1⟩)
  ·exact .inr (.inl h)
  ·rcases xZ x.d r.d with h2 | h2 | h2
   ·exact .inl ⟨h,h2⟩
   ·exact absurd h2 h1
   ·exact .inr (.inr ⟨h,qs.2 h2⟩)
theorem Lk (h:GD l) {y:aA} (hx:x∈l) (hy:y∈l) (e:x.d=y.d):x=y:=by
 induction l with
 | nil=>cases hx
 | cons z m ih =>
  have h':=uP.1 h;rcases dC.1 hx with e1 | h1
  ·rcases dC.1 hy with e2 | h2
   ·rw [e1,e2]
   ·subst e1; exact absurd e (wh (h'.1 y h2))
  ·rcases dC.1 hy with e2 | h2
   ·subst e2; exact absurd e.symm (wh (h'.1 x h1))
   ·exact ih h'.2 h1 h2
theorem JA (h:GD l) (hx:x∈l):cO l x.d=(x,true):=by
 unfold cO;cases hf:l.find? (fun r=>iL r.d x.d) with
 | none =>
  have:=FG.1 hf x hx;simp [yT] at this
 | some y =>
  have h1:=List.find?_some hf;have h2:=K8 hf;rw [Lk h h2 hx (mX.1 h1)]
theorem AZ (h:GD l) (hx:x∈l) {k:ae} (e:x.d=k):cO l k=(x,true):=by subst e; exact JA h hx
theorem CE (h:GD l) (r:aA) (k:ae):cO (qX l r) k=if k=r.d then (r,true) else cO l k:=by
 have hp:=Fg h r;by_cases e:k=r.d
 ·rw [if_pos e];exact AZ hp (Bb.2 (.inl rfl)) e.symm
 ·rw [if_neg e];cases hf:(cO l k).2 with
  | true =>
   obtain⟨h1,h2⟩:=kV hf;rw [AZ hp (Bb.2 (.inr ⟨h1,by rw [h2]; exact e⟩)) h2];exact Prod.ext rfl hf.symm
  | false =>
   obtain⟨h1,h2⟩:=uj hf;cases hf2:(cO (qX l r) k).2 with
   | true =>
    obtain⟨h3,h4⟩:=kV hf2;rcases Bb.1 h3 with h5 | ⟨h5,_⟩
    ·exact absurd (h4.symm.trans (congrArg aA.d h5)) e
    ·exact absurd h4 (h2 _ h5)
   | false=>rw [(uj hf2).1,h1]
theorem Gq (h:IX l):su l=some l:=by
 have hl:=h.1;unfold Rm at hl;unfold su qc;refine fL (dG (xs:=l) (fun k=>(l.take k,(k:Int))) rfl (r:=l) (fun k x hx=>?_) ?_) rfl
 ·have hlt:=bg hx;unfold m6;dsimp only;rw [dlt hlt,cond_true,bj,hx,ad,rX (h.2 x (aK hx)),ad,dJ (by rw [fe]; simp; omega),cL (by omega),bM hx];rfl
 ·unfold m6;dsimp only;rw [bS,fK]; rfl
theorem xb (h:IX b.s) (hi:Rm b.i.length):fC b=some b:=by
 unfold Rm at hi;unfold fC;rw [dJ (by simp; omega),Gq h]; rfl
def kf (g:List ae) (d:Bool) (rev:Int) (r:aA):aA:=if (g.any fun x=>iL r.d x)=true then (if d=true then ⟨r.d,r.u,r.v,r.c,r.l,r.j,true⟩ else ⟨r.d,r.u,r.v,r.c,rev,r.j,r.d1⟩) else r
theorem wo (g:List ae) (d:Bool) (rev:Int) (r:aA):(kf g d rev r).d=r.d:=by unfold kf; split <;> (try split) <;> rfl
theorem Ar (h:IX b.s) (hi:Rm b.i.length) {g:List ae} (hg:Rm g.length) (d:Bool):lZ b g d=some ⟨b.r,b.i,b.s.map (kf g d b.r)⟩:=by
 have hl:=h.1;unfold Rm at hl;unfold lZ qe;rw [xb h hi,ad];refine fL (dG (xs:=b.s) (fun k=>((k:Int),(b.s.take k).map (kf g d b.r)++b.s.drop k)) rfl (r:=b.s.map (kf g d b.r)) (fun k x hx=>?_) ?_) rfl
 ·have hlt:=bg hx;have hlen:((b.s.take k).map (kf g d b.r)).length=k:=by rw [pq,fe]; omega
  have hdrop:b.s.drop k=x::b.s.drop (k+1):=by
   rw [C9 hlt];rw [cQ hlt] at hx;rw [cJ hx]
  have hget:bG ((b.s.take k).map (kf g d b.r)++b.s.drop k) (k:Int)=some x:=by
   rw [bj,sL (by omega),hlen,hdrop,uR]; rfl
  have qU:∀ y,((b.s.take k).map (kf g d b.r)++b.s.drop k).set (Int.toNat (k:Int)) y=(b.s.take k).map (kf g d b.r)++y::b.s.drop (k+1):=fun y=>by
   rw [hdrop,s3,List.set_append_right _ _ (by omega),hlen,uR]; rfl
  have htake:∀ y,kf g d b.r x=y->(b.s.take (k+1)).map (kf g d b.r)++b.s.drop (k+1)=(b.s.take k).map (kf g d b.r)++y::b.s.drop (k+1):=fun y hy=>by
   rw [bM hx,BS,fc];simp [hy]
  unfold nj;dsimp only;rw [dlt hlt,cond_true,hget,ad,y5 hg,ad];unfold lc;have hw:=cL (k:=k) (by omega);cases ha:g.any fun y=>iL x.d y with
  | false =>
   rw [jj,cond_true,hw,htake x (by unfold kf; rw [ha]; rfl),hdrop]
  | true =>
   rw [eT,cond_false];cases d with
   | true=>rw [cond_true,ad,qU,hw,htake ⟨x.d,x.u,x.v,x.c,x.l,x.j,true⟩ (by unfold kf; rw [ha]; rfl)]
   | false=>rw [cond_false,ad,qU,hw,htake ⟨x.d,x.u,x.v,x.c,b.r,x.j,x.d1⟩ (by unfold kf; rw [ha]; rfl)]
 ·unfold nj;dsimp only;rw [bS,fK,Da,yF]; rfl
theorem E7 (h:GD l) (g:List ae) (d:Bool) (rev:Int):GD (l.map (kf g d rev)):=by
 unfold GD;rw [List.pairwise_map];exact h.imp fun {a b} hab=>by rw [wo,wo]; exact hab
theorem AY (h:GD l) (g:List ae) (d:Bool) (rev:Int) (k:ae):cO (l.map (kf g d rev)) k=if (cO l k).2=true then (kf g d rev (cO l k).1,true) else (R1,false):=by
 have hp:=E7 h g d rev;cases hf:(cO l k).2 with
 | true =>
  obtain⟨h1,h2⟩:=kV hf;rw [if_pos rfl];exact AZ hp (HV h1) ((wo _ _ _ _).trans h2)
 | false =>
  obtain⟨h1,h2⟩:=uj hf;rw [if_neg (by simp)];cases hf2:(cO (l.map (kf g d rev)) k).2 with
  | true =>
   obtain⟨h3,h4⟩:=kV hf2;obtain⟨x,hx,e⟩:=jw.1 h3;exact absurd (by rw [<- h4,<- e,wo]) (h2 x hx)
  | false=>exact (uj hf2).1
structure tC (l:List aS) (rev:Int) (r:aA):Prop where
 key:∃ n,n<l.length/\r.d=rk l n
 value:r.u.size<=1000
 reads:r.v.length<=3
 good:∀ k∈r.v,jB l k
 low:0<=r.c
 mid:r.c<=r.l
 high:r.l<=rev
 cost:1<=r.j/\r.j<=30000
 dirty:r.d1=true->rY r.d=true
structure wZ (rev:Int) (x:be):Prop where
 key:∃ c,c<10/\x.d=gf c
 value:x.u.size<=8
 low:0<=x.c
 high:x.c<=rev
structure ke (l:List aS) (b:ar):Prop where
 rev:0<=b.r/\b.r<=1000000
 ins:∀ x∈b.i,wZ b.r x
 insA:b.i.Pairwise fun x y=>dI x.d y.d<0
 recs:∀ r∈b.s,tC l b.r r
 recsA:GD b.s
theorem yU {α:Type} {xs:List α} {f:α->ae} (h:xs.Pairwise fun a b=>dI (f a) (f b)<0):(xs.map f).Nodup:=by
 unfold List.Nodup;rw [List.pairwise_map];exact h.imp fun {a b} hab=>wh hab
theorem ke.nrec {l:List aS} (h:ke l b):b.s.length<=l.length:=by
 have h1:=pC (yU (f:=aA.d) h.recsA) (m:=(List.range l.length).map (rk l)) fun k O=>by
  obtain⟨r,hr,rfl⟩:=jw.1 O;obtain⟨n,hn,e⟩:=(h.recs r hr).key;exact jw.2 ⟨n,Dg.2 hn,e.symm⟩
 simpa using h1
theorem ke.nin {l:List aS} (h:ke l b):b.i.length<=10:=by
 have h1:=pC (yU (f:=be.d) h.insA) (m:=(List.range 10).map gf) fun k O=>by
  obtain⟨r,hr,rfl⟩:=jw.1 O;obtain⟨n,hn,e⟩:=(h.ins r hr).key;exact jw.2 ⟨n,Dg.2 hn,e.symm⟩
 simpa using h1
theorem ke.rm {l:List aS} (h:ke l b) (hl:l.length<=8):IX b.s/\Rm b.i.length/\H1 b.s:=by
 have h1:=h.nrec;have h2:=h.nin;refine⟨⟨by unfold Rm; omega,fun r hr=>by have:=(h.recs r hr).reads; unfold Rm; omega⟩,by unfold Rm; omega,h.recsA,by omega,fun r hr=>by have:=(h.recs r hr).reads; omega⟩
end
section
open Go.Lib hiding intOf
variable {k:ae} {r:aA}
def zE (p:Nat->Bool):Nat->Nat
 | 0=>0
 | n+1=>zE p n+cond (p n) 1 0
theorem AO {p q:Nat->Bool} (h:∀ n,p n=true->q n=true):∀ N,zE p N<=zE q N
 | 0=>bZ _
 | n+1=>by
  have:=AO h n;show zE p n+cond (p n) 1 0<=zE q n+cond (q n) 1 0;cases hp:p n with
  | false=>cases q n <;> simp <;> omega
  | true=>rw [h n hp]; simp; omega
theorem Dq {p q:Nat->Bool} (h:∀ n,p n=true->q n=true) {i:Nat} (h1:p i=false) (h2:q i=true):∀ N,i<N->zE p N<zE q N
 | 0,h0=>absurd h0 (by omega)
 | n+1,h0=>by
  have h3:=AO h n;show zE p n+cond (p n) 1 0<zE q n+cond (q n) 1 0;rcases iz i n with h4 | h4
  ·have:=Dq h h1 h2 n h4;cases hp:p n with
   | false=>cases q n <;> simp <;> omega
   | true=>rw [h n hp]; simp; omega
  ·obtain rfl:i=n:=by omega
   rw [h1,h2]; simp; omega
theorem wa (p:Nat->Bool):∀ N,zE p N<=N
 | 0=>bZ _
 | n+1=>by
  have:=wa p n;show zE p n+cond (p n) 1 0<=n+1;cases p n <;> simp <;> omega
noncomputable def gP (b:ar) (k:ae):Bool:=(cO b.s k).2&&decide ((cO b.s k).1.l=b.r)
def n5 (b b':ar):Prop:=∀ k,gP b k=true->gP b' k=true
theorem n5.refl (b:ar):n5 b b:=fun _ h=>h
theorem n5.trans {a b c:ar} (h:n5 a b) (k:n5 b c):n5 a c:=fun x e=>k x (h x e)
def dQ (m:List (ae×Bool)) (k:ae):Bool:=(dv aR k m).getD false
section
variable {l:List aS} {V:Nat->ByteArray} {b0 b:ar}
theorem ke.find (h:ke l b) (hl:l.length<=8) (k:ae):da b.s k=some (cO b.s k):=uE (h.rm hl).1 k
theorem ke.found (h:ke l b) (O:(cO b.s k).2=true):tC l b.r (cO b.s k).1/\(cO b.s k).1.d=k :=
 ⟨h.recs _ (kV O).1,(kV O).2⟩
theorem ke.rdGood (h:ke l b) {x:ae} (hx:x∈CV b.s k):jB l x:=by
 unfold CV at hx;cases O:(cO b.s k).2 with
 | true=>exact (h.found O).1.good x hx
 | false=>rw [(uj O).1] at hx; cases hx
theorem Hg (h:ke l b) (hl:l.length<=8) {n:Nat} (hn:n<l.length) {v:ByteArray} (hv:v.size<=1000) {reads:List ae} (hr:reads.length<=3) (hg:∀ k∈reads,jB l k) :
  ∃ r,pJ b (rk l n) v reads=some r/\tC l b.r r/\r.d=rk l n/\r.l=b.r:=by
 have hw:IntKind.i64.wrap (1+(reads.length:Int))=1+(reads.length:Int):=lx (by omega) (by omega);have mk:∀ c:Int,0<=c->c<=b.r->∃ r,nh b (rk l n) v reads c=some r/\tC l b.r r/\r.d=rk l n/\r.l=b.r:=fun c h1 h2 =>
  ⟨_,rfl,⟨⟨n,hn,rfl⟩,hv,hr,hg,h1,h2,rj _,by dsimp only; rw [hw]; omega,fun e=>by cases e⟩,rfl,rfl⟩
 have hrev:=h.rev;unfold pJ;rw [h.find hl,ad];unfold ni;cases hf:(cO b.s (rk l n)).2 with
 | false=>exact mk _ hrev.1 (rj _)
 | true =>
  obtain⟨h1,_⟩:=h.found hf;rw [cond_true];cases (cO b.s (rk l n)).1.u.toList==v.toList with
  | true=>exact mk _ h1.low (by have:=h1.mid; have:=h1.high; omega)
  | false=>exact mk _ hrev.1 (rj _)
theorem ke.put (h:ke l b) (hr:tC l b.r r):ke l ⟨b.r,b.i,qX b.s r⟩ :=
 ⟨h.rev,h.ins,h.insA,fun x hx=>by rcases Kg hx with hx | rfl; exact h.recs x hx; exact hr,Fg h.recsA r⟩
theorem Mq (h:ke l b) (hr:r.l=b.r):n5 b ⟨b.r,b.i,qX b.s r⟩/\gP ⟨b.r,b.i,qX b.s r⟩ r.d=true:=by
 refine⟨fun k O=>?_,?_⟩
 ·unfold gP at O ⊢;rw [CE h.recsA];split
  ·simp [hr]
  ·exact O
 ·unfold gP;rw [CE h.recsA,if_pos rfl];simp [hr]
theorem JW {rev:Int} (h:tC l rev r) (g:List ae) (d:Bool) (hd:d=true->∀ k∈g,rY k=true):tC l rev (kf g d rev r):=by
 unfold kf;split
 ·rename_i ha;split
  ·rename_i hdd;refine⟨h.key,h.value,h.reads,h.good,h.low,h.mid,h.high,h.cost,fun _=>?_⟩;obtain⟨x,hx,e⟩:=BO.1 ha;rw [mX] at e;show rY r.d=true;rw [e];exact hd hdd x hx
  ·exact⟨h.key,h.value,h.reads,h.good,h.low,by have:=h.mid; have:=h.high; show r.c<=rev; omega,rj _,h.cost,h.dirty⟩
 ·exact h
theorem ke.mark (h:ke l b) (g:List ae) (d:Bool) (hd:d=true->∀ k∈g,rY k=true):ke l ⟨b.r,b.i,b.s.map (kf g d b.r)⟩ :=
 ⟨h.rev,h.ins,h.insA,fun x hx=>by obtain⟨y,hy,rfl⟩:=jw.1 hx; exact JW (h.recs y hy) g d hd,E7 h.recsA g d _⟩
theorem Fu (h:ke l b) (g:List ae) (d:Bool):n5 b ⟨b.r,b.i,b.s.map (kf g d b.r)⟩:=fun k O=>by
 unfold gP at O ⊢;rw [ri,decide_eq_true_eq] at O;rw [AY h.recsA,if_pos O.1];unfold kf;split
 ·split
  ·simp [O.2]
  ·simp
 ·simp [O.2]
theorem GB (h:ke l b) {g:List ae} (O:(cO b.s k).2=true) (hg:k∈g):gP ⟨b.r,b.i,b.s.map (kf g false b.r)⟩ k=true:=by
 unfold gP;rw [AY h.recsA,if_pos O];have e:=(h.found O).2;unfold kf;rw [if_pos (by rw [e]; exact BO.2 ⟨k,hg,yT k⟩)];simp
theorem Nm {recs:List aA} (I:H1 recs) (rev:Int) (k:ae):Ok (nc recs rev k) fun m=>m.length<=1000/\k∈m/\((DS recs rev k=false/\m=[k])∨(DS recs rev k=true/\∀ x∈m,DS recs rev x=true)):=by
 cases ho:DS recs rev k with
 | true =>
  refine (Ko I ho).mono fun m hm=>⟨hm.len I ho,(hm.2 k).2 ⟨.refl,.refl⟩,.inr ⟨rfl,fun x hx=>vM ho ((hm.2 x).1 hx).1⟩⟩
 | false =>
  unfold nc;rw [xr I.rm,ad,ho];exact ah ⟨by simp,eU.2 rfl,.inl ⟨rfl,rfl⟩⟩
theorem J6 {recs:List aA} {rev:Int} (h:DS recs rev k=true):rY k=true/\(cO recs k).2=true:=by
 unfold DS J7 at h;rw [ri,ri,ri] at h;obtain⟨h1,h2⟩:=kV h.1;rw [h2] at h;exact⟨h.2.1.1,h.1⟩
structure FW (l:List aS) (V:Nat->ByteArray) (b0:ar) (x:aN):Prop where
 sol:tx l V b0 x.S
 base:ke l x.B
 rev:x.B.r=b0.r
 ins:x.B.i=b0.i
 nd:Nd x.m
theorem Ml {b:ar} (hb:Rm b.i.length) (k:ae):qD b k=some (Gf b k).c:=by
 unfold qD;rw [CX hb]; rfl
noncomputable def pP (x:aN) (k:ae):Bool:=decide (k.k=1)||(decide (k.k=2)||decide (k.k=30))||(dQ x.m k&&rY k)||gP x.B k
theorem KQ {x:aN} (h:ke l x.B) (hl:l.length<=8) (k:ae):it x k=some (pP x k,x):=by
 unfold it pP gP dQ;rw [oC,ad];generalize (decide (k.k=1)||(decide (k.k=2)||decide (k.k=30)))=i;have j3f:dd x k false=some ((cO x.B.s k).2&&decide ((cO x.B.s k).1.l=x.B.r),x):=by
  unfold dd;rw [cond_false,h.find hl,ad];unfold iI fA;cases (cO x.B.s k).2
  ·rfl
  ·rw [cond_true,yE];congr 2
 have j3t:dd x k true=some (true,x):=rfl;cases i
 ·rw [cond_false,ad];cases (dv aR k x.m).getD false
  ·rw [cond_false,j3f]; rfl
  ·rw [cond_true,hU,ad];cases rY k
   ·rw [j3f]; rfl
   ·rw [j3t]; rfl
 ·rw [cond_true,j3t]; rfl
variable (C:bD l) (hD:Dj l (ta b0) V) (hb0:Rm b0.i.length)
include C hD hb0
theorem AJ {s:aw} (hs:tx l V b0 s) (hb:ke l b) (O:jB l k):Ok (lf vv s b k) fun y=>tx l V b0 y.2:=by
 have hl:=C.high;unfold lf;refine aI (oC _) (ax (fun _=>aI (Ml (hb.rm hl).2.1 k) (ah hs)) (fun _=>aI (hb.find hl k) (ax (fun _=>ax (fun _=>?_) (fun _=>?_)) (fun _=>?_))))
 ·exact ah hs
 ·refine au (NB C hD hb0 hs O) fun y hy=>?_;unfold hO;cases y.1.toList==(cO b.s k).1.u.toList <;> exact ah hy.1
 ·exact ah hs
theorem Cy {s:aw} (hs:tx l V b0 s) (hb:ke l b) (O:jB l k):Ok (mx vv s b k) fun y=>tx l V b0 y.2:=by
 have hl:=C.high;unfold mx;refine aI (hU _) (ax (fun _=>?_) (fun _=>?_))
 ·exact au (NB C hD hb0 hs O) fun y hy=>ah hy.1
 ·have:Ok (sA b k) fun _=>True:=by
   unfold sA;refine aI (oC _) (ax (fun _=>aI (G6 (hb.rm hl).2.1 k) (ah trivial)) (fun _=>aI (hb.find hl k) (ax (fun _=>?_) (fun _=>?_))))
   ·unfold ne;cases ((cO b.s k).1.l==b.r) <;> exact ah trivial
   ·exact ah trivial
  exact au this fun y _=>ah hs
end
end
section
open Go.Lib hiding intOf
section
variable (l:List aS) (inp:ae->ByteArray) (V:Nat->ByteArray) (r:aS)
end
section
variable {l:List aS} {inp inp':ae->ByteArray}
theorem Fj {n:Nat}:(rk l n).k≠30:=by rcases ym (l:=l) (n:=n) with h | h <;> rw [h] <;> decide
section
variable {V:Nat->ByteArray} {r:aS}
end
section
variable (C:bD l) {n:Nat} {r:aS} (h:l[n]? = some r)
include C h
end
end
end
section
open Go.Lib hiding intOf
section
variable {l:List aS} {H:Int->ae->ByteArray} {b:ar} {P P':ae->Prop}
end
section
variable {l:List aS} {H:Int->ae->ByteArray} {b b0:ar} {V:Nat->ByteArray} {P:ae->Prop} (C:bD l) (hD:Dj l (ta b0) V) (hb0:Rm b0.i.length) (hV:V=Vd l (H b.r))
include C hD hb0 hV
end
end
section
open Go.Lib hiding intOf
section
variable {l:List aS} {b b' b'':ar}
end
section
variable {l:List aS} {H:Int->ae->ByteArray} {b b':ar} {P P':ae->Prop}
end
end
section
open Go.Lib hiding intOf
noncomputable def psi (l:List aS) (x:aN):Nat:=x.r1.length+zE (fun n=>!gP x.B (rk l n)||dQ x.m (rk l n)) l.length
noncomputable def Ny (l:List aS) (b:ar):Nat:=zE (fun n=>!gP b (rk l n)) l.length
noncomputable def Ir (l:List aS) (m:List (ae×Bool)):Nat:=zE (fun n=>!dQ m (rk l n)) l.length
structure pj (l:List aS) (V:Nat->ByteArray) (b0:ar) (x x':aN):Prop where
 ok:FW l V b0 x'
 ver:n5 x.B x'.B
 busy:∀ k,dQ x'.m k=dQ x.m k
 psi:psi l x'<=psi l x
section
variable {l:List aS} {V:Nat->ByteArray} {b0:ar} {x y z:aN}
theorem pj.refl (h:FW l V b0 x):pj l V b0 x x:=⟨h,n5.refl _,fun _=>rfl,bZ _⟩
theorem pj.trans (h:pj l V b0 x y) (k:pj l V b0 y z):pj l V b0 x z:=⟨k.ok,h.ver.trans k.ver,fun q=>(k.busy q).trans (h.busy q),cI k.psi h.psi⟩
theorem ED {b b':ar} {m m':List (ae×Bool)} (hv:n5 b b') (hb:∀ k,dQ m' k=true->dQ m k=true) (N:Nat):zE (fun n=>!gP b' (rk l n)||dQ m' (rk l n)) N<=zE (fun n=>!gP b (rk l n)||dQ m (rk l n)) N:=by
 refine AO (fun n h=>?_) N;rw [yD,uZ] at h ⊢;rcases h with h | h
 ·left;cases e:gP b (rk l n) with
  | false=>rfl
  | true=>rw [hv _ e] at h; cases h
 ·exact .inr (hb _ h)
theorem pj.base (h:FW l V b0 x) {b:ar} (hb:ke l b) (hr:b.r=x.B.r) (hi:b.i=x.B.i) (hv:n5 x.B b) {s:aw} (hs:tx l V b0 s):pj l V b0 x ⟨s,b,x.m,x.r1,x.E⟩ :=
 ⟨⟨hs,hb,hr.trans h.rev,hi.trans h.ins,h.nd⟩,hv,fun _=>rfl,Nat.add_le_add_left (ED hv (fun _ e=>e) _) _⟩
def QY (l:List aS) (V:Nat->ByteArray) (b0:ar) (urec:aN->ae->Option aN) (f:Nat):Prop :=
 ∀ x k,FW l V b0 x->psi l x<=8->jB l k->Ir l x.m<f->Ok (urec x k) fun x'=>pj l V b0 x x'/\(x'.E=0->pP x' k=true)
theorem zC {recs:List aA} {g h:List ae} {c:dY} (hc:c∈gg recs g h):c.k1∈CV recs c.x1:=by
 unfold gg I7 at hc;obtain⟨m,_,hm⟩:=List.mem_flatMap.1 hc;obtain⟨y,hy,rfl⟩:=jw.1 hm;exact (nu.1 hy).1
theorem yX {m m':List (ae×Bool)} (h:∀ k,dQ m' k=dQ m k):Ir l m'=Ir l m:=by
 unfold Ir;congr 1;funext n;rw [h]
theorem JH {n:Nat}:(decide ((rk l n).k=1)||(decide ((rk l n).k=2)||decide ((rk l n).k=30)))=false:=cJ ((oC _).symm.trans sG)
theorem xh {n:Nat}:(decide ((gf n).k=1)||(decide ((gf n).k=2)||decide ((gf n).k=30)))=true:=cJ ((oC _).symm.trans pv)
abbrev L6 (rev:Int) (ins:List be) (recs:List aA) (busy:List (ae×Bool)) (ran:List ae) (e:Int) (rules:List aS) (srev:Int) (sins:List be) (srecs:List aA) (memo:List (ae×ByteArray)) (seen:List (ae×(List ae))):aN :=
 aN.mk (aw.mk rules (ar.mk srev sins srecs) memo seen) (ar.mk rev ins recs) busy ran e
def Q6 (l:List aS) (V:Nat->ByteArray) (b0:ar) (x:aN) (k:Nat):Int×Int×(List be)×(List aA)×(List (ae×Bool))×(List ae)×Int×(List aS)×Int×(List be)×(List aA)×(List (ae×ByteArray))×(List (ae×(List ae)))->Prop
 | (at_,rev,ins,recs,busy,ran,e,rules,srev,sins,srecs,memo,seen)=>∃ a:Nat,at_=(a:Int)/\a<=1000000/\pj l V b0 x (L6 rev ins recs busy ran e rules srev sins srecs memo seen)/\(e=0->k+Ny l (ar.mk rev ins recs)*1000001+(1000000-a)<=20000000)/\k<=20000001
def Si (l:List aS) (V:Nat->ByteArray) (b0:ar) (x:aN) (k:ae):Fl (Int×(List be)×(List aA)×(List (ae×Bool))×(List ae)×Int×(List aS)×Int×(List be)×(List aA)×(List (ae×ByteArray))×(List (ae×(List ae)))) (Bool×aN)->Prop
 | .go (rev,ins,recs,busy,ran,e,rules,srev,sins,srecs,memo,seen)=>pj l V b0 x (L6 rev ins recs busy ran e rules srev sins srecs memo seen)/\e≠0
 | .out (a,x')=>pj l V b0 x x'/\(a=false->x'.E=0->gP x'.B k=true)
section
variable {urec:aN->ae->Option aN} {f n:Nat} (C:bD l) (hD:Dj l (ta b0) V) (hb0:Rm b0.i.length) (hu:QY l V b0 urec f) (hn:n<l.length) (hx:FW l V b0 x) (hp:psi l x<=8) (hf:Ir l x.m<f)
include C hD hb0 hu hn hx hp hf
omit hn hx in
theorem F7 {k:Nat} (O:k<=20000001):∀ s,Q6 l V b0 x k s->Ok (fy urec vv (rk l n) s.1 s.2.1 s.2.2.1 s.2.2.2.1 s.2.2.2.2.1 s.2.2.2.2.2.1 s.2.2.2.2.2.2.1 s.2.2.2.2.2.2.2.1 s.2.2.2.2.2.2.2.2.1 s.2.2.2.2.2.2.2.2.2.1 s.2.2.2.2.2.2.2.2.2.2.1 s.2.2.2.2.2.2.2.2.2.2.2.1 s.2.2.2.2.2.2.2.2.2.2.2.2) fun y=>match y with
   | .go s'=>k<20000001/\Q6 l V b0 x (k+1) s'
   | .out y=>Si l V b0 x (rk l n) y:=by
 rintro⟨at_,rev,ins,recs,busy,ran,e,rules,srev,sins,srecs,memo,seen⟩ ⟨a,rfl,ha,h1,h2,h3⟩;dsimp only;have hl:=C.high;have hE:=h1.ok;have hB:ke l (ar.mk rev ins recs):=hE.base;have I:H1 recs:=(hB.rm hl).2.2;unfold fy;refine ax (fun he=>?_) (fun he=>ah ⟨h1,by simpa using he⟩);obtain rfl:e=0:=by simpa using he
 have h2:=h2 rfl;refine aI (hB.find hl _) ?_;unfold iH;refine ax (fun hn1=>ah ⟨h1,fun e=>by cases e⟩) (fun hfound=>?_);have hfound:(cO recs (rk l n)).2=true:=by simpa using hfound
 refine ax (fun _=>ah ⟨h1,fun e=>by cases e⟩) (fun hdirty=>?_);refine ax (fun hver=>ah ⟨h1,fun _ _=>?_⟩) (fun hver=>?_)
 ·show gP (ar.mk rev ins recs) (rk l n)=true;unfold gP;have:(cO recs (rk l n)).1.l=rev:=by simpa using hver
  simp [hfound,this]
 refine au (Nm I rev (rk l n)) fun g ⟨hg1,hg2,hg3⟩=>?_;refine aI (CB I (by omega)) ?_;have hlen:(gg recs g g).length<=1000000:=by have:=sQ I g g; omega
 have hgm:Rm g.length:=by unfold Rm; omega
 refine ax (fun hat=>?_) (fun hat=>?_)
 ·refine aI (Ar (b:=ar.mk rev ins recs) (hB.rm hl).1 (hB.rm hl).2.1 hgm false) (ah ⟨h1.trans (pj.base hE (hB.mark g false (fun e=>by cases e)) rfl rfl (Fu hB g false) hE.sol),fun _ _=>GB hB hfound hg2⟩)
 ·have hlt:a<(gg recs g g).length:=by have hat:¬ (((gg recs g g).length:Int)<=(a:Int)):=of_decide_eq_false hat; omega
  have hc:=cQ hlt;generalize (gg recs g g)[a]=c at hc;have hcr:=zC (aK hc);have hgood:=hB.rdGood (b:=ar.mk rev ins recs) hcr;refine aI (by rw [bj]; exact hc) (aI (KQ hE.base hl c.k1) ?_);refine ax (fun hth=>?_) (fun hth=>?_)
  ·have hth:pP (L6 rev ins recs busy ran 0 rules srev sins srecs memo seen) c.k1=false:=by simpa using hth
   refine au (hu _ c.k1 h1.ok (cI h1.psi hp) hgood (by rw [yX h1.busy]; exact hf)) fun x' ⟨g1,g2⟩=>?_;refine ah ⟨by omega,a,rfl,ha,h1.trans g1,fun e0=>?_,by omega⟩;have ht:=g2 e0;obtain⟨j,hj,hcj⟩:∃ j,j<l.length/\c.k1=rk l j:=by
    rcases hgood with⟨q,_,hq⟩ | h
    ·unfold pP at hth;rw [hq,xh] at hth;simp at hth
    ·exact h
   have hlt2:Ny l x'.B<Ny l (ar.mk rev ins recs):=by
    unfold Ny;unfold pP at ht hth;rw [hcj,JH,Bool.false_or] at ht hth;rw [Bool.or_eq_false_iff] at hth;rw [g1.busy] at ht;have hth1:(dQ busy (rk l j)&&rY (rk l j))=false:=hth.1;have hth2:gP (ar.mk rev ins recs) (rk l j)=false:=hth.2;have ht2:gP x'.B (rk l j)=true:=by
     have ht3:((dQ busy (rk l j)&&rY (rk l j))||gP x'.B (rk l j))=true:=ht;rw [hth1,Bool.false_or] at ht3;exact ht3
    refine Dq (i:=j) (fun m hm=>?_) (by rw [ht2]; rfl) (by rw [hth2]; rfl) _ hj;rw [uZ] at hm ⊢;cases e:gP (ar.mk rev ins recs) (rk l m) with
    | false=>rfl
    | true=>rw [g1.ver _ e] at hm; cases hm
   show k+1+Ny l x'.B*1000001+(1000000-a)<=20000000;omega
  ·refine aI (hB.find hl _) ?_;unfold iG;refine au (AJ C hD hb0 h1.ok.sol h1.ok.base hgood) fun y hy=>?_;refine ax (fun _=>?_) (fun _=>?_)
   ·refine aI (hU _) (ax (fun hcy=>?_) (fun _=>?_))
    ·refine aI (Ar (b:=ar.mk rev ins recs) (hB.rm hl).1 (hB.rm hl).2.1 hgm true) ?_;have hd:true=true->∀ q∈g,rY q=true:=fun _ q hq=>by
      rcases hg3 with⟨_,rfl⟩|⟨_,h⟩
      ·rw [eU.1 hq]; exact hcy
      ·exact (J6 (h q hq)).1
     exact ah ⟨h1.trans (pj.base hE (hB.mark g true hd) rfl rfl (Fu hB g true) hy),fun e=>by cases e⟩
    ·exact ah ⟨h1.trans (pj.base hE hB rfl rfl (n5.refl _) hy),fun e=>by cases e⟩
   ·refine ah ⟨by omega,a+1,cL (by omega),by omega,h1.trans (pj.base hE hB rfl rfl (n5.refl _) hy),fun _=>?_,by omega⟩;show k+1+Ny l (ar.mk rev ins recs)*1000001+(1000000-(a+1))<=20000000;omega
omit hn in
theorem I6:Ok (fE urec vv x (rk l n)) fun y=>pj l V b0 x y.2/\(y.1=false->y.2.E=0->gP y.2.B (rk l n)=true):=by
 have hl:=C.high;unfold fE;refine bP (Q6 l V b0 x) (Si l V b0 x (rk l n)) 20000001 ⟨0,rfl,bT _,pj.refl hx,fun _=>?_,bT _⟩ (fun k s O hI=>(F7 C hD hb0 hu hp hf O s hI).mono fun y hy=>by cases y <;> exact hy) ?_
 ·have:=wa (fun n=>!gP x.B (rk l n)) l.length;show 0+Ny l x.B*1000001+(1000000-0)<=20000000;unfold Ny;omega
 ·rintro (⟨rev,ins,recs,busy,ran,e,rules,srev,sins,srecs,memo,seen⟩|⟨a,x'⟩) hr
  ·exact ah ⟨hr.1,fun _ e0=>absurd e0 hr.2⟩
  ·exact ah hr
end
end
end
section
open Go.Lib hiding intOf
section
variable {l:List aS} {H:Int->ae->ByteArray} {b:ar} {P:ae->Prop}
end
section
variable {l:List aS} {H:Int->ae->ByteArray} {b b0:ar} {V:Nat->ByteArray} {P:ae->Prop} (C:bD l) (hD:Dj l (ta b0) V) (hb0:Rm b0.i.length) (hV:V=Vd l (H b.r))
include C hD hb0 hV
end
end
section
open Go.Lib hiding intOf
section
variable {l:List aS} {H:Int->ae->ByteArray} {b:ar} {P:ae->Prop}
end
section
variable {l:List aS} {V:Nat->ByteArray} {H:Int->ae->ByteArray} {b0:ar} {x y z:aN}
section
variable {urec:aN->ae->Option aN} {f n:Nat} (C:bD l) (hD:Dj l (ta b0) V) (hb0:Rm b0.i.length) (hV:V=Vd l (H b0.r)) (hn:n<l.length) (hx:FW l V b0 x) (hp:psi l x<=8) (hf:Ir l x.m<f)
 (hbl:∀ m,m<l.length->dQ x.m (rk l m)=true->(bI l)[m]? ≠ some true->m≠n->tX (bI l) n<tX (bI l) m)
include C hD hb0 hV hn hx hp hf hbl
end
end
end
section
open Go.Lib hiding intOf
theorem A3 {n:Nat} (h:n<65536):(db (n:Int)).size<=1000:=by
 have h1:(db n).size=(itoa n).length:=by simp [db,ByteArray.size]
 have:=xQ n 9 (by omega);rw [h1,oD]; omega
section
variable {l:List aS} {V:Nat->ByteArray} {b0:ar} {x y z:aN}
structure Sj (l:List aS) (V:Nat->ByteArray) (b0:ar) (x:aN) (k:ae) (x':aN):Prop where
 ok:FW l V b0 x'
 ver:n5 x.B x'.B
 busy:∀ k,dQ x'.m k=dQ x.m k
 psi:(x'.E=0/\psi l x'<=psi l x+1/\gP x'.B k=true)∨(x'.E≠0/\psi l x'<=psi l x)
def QX (l:List aS) (V:Nat->ByteArray) (b0:ar) (x:aN) (N k:Nat):(List ae)×(List ByteArray)×Int×(List be)×(List aA)×(List (ae×Bool))×(List ae)×Int×(List aS)×Int×(List be)×(List aA)×(List (ae×ByteArray))×(List (ae×(List ae)))->Prop
 | (rd,ws,rev,ins,recs,busy,ran,e,rules,srev,sins,srecs,memo,seen)=>pj l V b0 x (L6 rev ins recs busy ran e rules srev sins srecs memo seen)/\ws.length=rd.length/\(∀ q∈rd,jB l q)/\rd.length<=N/\(e=0->rd.length=k)
def Q9 (l:List aS) (V:Nat->ByteArray) (b0:ar) (x:aN) (k:ae):Fl (Int×(List be)×(List aA)×(List (ae×Bool))×(List ae)×Int×(List aS)×Int×(List be)×(List aA)×(List (ae×ByteArray))×(List (ae×(List ae)))) aN->Prop
 | .go (rev,ins,recs,busy,ran,e,rules,srev,sins,srecs,memo,seen)=>pj l V b0 x (L6 rev ins recs busy ran e rules srev sins srecs memo seen)/\e≠0
 | .out x'=>Sj l V b0 x k x'
section
variable {urec:aN->ae->Option aN} {f n:Nat} {r:aS} (C:bD l) (hD:Dj l (ta b0) V) (hb0:Rm b0.i.length) (hu:QY l V b0 urec f) (hn:l[n]? = some r) (hp:psi l x<=8) (hf:Ir l x.m<f)
include C hD hb0 hu hn hp hf
theorem KD {k:Nat}:∀ s,QX l V b0 x r.g.length k s->Ok (gz urec vv (rk l n) s.1 s.2.1 s.2.2.1 s.2.2.2.1 s.2.2.2.2.1 s.2.2.2.2.2.1 s.2.2.2.2.2.2.1 s.2.2.2.2.2.2.2.1 s.2.2.2.2.2.2.2.2.1 s.2.2.2.2.2.2.2.2.2.1 s.2.2.2.2.2.2.2.2.2.2.1 s.2.2.2.2.2.2.2.2.2.2.2.1 s.2.2.2.2.2.2.2.2.2.2.2.2.1 s.2.2.2.2.2.2.2.2.2.2.2.2.2) fun y=>match y with
   | .go s'=>k<r.g.length/\QX l V b0 x r.g.length (k+1) s'
   | .out y=>Q9 l V b0 x (rk l n) y:=by
 rintro⟨rd,ws,rev,ins,recs,busy,ran,e,rules,srev,sins,srecs,memo,seen⟩ ⟨h1,h2,h3,h4,h5⟩;dsimp only;have hl:=C.high;have h3l:=(C.each n r hn).asks;have hnl:=bg hn;have hE:=h1.ok;have hB:ke l (ar.mk rev ins recs):=hE.base;have hru:rules=l:=hE.sol.rules;unfold gz;refine ax (fun he=>?_) (fun he=>ah ⟨h1,by simpa using he⟩);obtain rfl:e=0:=by simpa using he
 have h5:=h5 rfl;obtain⟨t,ht,hcase⟩:=wx C hn (ws:=ws) (by omega);refine aI (by rw [hru]; exact ht) ?_;unfold jA;rcases hcase with⟨e1,rfl⟩|⟨w,hw,rfl⟩
 ·simp only [cond_true];refine aI (hB.find hl _) ?_;obtain⟨m,hm1,hm2⟩:=xf C hn (ls:=ws) (by omega);obtain⟨q,q1,q2,q3,q4⟩:=Hg hB hl hnl (v:=db (vm r ws)) (by rw [hm1]; exact A3 hm2) (reads:=rd) (by omega) h3;have hran:ran.length<=8:=by have h:=h1.psi; unfold psi at h hp; have h:ran.length+_<=x.r1.length+_:=h; omega
  have hput:mw recs q=some (qX recs q):=CY hB.recsA (hB.rm hl).1.1 (by have:=q2.reads; unfold Rm; omega);have hj2:Ok (fg (rk l n) rd rev ins recs busy ran 0 rules srev sins srecs memo seen (db (vm r ws)) false) fun y=>match y with
   | .go s'=>k<r.g.length/\QX l V b0 x r.g.length (k+1) s'
   | .out y=>Q9 l V b0 x (rk l n) y:=by
   unfold fg;simp only [cond_false];refine aI q1 (aI hput (bO (dJ (by simp; omega)) (ah ?_)));obtain⟨v1,v2⟩:=Mq hB q4;rw [q3] at v2;refine⟨⟨hE.sol,hB.put q2,hE.rev,hE.ins,hE.nd⟩,h1.ver.trans v1,h1.busy,.inl ⟨rfl,?_,v2⟩⟩;have hc:=ED (l:=l) (m:=busy) v1 (fun _ e=>e) l.length;have hpp:=h1.psi;have hpp:ran.length+zE (fun n=>!gP (ar.mk rev ins recs) (rk l n)||dQ busy (rk l n)) l.length<=Go.Proofs.YtcpplgcgcbihoaaGreatDoor.psi l x:=hpp;show (ran++[rk l n]).length+zE (fun n=>!gP (ar.mk rev ins (qX recs q)) (rk l n)||dQ busy (rk l n)) l.length<=Go.Proofs.YtcpplgcgcbihoaaGreatDoor.psi l x+1;have hc:zE (fun n=>!gP (ar.mk rev ins (qX recs q)) (rk l n)||dQ busy (rk l n)) l.length<=zE (fun n=>!gP (ar.mk rev ins recs) (rk l n)||dQ busy (rk l n)) l.length:=hc;rw [bm];simp only [j8,rp];omega
  unfold jz;have hrl:=hB.nrec;have hrl:recs.length<=l.length:=hrl;refine ax (fun _=>?_) (fun _=>hj2);rw [decide_eq_false (by omega)];exact hj2
 ·simp only [cond_false];have hlt:=bg hw;obtain⟨_,hg⟩:=qk C hn hw ws;have hgood:jB l (tE l w ws):=by
   rcases hg with⟨_,c,hc,_,e4⟩|⟨_,j,hj,_,e4⟩
   ·exact .inl ⟨c,hc,e4⟩
   ·exact .inr ⟨j,by have:=A9 hnl; omega,e4⟩
  refine au (hu _ (tE l w ws) h1.ok (cI h1.psi hp) hgood (by rw [yX h1.busy]; exact hf)) fun x' ⟨g1,g2⟩=>?_;refine ax (fun he=>?_) (fun he=>?_)
  ·have he:x'.E=0:=by simpa using he
   refine bO (dJ (by simp; omega)) (au (Cy C hD hb0 g1.ok.sol g1.ok.base hgood) fun y hy=>bO (dJ (by simp; omega)) (ah ⟨by omega,(h1.trans g1).trans (pj.base g1.ok g1.ok.base rfl rfl (n5.refl _) hy),?_,?_,?_,fun _=>?_⟩))
   ·rw [bm,bm,h2]; rfl
   ·intro q hq;rcases de.1 hq with hq | hq
    ·exact h3 q hq
    ·rw [eU.1 hq]; exact hgood
   ·rw [bm]; simp; omega
   ·rw [bm,h5]; rfl
  ·have he:x'.E≠0:=by simpa using he
   exact ah ⟨by omega,h1.trans g1,h2,h3,h4,fun e0=>absurd e0 he⟩
theorem Oy (hx:FW l V b0 x):Ok (hR urec vv x (rk l n)) (Sj l V b0 x (rk l n)):=by
 unfold hR;refine bP (QX l V b0 x r.g.length) (Q9 l V b0 x (rk l n)) r.g.length ⟨pj.refl hx,rfl,fun q hq=>absurd hq iJ,bT _,fun _=>rfl⟩ (fun k s O hI=>(KD C hD hb0 hu hn hp hf s hI).mono fun y hy=>by cases y <;> exact hy) ?_;rintro (⟨rev,ins,recs,busy,ran,e,rules,srev,sins,srecs,memo,seen⟩ | x') hr
 ·exact ah ⟨hr.1.ok,hr.1.ver,hr.1.busy,.inr ⟨hr.2,hr.1.psi⟩⟩
 ·exact ah hr
end
theorem xN (m:List (ae×Bool)) (k j:ae):dQ (fV aR k true m) j=(decide (j=k)||dQ m j):=by
 unfold dQ;by_cases e:j=k
 ·subst e;rw [gS]; simp
 ·rw [lA e]; simp [e]
theorem Ex {m:List (ae×Bool)} (h:Nd m) (k j:ae):dQ (td aR k m) j=(!decide (j=k)&&dQ m j):=by
 unfold dQ;rw [JY pT j k h];by_cases e:j=k
 ·subst e;rw [EZ]; simp
 ·rw [JM e]; simp [e]
section
variable {urec:aN->ae->Option aN} {f n:Nat} (C:bD l) (hD:Dj l (ta b0) V) (hb0:Rm b0.i.length) (hu:QY l V b0 urec f) (hn:n<l.length) (hx:FW l V b0 x) (hp:psi l x<=8) (hf:Ir l x.m<f+1)
include C hD hb0 hu hn hx hp hf
theorem OE (hv:gP x.B (rk l n)=false) (hbu:dQ x.m (rk l n)=false):Ok ((fE urec vv (aN.mk x.S x.B (fV aR (rk l n) true x.m) x.r1 x.E) (rk l n)).bind fun u116=>cond u116.1 ((hR urec vv (aN.mk (aw.mk u116.2.S.x (ar.mk u116.2.S.b.r u116.2.S.b.i u116.2.S.b.s) u116.2.S.f u116.2.S.n) (ar.mk u116.2.B.r u116.2.B.i u116.2.B.s) u116.2.m u116.2.r1 u116.2.E) (rk l n)).bind fun u117=>fF (rk l n) u117.B.r u117.B.i u117.B.s u117.m u117.r1 u117.E u117.S.x u117.S.b.r u117.S.b.i u117.S.b.s u117.S.f u117.S.n) (fF (rk l n) u116.2.B.r u116.2.B.i u116.2.B.s u116.2.m u116.2.r1 u116.2.E u116.2.S.x u116.2.S.b.r u116.2.S.b.i u116.2.S.b.s u116.2.S.f u116.2.S.n))
  fun x'=>pj l V b0 x x'/\(x'.E=0->pP x' (rk l n)=true):=by
 have hl:=C.high;have hi:=cQ hn;have hx1:FW l V b0 (aN.mk x.S x.B (fV aR (rk l n) true x.m) x.r1 x.E):=⟨hx.sol,hx.base,hx.rev,hx.ins,Nd.put pT hx.nd _ _⟩;have hp1:psi l (aN.mk x.S x.B (fV aR (rk l n) true x.m) x.r1 x.E)<=psi l x:=by
  refine Nat.add_le_add_left (AO (fun m hm=>?_) _) _;rw [yD] at hm ⊢;rcases hm with hm | hm
  ·exact .inl hm
  ·rw [xN,yD,decide_eq_true_eq] at hm;rcases hm with hm | hm
   ·left; rw [hm,hv]; rfl
   ·exact .inr hm
 have hf1:Ir l (fV aR (rk l n) true x.m)<f:=by
  have:Ir l (fV aR (rk l n) true x.m)<Ir l x.m:=by
   refine Dq (i:=n) (fun m hm=>?_) (by rw [xN]; simp) (by rw [hbu]; rfl) _ hn;rw [xN,uZ,Bool.or_eq_false_iff] at hm;rw [hm.2]; rfl
  omega
 have fin:∀ {x2:aN},FW l V b0 x2->n5 x.B x2.B->(∀ k,dQ x2.m k=(decide (k=rk l n)||dQ x.m k))->(psi l x2<=psi l x∨(psi l x2<=psi l x+1/\gP x2.B (rk l n)=true))->(x2.E=0->gP x2.B (rk l n)=true) ->
   pj l V b0 x ⟨x2.S,x2.B,td aR (rk l n) x2.m,x2.r1,x2.E⟩/\(x2.E=0->pP ⟨x2.S,x2.B,td aR (rk l n) x2.m,x2.r1,x2.E⟩ (rk l n)=true):=by
  intro x2 q1 q2 q3 q4 q5;have hbz:∀ k,dQ (td aR (rk l n) x2.m) k=dQ x.m k:=fun k=>by
   rw [Ex q1.nd,q3];by_cases e:k=rk l n
   ·rw [e,hbu]; simp
   ·simp [e]
  have hm:∀ m,(!gP x2.B (rk l m)||dQ (td aR (rk l n) x2.m) (rk l m))=true->(!gP x2.B (rk l m)||dQ x2.m (rk l m))=true:=fun m hm=>by
   rw [yD] at hm ⊢;rcases hm with hm | hm
   ·exact .inl hm
   ·rw [Ex q1.nd,ri] at hm;exact .inr hm.2
  refine⟨⟨⟨q1.sol,q1.base,q1.rev,q1.ins,Nd.del pT q1.nd _⟩,q2,hbz,?_⟩,fun e0=>?_⟩
  ·rcases q4 with q4 | ⟨q4,q6⟩
   ·exact cI (Nat.add_le_add_left (AO hm _) _) q4
   ·have hlt:zE (fun m=>!gP x2.B (rk l m)||dQ (td aR (rk l n) x2.m) (rk l m)) l.length<zE (fun m=>!gP x2.B (rk l m)||dQ x2.m (rk l m)) l.length:=Dq (i:=n) hm (by rw [q6,hbz,hbu]; rfl) (by rw [q3]; simp) l.length hn;have q4:x2.r1.length+zE (fun m=>!gP x2.B (rk l m)||dQ x2.m (rk l m)) l.length<=Go.Proofs.YtcpplgcgcbihoaaGreatDoor.psi l x+1:=q4;show x2.r1.length+zE (fun m=>!gP x2.B (rk l m)||dQ (td aR (rk l n) x2.m) (rk l m)) l.length<=Go.Proofs.YtcpplgcgcbihoaaGreatDoor.psi l x;omega
  ·unfold pP;have:gP x2.B (rk l n)=true:=q5 e0;show (_||gP x2.B (rk l n))=true;rw [this,Bool.or_true]
 refine au (I6 C hD hb0 hu hx1 (cI hp1 hp) hf1) fun u ⟨g1,g2⟩=>?_;have hbu2:∀ k,dQ u.2.m k=(decide (k=rk l n)||dQ x.m k):=fun k=>by rw [g1.busy,xN]
 refine ax (fun hc=>?_) (fun hc=>?_)
 ·refine au (Oy C hD hb0 hu hi (x:=u.2) (cI g1.psi (cI hp1 hp)) (by rw [yX g1.busy]; exact hf1) g1.ok) fun x3 h3=>?_;refine ah (fin h3.ok (n5.trans g1.ver h3.ver) (fun k=>(h3.busy k).trans (hbu2 k)) ?_ fun e0=>?_)
  ·have:=cI g1.psi hp1;rcases h3.psi with⟨_,h,h'⟩|⟨_,h⟩
   ·exact .inr ⟨by omega,h'⟩
   ·exact .inl (by omega)
  ·rcases h3.psi with⟨_,_,h'⟩|⟨h,_⟩
   ·exact h'
   ·exact absurd e0 h
 ·exact ah (fin g1.ok g1.ver hbu2 (.inl (cI g1.psi hp1)) (g2 hc))
end
theorem Nz (C:bD l) (hD:Dj l (ta b0) V) (hb0:Rm b0.i.length):∀ f,QY l V b0 (IL f) f
 | 0=>fun x k _ _ _ h=>absurd h (by omega)
 | f+1=>by
  intro x k hx hp O hf;have ih:=Nz C hD hb0 f;have hl:=C.high;show Ok (kR (IL f) vv x k) _;unfold kR;refine ax (fun he=>ah ⟨pj.refl hx,fun e0=>by rw [e0] at he; cases he⟩) (fun he=>?_);refine aI (oC k) (ax (fun hi=>ah ⟨pj.refl hx,fun _=>?_⟩) (fun hi=>?_))
  ·unfold pP;rw [hi]; rfl
  ·obtain⟨n,hn,rfl⟩:∃ n,n<l.length/\k=rk l n:=by
    rcases O with⟨c,_,rfl⟩ | h
    ·rw [xh] at hi; cases hi
    ·exact h
   refine aI (hx.base.find hl _) ?_;have hj3:gP x.B (rk l n)=false->Ok (fG (IL f) vv x (rk l n) false) fun x'=>pj l V b0 x x'/\(x'.E=0->pP x' (rk l n)=true):=fun hv=>by
    unfold fG;simp only [cond_false,ad];refine ax (fun hbu=>?_) (fun hbu=>OE C hD hb0 ih hn hx hp hf hv hbu);refine aI (hU _) (ax (fun hcy=>?_) (fun hcy=>?_))
    ·exact ah ⟨⟨⟨hx.sol,hx.base,hx.rev,hx.ins,hx.nd⟩,n5.refl _,fun _=>rfl,bZ _⟩,fun e0=>by cases e0⟩
    ·refine ah ⟨⟨⟨hx.sol,hx.base,hx.rev,hx.ins,hx.nd⟩,n5.refl _,fun _=>rfl,bZ _⟩,fun e0=>?_⟩;have hc:rY (rk l n)=true:=by simpa using hcy
     have hbu:dQ x.m (rk l n)=true:=hbu;unfold pP;show (_||(dQ x.m (rk l n)&&rY (rk l n))||_)=true;rw [hc,hbu]; simp
   unfold kp;refine ax (fun hf2=>?_) (fun hf2=>hj3 (by unfold gP; rw [hf2]; rfl));cases hver:((cO x.B.s (rk l n)).1.l==x.B.r) with
   | true =>
    refine ah ⟨pj.refl hx,fun _=>?_⟩;unfold pP gP;rw [hf2,show (cO x.B.s (rk l n)).1.l=x.B.r by simpa using hver];simp
   | false=>exact hj3 (by unfold gP; rw [show decide ((cO x.B.s (rk l n)).1.l=x.B.r)=false by simpa using hver,Bool.and_false])
end
end
section
open Go.Lib hiding intOf
section
variable {l:List aS} {V:Nat->ByteArray} {H:Int->ae->ByteArray} {b0:ar} {x y z:aN}
section
variable {urec:aN->ae->Option aN} {f n:Nat} {r:aS} (C:bD l) (hD:Dj l (ta b0) V) (hb0:Rm b0.i.length) (hV:V=Vd l (H b0.r)) (hn:l[n]? = some r) (hx:FW l V b0 x) (hp:psi l x<=8) (hf:Ir l x.m<f)
 (hbl:∀ m,m<l.length->dQ x.m (rk l m)=true->(bI l)[m]? ≠ some true->m≠n->tX (bI l) n<tX (bI l) m) (ho:DS x.B.s x.B.r (rk l n)=false)
include C hD hb0 hV hn hx hp hf hbl ho
end
section
variable {urec:aN->ae->Option aN} {f n:Nat} (C:bD l) (hD:Dj l (ta b0) V) (hb0:Rm b0.i.length) (hV:V=Vd l (H b0.r)) (hn:n<l.length) (hx:FW l V b0 x) (hp:psi l x<=8) (hf:Ir l x.m<f+1) (he:x.E=0)
include C hD hb0 hV hn hx hp hf he
end
end
end
section
open Go.Lib hiding intOf
theorem dM {ρ:Type} {B:Int->Option (Fl Int ρ)} {r:ρ} (n:Nat) (hgo:∀ k,k<n->B (k:Int)=some (.go ((k+1:Nat):Int))) (hn:B (n:Int)=some (.out r)):loop B 0=some r :=
 jx (B:=B) (fun k=>(k:Int)) n rfl hgo hn
section
variable {l:List aS} {b:ar}
theorem Iz (hl:l.length<=8) {rev:Int} (hrev:rev<=1000000) {r:aA} (h:tC l rev r):qC r=some true:=by
 obtain⟨n,hn,O⟩:=h.key;have h3:=h.reads;have h4:=h.value;have h5:=h.low;have h6:=h.mid;have h7:=h.high;have h8:=h.cost;unfold qC;refine fL (dM (r:=Fl.go ()) r.v.length (fun k O=>?_) ?_) ?_
 ·unfold lM;rw [dlt O,cond_true,bE O,ad,(h.good _ (gX O)).valid hl,ad,cL (by omega)];rfl
 ·unfold lM;rw [bS]; rfl
 ·show lL r=some true;unfold lL;rw [O,Bu (by omega),ad,cond_true,sG,ad,decide_eq_true (by omega),decide_eq_true (by omega),decide_eq_true (by omega),decide_eq_true (by omega),decide_eq_true (by omega),decide_eq_true (by omega),decide_eq_true (by omega)];simp only [jj,cond_true];rw [hU,ad];unfold cW;cases hd:r.d1 with
  | false=>rfl
  | true =>
   have:=h.dirty hd;rw [O] at this;rw [this]; rfl
theorem KX (h:ke l b) (hl:l.length<=8):kK b.s=some true:=by
 have hn:=h.nrec;unfold kK;refine fL (dM (r:=Fl.go ()) b.s.length (fun k O=>?_) ?_) ?_
 ·unfold io;rw [dlt O,cond_true,bE O,ad,Iz hl h.rev.2 (h.recs _ (gX O)),ad];have hj:eL (k:Int) false=some (.go ((k+1:Nat):Int)):=by unfold eL; rw [cL (by omega)]; rfl
  simp only [eT,cond_false];rcases xB k with h0 | h0
  ·subst h0;exact hj
  ·rw [decide_eq_true (by omega),cond_true,show IntKind.i64.wrap ((k:Int)-1)=((k-1:Nat):Int) by rw [lx (by omega) (by omega)]; omega,bE (show k-1<b.s.length by omega),ad,oq,ad];have:=fJ.1 h.recsA (k-1) k (by omega) O (by omega);rw [decide_eq_false (by omega)];exact hj
 ·unfold io;rw [bS]; rfl
 ·show some (decide ((b.s.length:Int)<=4000))=some true;rw [decide_eq_true (by omega)]
theorem Eb (h:ke l b) (hl:l.length<=8):lP b=some true:=by
 have hn:=h.nrec;have hi:=h.nin;have hrev:=h.rev;unfold lP;refine fL (dM (r:=Fl.go ()) b.i.length (fun k O=>?_) ?_) ?_
 ·have hx:=h.ins _ (gX O);obtain⟨c,hc,hkey⟩:=hx.key;have h1:=hx.value;have h2:=hx.low;have h3:=hx.high;unfold lT;rw [dlt O,cond_true,bE O,ad,hkey,w9 (by omega),ad];have hj:dt (k:Int) false=some (.go ((k+1:Nat):Int)):=by unfold dt; rw [cL (by omega)]; rfl
  simp only [eT,cond_false];rw [pv,ad];simp only [eT,cond_false];rw [decide_eq_false (show ¬ (1073741824:Int)<(b.i[k].u.size:Int) by omega),decide_eq_false (show ¬ (b.i[k].c:Int)<0 by omega),decide_eq_false (show ¬ (b.r:Int)<b.i[k].c by omega)];rcases xB k with h0 | h0
  ·subst h0;exact hj
  ·rw [decide_eq_true (by omega),cond_true,show IntKind.i64.wrap ((k:Int)-1)=((k-1:Nat):Int) by rw [lx (by omega) (by omega)]; omega,bE (show k-1<b.i.length by omega),ad,oq,ad];have:=fJ.1 h.insA (k-1) k (by omega) O (by omega);rw [hkey] at this;rw [decide_eq_false (by omega)];exact hj
 ·unfold lT;rw [bS]; rfl
 ·show lR b=some true;unfold lR;refine fL (dM (r:=Fl.go ()) b.s.length (fun k O=>?_) ?_) ?_
  ·have:=(h.recs _ (gX O)).high;unfold lS;rw [dlt O,cond_true,bE O,ad,decide_eq_false (by omega),cL (by omega)]; rfl
  ·unfold lS;rw [bS]; rfl
  ·show lQ b=some true;unfold lQ;rw [decide_eq_true hrev.1,decide_eq_true (by omega),decide_eq_true (by omega),KX h hl]; rfl
theorem Kr (hl:l.length<=8) {k:ae} (O:jB l k):od l k=some true:=by
 unfold od;rw [O.valid hl,ad,cond_true];rcases O with⟨c,hc,rfl⟩|⟨n,hn,rfl⟩
 ·rfl
 ·have h1:∀ q,f9 ((q:ae).k==q.k&&q.t.toList==q.t.toList)=some true:=fun q=>by unfold f9; simp
  rcases rH (l:=l) (n:=n) with⟨h,_⟩|⟨h,_⟩
  ·rw [show ((rk l n).k != 31)=false by rw [h]; rfl,cond_false,pN,ad,Bs (by omega),Bt hn (by omega),ad];exact h1 _
  ·rw [show ((rk l n).k != 31)=true by rw [h]; rfl,cond_true,show ((rk l n).k != 32)=false by rw [h]; rfl,cond_false,pN,ad,Bs (by omega),Bt hn (by omega),ad];exact h1 _
theorem Do (C:bD l) (h:ke l b) {goals:List ae} (hg:∀ k∈goals,jB l k) (hn:goals.length<=32):lX l b goals=some 0:=by
 have hl:=C.high;unfold lX;rw [IB C.bnd,Gj C,ad];simp only [eT,cond_false];rw [Eb h hl,ad,decide_eq_false (by omega)];simp only [eT,cond_false];refine fL (dM (r:=Fl.go ()) goals.length (fun k O=>?_) ?_) rfl
 ·unfold lY;rw [dlt O,cond_true,bE O,ad,Kr hl (hg _ (gX O)),ad,cL (by omega)]; rfl
 ·unfold lY;rw [bS]; rfl
def SA (l:List aS) (V:Nat->ByteArray) (b0:ar) (k:Nat):Int×Int×(List be)×(List aA)×(List (ae×Bool))×(List ae)×Int×(List aS)×Int×(List be)×(List aA)×(List (ae×ByteArray))×(List (ae×(List ae)))->Prop
 | (i,rev,ins,recs,busy,ran,e,rules,srev,sins,srecs,memo,seen)=>i=(k:Int)/\FW l V b0 (L6 rev ins recs busy ran e rules srev sins srecs memo seen)/\psi l (L6 rev ins recs busy ran e rules srev sins srecs memo seen)<=8
def SB (l:List aS) (V:Nat->ByteArray) (b0:ar):Int×(List be)×(List aA)×(List (ae×Bool))×(List ae)×Int×(List aS)×Int×(List be)×(List aA)×(List (ae×ByteArray))×(List (ae×(List ae)))->Prop
 | (rev,ins,recs,busy,ran,e,rules,srev,sins,srecs,memo,seen)=>FW l V b0 (L6 rev ins recs busy ran e rules srev sins srecs memo seen)/\psi l (L6 rev ins recs busy ran e rules srev sins srecs memo seen)<=8
structure w6 (l:List aS) (b b':ar):Prop where
 ok:ke l b'
 rev:b'.r=b.r
 ins:b'.i=b.i
theorem Bp (C:bD l) (h:ke l b) {goals:List ae} (hg:∀ k∈goals,jB l k) (hn:goals.length<=32):Ok (ld uu l b goals) fun y=>w6 l b y.1:=by
 have hl:=C.high;have hb0:=(h.rm hl).2.1;have hD:=Js (ta b) C;have hcp:=xb (h.rm hl).1 hb0;unfold ld;rw [hcp,ad,Do C h hg hn,ad];simp only [show ((0:Int) != 0)=false from rfl,cond_false];refine aI (v:=aw.mk l b [] []) rfl ?_;rw [hcp,ad];unfold my;refine bP (SA l (Vd l (ta b)) b) (SB l (Vd l (ta b)) b) goals.length ?_ ?_ ?_
 ·refine⟨rfl,⟨⟨rfl,rfl,fun n _ v e=>(by cases e),fun c=>rfl⟩,h,rfl,rfl,rn⟩,?_⟩;have:=wa (fun n=>!gP b (rk l n)||dQ [] (rk l n)) l.length;show 0+zE (fun n=>!gP b (rk l n)||dQ [] (rk l n)) l.length<=8;omega
 ·rintro k ⟨i,rev,ins,recs,busy,ran,e,rules,srev,sins,srecs,memo,seen⟩ O ⟨rfl,h1,h2⟩;dsimp only;unfold mz;refine ax (fun hlt=>?_) (fun _=>ah ⟨h1,h2⟩);have hlt:k<goals.length:=by have:=of_decide_eq_true hlt; omega
  have hnb:=wa (fun n=>!dQ busy (rk l n)) l.length;refine aI (bE hlt) (au (Nz C hD hb0 40 _ _ h1 h2 (hg _ (gX hlt)) (show zE (fun n=>!dQ busy (rk l n)) l.length<40 by omega)) fun x' ⟨g1,_⟩=>?_);exact ah ⟨hlt,cL (by omega),g1.ok,cI g1.psi h2⟩
 ·rintro⟨rev,ins,recs,busy,ran,e,rules,srev,sins,srecs,memo,seen⟩ ⟨h1,h2⟩;dsimp only;unfold jS;refine ax (fun _=>ah ⟨h,rfl,rfl⟩) (fun _=>?_);have hr:ran.length<=8:=by
   have h2:ran.length+_<=8:=h2;omega
  obtain⟨m,hm,_⟩:=wS (l:=ran) (by unfold Rm; omega);exact aI hm (ah ⟨h1.base,h1.rev,h1.ins⟩)
theorem LX (C:bD l) {d:List Int} {i:Int} (hd:cz d i):Ok (tR ⟨d,i⟩ l) fun y=>jB l y.1/\cz y.2.L y.2.i1:=by
 have hl:=C.high;have h2l:=C.low;unfold tR;refine au (dZ hd (by omega) (by omega)) fun y ⟨_,_,d1⟩=>ax (fun _=>?_) (fun _=>?_)
 ·refine au (dZ d1 (by omega) (by omega)) fun z ⟨z1,z2,d2⟩=>?_;obtain⟨c,hc⟩:∃ c:Nat,z.1=c:=⟨z.1.toNat,by omega⟩;rw [hc];exact aI (xm (by omega)) (ah ⟨.inl ⟨c,by omega,rfl⟩,d2⟩)
 ·refine au (dZ d1 (by omega) (by omega)) fun z ⟨z1,z2,d2⟩=>ax (fun _=>?_) (fun _=>?_)
  ·refine au (dZ d2 (by omega) (by omega)) fun w ⟨w1,w2,d3⟩=>?_;have e1:IntKind.i64.wrap ((l.length:Int)-1)=(l.length:Int)-1:=lx (by omega) (by omega);rw [e1,lx (by omega) (by omega)];obtain⟨c,hc⟩:∃ c:Nat,(l.length:Int)-1-w.1=c:=⟨((l.length:Int)-1-w.1).toNat,by omega⟩;rw [hc];exact aI (Bt (by omega) (by omega)) (ah ⟨.inr ⟨c,by omega,rfl⟩,d3⟩)
  ·refine au (dZ d2 (by omega) (by omega)) fun w ⟨w1,w2,d3⟩=>?_;obtain⟨c,hc⟩:∃ c:Nat,w.1=c:=⟨w.1.toNat,by omega⟩;rw [hc];exact aI (Bt (by omega) (by omega)) (ah ⟨.inr ⟨c,by omega,rfl⟩,d3⟩)
theorem A1 (C:bD l) {d:List Int} {i:Int} (hd:cz d i) {most:Int} (h1:1<=most) (h2:most<=30):Ok (nS ⟨d,i⟩ l most) fun y=>(∀ k∈y.1,jB l k)/\y.1.length<=32/\cz y.2.L y.2.i1:=by
 unfold nS;refine au (dZ hd h1 (by omega)) fun y ⟨y1,y2,d1⟩=>?_;rw [lx (by omega) (by omega)];refine bP (fun (k:Nat) (s:(List ae)×Int×(List Int)×Int)=>(∀ q∈s.1,jB l q)/\s.1.length=k/\s.2.1=y.1+1-k/\cz s.2.2.1 s.2.2.2) (fun r=>(∀ q∈r.1,jB l q)/\r.1.length<=32/\cz r.2.1 r.2.2) 31 ⟨fun q hq=>absurd hq iJ,rfl,by simp,d1⟩ ?_ (fun r hr=>ah hr);rintro k ⟨gs,c,d,i⟩ O ⟨g1,g2,g3,g4⟩;dsimp only at g1 g2 g3 g4 ⊢;unfold pV;refine ax (fun hc=>?_) (fun _=>ah ⟨g1,by show gs.length<=32; omega,g4⟩);have hc:=of_decide_eq_true hc;refine au (LX C g4) fun z ⟨z1,z2⟩=>bO (dJ (by simp; omega)) (ah ⟨by omega,?_,by rw [bm,g2]; rfl,?_,z2⟩)
 ·intro q hq;rcases de.1 hq with hq | hq
  ·exact g1 q hq
  ·rw [eU.1 hq]; exact z1
 ·show IntKind.i64.wrap (c-1)=_;rw [lx (by omega) (by omega)]; omega
end
end
section
open Go.Lib hiding intOf
section
variable {l:List aS} {V:Nat->ByteArray} {H:Int->ae->ByteArray} {b:ar}
end
end
section
open Go.Lib hiding intOf
variable {fs:List bR}
section
variable {l:List aS} {V:Nat->ByteArray} {b0 b:ar}
theorem Ds (C:bD l):kS l=some l:=by
 have h8:=C.high;unfold kS kq;refine fL (dG (xs:=l) (fun k=>(l.take k,(k:Int))) rfl (r:=l) (fun k x hx=>?_) ?_) rfl
 ·have hlt:=bg hx;have:=(C.each k x hx).asks;unfold iu;dsimp only;rw [dlt hlt,cond_true,bj,hx,ad,dJ (by simp; omega),dJ (by rw [fe]; simp; omega),cL (by omega),bM hx];rfl
 ·unfold iu;dsimp only;rw [bS,fK]; rfl
structure Ej (l:List aS) (f:bR):Prop where
 key:∃ n,n<l.length/\f.d=rk l n
 at0:0<=f.i1
 at1:f.i1<=1000000
 reads:f.v.length<=3
 same:f.e.length=f.v.length
 good:∀ k∈f.v,jB l k
theorem wJ (h:∀ f∈fs,Ej l f) (hl:fs.length<=1000):eR fs=some fs:=by
 unfold eR dh;refine fL (dG (xs:=fs) (fun k=>(fs.take k,(k:Int))) rfl (r:=fs) (fun k x hx=>?_) ?_) rfl
 ·have hlt:=bg hx;have hf:=h x (aK hx);have h1:=hf.reads;have h2:=hf.same;unfold cq;dsimp only;rw [dlt hlt,cond_true,bj,hx,ad,dJ (by simp; omega),dJ (by simp; omega),dJ (by rw [fe]; simp; omega),cL (by omega),bM hx];rfl
 ·unfold cq;dsimp only;rw [bS,fK]; rfl
theorem J4 (hl:fs.length<=1000) (k:ae):Ok (sB fs k) fun _=>True:=by
 unfold sB;refine bP (fun (i:Nat) (s:Int)=>s=i/\i<=fs.length) (fun _=>True) fs.length ⟨rfl,bT _⟩ ?_ ?_
 ·rintro i _ hi ⟨rfl,_⟩;unfold sW;refine ax (fun hlt=>?_) (fun _=>ah trivial);have hlt:i<fs.length:=by have:=of_decide_eq_true hlt; omega
  refine aI (bE hlt) (ax (fun _=>ah trivial) (fun _=>ah ⟨hlt,cL (by omega),hlt⟩))
 ·rintro (_ | _) _ <;> exact ah trivial
theorem CR (hl:l.length<=8) (hb:ke l b) (hf:fs.length<=1000) {k:ae} (O:jB l k):Ok (mA b fs k) fun y=>y=true->∃ n,n<l.length/\k=rk l n:=by
 unfold mA;refine aI (oC k) (ax (fun _=>ah fun e=>by cases e) (fun hi=>?_));have hn:∃ n,n<l.length/\k=rk l n:=by
  rcases O with⟨c,_,rfl⟩ | h
  ·rw [xh] at hi; cases hi
  ·exact h
 refine au (J4 hf k) fun _ _=>ax (fun _=>ah fun _=>hn) (fun _=>aI (hb.find hl k) (ax (fun _=>ah fun _=>hn) (fun _=>ah fun _=>hn)))
theorem Hf (hl:l.length<=8) (hb:ke l b) (hf:fs.length<=1000) {k:ae} (O:jB l k):Ok (pK b fs [] k) fun y=>y=1->∃ n,n<l.length/\k=rk l n:=by
 have hj:∀ g,Ok (lg b fs [] k g) fun y=>y=1->∃ n,n<l.length/\k=rk l n:=fun g=>by
  unfold lg;refine ax (fun _=>ah fun e=>by cases e) (fun _=>au (CR hl hb hf O) fun y hy=>ax (fun _=>ah fun e=>by cases e) (fun hn=>?_));have hn:=hy (by simpa using hn);refine au (J4 (by simp) k) fun _ _=>ax (fun _=>ah fun _=>hn) (fun _=>aI (hU _) (ax (fun _=>ah fun _=>hn) (fun _=>ah fun _=>hn)))
 unfold pK;exact aI (hU _) (ax (fun _=>au (J4 hf k) fun _ _=>hj _) (fun _=>hj _))
structure GF (l:List aS) (V:Nat->ByteArray) (b0 b:ar) (N:Nat) (y:ar×(List bR)×(List ae)×Bool×Int×aw):Prop where
 lv:w6 l b y.1
 fr:∀ f∈y.2.1,Ej l f
 len:y.2.1.length<=N+1
 wk:y.2.2.1.length<=1
 sol:tx l V b0 y.2.2.2.2.2
theorem KG (h:∀ f∈fs,Ej l f) {f:bR} (hf:Ej l f) (i:Nat):∀ g∈fs.set i f,Ej l g:=fun g hg=>by
 rcases List.mem_or_eq_of_mem_set hg with hg | rfl
 ·exact h g hg
 ·exact hf
theorem F3 (h:∀ f∈fs,Ej l f) {n:Nat} (hn:n<l.length):∀ g∈fs++[bR.mk (rk l n) false 0 [] []],Ej l g:=fun g hg=>by
 rcases de.1 hg with hg | hg
 ·exact h g hg
 ·rw [eU.1 hg];exact⟨⟨n,hn,rfl⟩,rj _,by show (0:Int)<=1000000; omega,bT _,rfl,fun k O=>absurd O iJ⟩
theorem Ig (C:bD l) (hD:Dj l (ta b0) V) (hb0:Rm b0.i.length) {s:aw} (hs:tx l V b0 s) (hb:ke l b) (hf:∀ f∈fs,Ej l f) (h0:0<fs.length) (hlen:fs.length<=900) :
  Ok (oW vv s b fs []) (GF l V b0 b fs.length):=by
 have hl:=C.high;have I:H1 b.s:=(hb.rm hl).2.2;have hw:IntKind.i64.wrap ((fs.length:Int)-1)=((fs.length-1:Nat):Int):=by rw [lx (by omega) (by omega)]; omega
 have hlast:=cQ (l:=fs) (i:=fs.length-1) (by omega);have hmem:=aK hlast;generalize fs[fs.length-1]=f at hlast hmem;have hF:=hf f hmem;obtain⟨n,hn,hkey⟩:=hF.key;have hi:=cQ hn;generalize l[n]=r at hi;have lv0:w6 l b b:=⟨hb,rfl,rfl⟩;have htake:∀ g∈fs.take (fs.length-1),Ej l g:=fun g hg=>hf g (HX hg);have hru:=hs.rules;have hr3:=hF.reads;have hsm:=hF.same;unfold oW;refine aI (xb (hb.rm hl).1 (hb.rm hl).2.1) (aI (wJ hf (by omega)) ?_);rw [hw];refine aI (by rw [bj]; exact hlast) (aI (tZ (by omega)) (aI (hb.find hl _) ?_));unfold nN;refine ax (fun hrun=>?_) (fun hrun=>?_)
 ·obtain⟨t,ht,hcase⟩:∃ t,eN l (rk l n) f.e=some t/\((r.g.length<=f.e.length/\t=⟨true,db (vm r (f.e.take r.g.length)),⟨0,⟨#[]⟩⟩⟩)∨∃ x,r.g[f.e.length]? = some x/\t=⟨false,⟨#[]⟩,tE l x f.e⟩):=by
   rcases iz f.e.length r.g.length with h1 | h1
   ·exact⟨_,BG C hi (cQ h1),.inr ⟨_,cQ h1,rfl⟩⟩
   ·exact⟨_,zh C hi h1,.inl ⟨h1,rfl⟩⟩
  refine aI (by rw [hru,hkey]; exact ht) ?_;unfold nL;rcases hcase with⟨_,rfl⟩|⟨x,hx,rfl⟩
  ·simp only [cond_true];obtain⟨m,hm1,hm2⟩:=xf C hi (ls:=f.e.take r.g.length) (by rw [fe]; omega);obtain⟨q,q1,q2,q3,q4⟩:=Hg hb hl hn (v:=db (vm r (f.e.take r.g.length))) (by rw [hm1]; exact A3 hm2) hr3 hF.good;have hput:mw b.s q=some (qX b.s q):=CY hb.recsA (hb.rm hl).1.1 (by have:=q2.reads; unfold Rm; omega);have hj2:Ok (iR s b fs f (fs.take (fs.length-1)) (db (vm r (f.e.take r.g.length))) false) (GF l V b0 b fs.length):=by
    unfold iR;simp only [cond_false];refine aI (by rw [hkey]; exact q1) (aI hput (ah ⟨⟨hb.put q2,rfl,rfl⟩,htake,?_,bZ _,hs⟩));show (fs.take (fs.length-1)).length<=fs.length+1;rw [fe]; omega
   have hrl:=hb.nrec;rw [decide_eq_false (by omega)];exact ax (fun _=>hj2) (fun _=>hj2)
  ·simp only [cond_false];have hlt:=bg hx;have h3:=(C.each n r hi).asks;obtain⟨_,hg⟩:=qk C hi hx f.e;have hgood:jB l (tE l x f.e):=by
    rcases hg with⟨_,c,hc,_,e4⟩|⟨_,j,hj,_,e4⟩
    ·exact .inl ⟨c,hc,e4⟩
    ·exact .inr ⟨j,by have:=A9 hn; omega,e4⟩
   refine au (Hf hl hb (by omega) hgood) fun y hy=>?_;refine ax (fun h1=>?_) (fun _=>ax (fun _=>?_) (fun _=>ax (fun _=>?_) (fun _=>?_)))
   ·obtain⟨m,hm,e⟩:=hy (by simpa using h1);refine bO (dJ (by simp; omega)) (ah ⟨lv0,?_,?_,bT _,hs⟩)
    ·have e:tE l x f.e=rk l m:=e;show ∀ g∈fs++[bR.mk (tE l x f.e) false 0 [] []],Ej l g;rw [e]; exact F3 hf hm
    ·show (fs++[_]).length<=_;rw [bm]; exact bZ _
   ·exact ah ⟨lv0,hf,zr _,bT _,hs⟩
   ·exact ah ⟨lv0,hf,zr _,bT _,hs⟩
   ·refine bO (dJ (by simp; omega)) (au (Cy C hD hb0 hs hb hgood) fun z hz=>bO (dJ (by simp; omega)) ?_);have hnew:Ej l (bR.mk f.d f.w f.i1 (f.v++[tE l x f.e]) (f.e++[z.1])):=by
     refine⟨hF.key,hF.at0,hF.at1,?_,?_,?_⟩
     ·show (f.v++[_]).length<=3;rw [bm]; simp; omega
     ·show (f.e++[_]).length=(f.v++[_]).length;rw [bm,bm,hsm]; rfl
     ·intro k O;rcases de.1 O with O | O
      ·exact hF.good k O
      ·rw [eU.1 O]; exact hgood
    exact ah ⟨lv0,KG hf hnew _,by show (fs.set _ _).length<=_; rw [FK]; exact zr _,bT _,hz⟩
 ·refine au (Nm I b.r f.d) fun g ⟨hg1,hg2,hg3⟩=>aI (CB I (by omega)) ?_;have hclen:(gg b.s g g).length<=1000000:=by have:=sQ I g g; omega
  have hgm:Rm g.length:=by unfold Rm; omega
  have qU:∀ i f',Ej l f'->(∀ g∈fs.set i f',Ej l g)/\(fs.set i f').length<=fs.length+1:=fun i f' hf'=>⟨KG hf hf' i,by rw [FK]; exact zr _⟩;have hrun1:Ej l (bR.mk f.d true 0 f.v f.e):=⟨hF.key,rj _,by show (0:Int)<=1000000; omega,hF.reads,hF.same,hF.good⟩;have hj5:∀ q:Bool,(q=false->(cO b.s f.d).2=true)->Ok (iS vv s [] b fs f (fs.take (fs.length-1)) g (gg b.s g g) q) (GF l V b0 b fs.length):=fun q hq=>by
   unfold iS;refine ax (fun _=>ah ⟨lv0,(qU _ _ hrun1).1,(qU _ _ hrun1).2,bT _,hs⟩) (fun _=>?_);refine ax (fun _=>?_) (fun hat=>?_)
   ·refine aI (Ar (hb.rm hl).1 (hb.rm hl).2.1 hgm false) (ah ⟨⟨hb.mark g false (fun e=>by cases e),rfl,rfl⟩,htake,?_,bT _,hs⟩);show (fs.take (fs.length-1)).length<=fs.length+1;rw [fe]; omega
   ·have hat:=of_decide_eq_false hat;have hat0:=hF.at0;obtain⟨a,ha⟩:∃ a:Nat,f.i1=a:=⟨f.i1.toNat,by omega⟩;have hlt:a<(gg b.s g g).length:=by omega
    have hc:=cQ hlt;generalize (gg b.s g g)[a]=c at hc;have hgood:=hb.rdGood (zC (aK hc));refine aI (by rw [ha,bj]; exact hc) (au (Hf hl hb (by omega) hgood) fun y hy=>?_);refine ax (fun h1=>?_) (fun _=>ax (fun _=>?_) (fun _=>ax (fun _=>?_) (fun _=>?_)))
    ·obtain⟨m,hm,e⟩:=hy (by simpa using h1);refine bO (dJ (by simp; omega)) (ah ⟨lv0,?_,?_,bT _,hs⟩)
     ·show ∀ g∈fs++[bR.mk c.k1 false 0 [] []],Ej l g;rw [e]; exact F3 hf hm
     ·show (fs++[_]).length<=_;rw [bm]; exact bZ _
    ·exact ah ⟨lv0,hf,zr _,bT _,hs⟩
    ·exact ah ⟨lv0,hf,zr _,bT _,hs⟩
    ·refine aI (hb.find hl _) (au (Q:=fun z:Int×aw=>tx l V b0 z.2) (by unfold uA; exact au (AJ C hD hb0 hs hb hgood) fun z hz=>ah hz) fun z hz=>?_);refine ax (fun _=>?_) (fun _=>?_)
     ·have hw1:IntKind.i64.wrap (f.i1+1)=f.i1+1:=lx (by omega) (by omega);have hf':Ej l (bR.mk f.d f.w (IntKind.i64.wrap (f.i1+1)) f.v f.e):=⟨hF.key,by show 0<=IntKind.i64.wrap (f.i1+1); rw [hw1]; omega,by show IntKind.i64.wrap (f.i1+1)<=_; rw [hw1]; omega,hF.reads,hF.same,hF.good⟩;exact ah ⟨lv0,(qU _ _ hf').1,(qU _ _ hf').2,bT _,hz⟩
     ·refine aI (hU _) (ax (fun hcy=>?_) (fun _=>?_))
      ·have hd:true=true->∀ q∈g,rY q=true:=fun _ q hq=>by
        rcases hg3 with⟨_,rfl⟩|⟨_,h⟩
        ·rw [eU.1 hq]; exact hcy
        ·exact (J6 (h q hq)).1
       exact aI (Ar (hb.rm hl).1 (hb.rm hl).2.1 hgm true) (ah ⟨⟨hb.mark g true hd,rfl,rfl⟩,(qU _ _ hrun1).1,(qU _ _ hrun1).2,bT _,hz⟩)
      ·exact ah ⟨lv0,(qU _ _ hrun1).1,(qU _ _ hrun1).2,bT _,hz⟩
  have hj6:∀ q:Bool,Ok (iT vv s [] b fs f (fs.take (fs.length-1)) (cO b.s f.d).2 (cO b.s f.d).1.d1 g (gg b.s g g) q) (GF l V b0 b fs.length):=fun q=>by
   unfold iT;refine ax (fun _=>ah ⟨lv0,htake,?_,bT _,hs⟩) (fun _=>ax (fun _=>hj5 true (fun e=>by cases e)) (fun hh=>hj5 _ (fun _=>by simpa using hh)));show (fs.take (fs.length-1)).length<=fs.length+1;rw [fe]; omega
  exact ax (fun _=>hj6 _) (fun _=>hj6 _)
end
end
section
open Go.Lib hiding intOf
section
variable {l:List aS} {V:Nat->ByteArray} {H:Int->ae->ByteArray} {b b' b0:ar} {P P':ae->Prop}
end
end
section
open Go.Lib hiding intOf
section
variable {l:List aS} {V:Nat->ByteArray} {H:Int->ae->ByteArray} {b0 b:ar}
end
end
section
open Go.Lib hiding intOf
variable {N:Nat} {t:eP}
section
variable {l:List aS} {b:ar} {V:Nat->ByteArray}
structure FZ (l:List aS) (b:ar) (N:Nat) (t:eP):Prop where
 rules:t.x=l
 lv:w6 l b t.b
 goals:∀ k∈t.b1,jB l k
 ng:t.b1.length<=32
 fr:∀ f∈t.s1,Ej l f
 len:t.s1.length<=N
 ran:t.r1.length<=N
theorem AQ (C:bD l) (hN:N<=100) (h:FZ l b N t):nW t=some t:=by
 have hl:=C.high;have h1:=h.ng;have h2:=h.len;have h3:=h.ran;unfold nW;rw [h.rules,Ds C,ad,xb (h.lv.ok.rm hl).1 (h.lv.ok.rm hl).2.1,ad,dJ (by simp; omega),wJ h.fr (by omega),dJ (by simp; omega)];rw [<- h.rules]; rfl
theorem Mn (C:bD l) (hD:Dj l (ta b) V) (hb:ke l b) {s:aw} (hs:tx l V b s) (hN:N<=90) (h:FZ l b N t):Ok (sC vv s t) fun y=>FZ l b (N+1) y.1/\tx l V b y.2.2.2:=by
 have hl:=C.high;have hb0:=(hb.rm hl).2.1;have h1:=h.ng;have h2:=h.len;have h3:=h.ran;have up:FZ l b (N+1) t:=⟨h.rules,h.lv,h.goals,h.ng,h.fr,by omega,by omega⟩;unfold sC;refine aI (AQ C (by omega) h) (ax (fun h0=>ax (fun _=>ah ⟨up,hs⟩) (fun hg=>?_)) (fun h0=>?_))
 ·have hg0:0<t.b1.length:=by
   rcases xB t.b1.length with e | e
   ·rw [e] at hg; cases hg
   ·exact e
  have O:=h.goals _ (gX hg0);refine aI (by have:=bE hg0; exact this) (aI (by have:=yu (xs:=t.b1) (a:=1) (by omega); exact this) (au (CR hl h.lv.ok (by simp) O) fun y hy=>?_));have hg1:∀ k∈t.b1.drop 1,jB l k:=fun k O=>h.goals k (HW O);have hg2:(t.b1.drop 1).length<=32:=by rw [nr]; omega
  refine ax (fun hy1=>?_) (fun _=>ah ⟨⟨h.rules,h.lv,hg1,hg2,h.fr,up.len,up.ran⟩,hs⟩);obtain⟨n,hn,e⟩:=hy hy1;refine ah ⟨⟨h.rules,h.lv,hg1,hg2,?_,by show 1<=N+1; omega,up.ran⟩,hs⟩;show ∀ f∈[bR.mk t.b1[0] false 0 [] []],Ej l f;rw [e];exact F3 (fs:=[]) (fun f hf=>absurd hf iJ) hn
 ·have hs0:0<t.s1.length:=by
   rcases xB t.s1.length with e | e
   ·rw [e] at h0; cases h0
   ·exact e
  refine au (Ig C hD hb0 hs h.lv.ok h.fr hs0 (by omega)) fun y hy=>ax (fun _=>ah ⟨up,hy.sol⟩) (fun _=>?_);have hw:=hy.wk;have hln:=hy.len;refine bO (dJ (by omega)) (ah ⟨⟨h.rules,⟨hy.lv.ok,hy.lv.rev.trans h.lv.rev,hy.lv.ins.trans h.lv.ins⟩,h.goals,h.ng,hy.fr,by show y.2.1.length<=_; omega,?_⟩,hy.sol⟩);show (t.r1++y.2.2.1).length<=_;rw [bm]; omega
def Q8 (l:List aS) (V:Nat->ByteArray) (b:ar) (k:Nat):Int×(List aS)×Int×(List be)×(List aA)×(List ae)×(List bR)×(List ae)×(List aS)×Int×(List be)×(List aA)×(List (ae×ByteArray))×(List (ae×(List ae)))->Prop
 | (n,t1,t2,t3,t4,t5,t6,t7,g1,g2,g3,g4,g5,g6)=>n=(k:Int)/\FZ l b k (eP.mk t1 (ar.mk t2 t3 t4) t5 t6 t7)/\tx l V b (aw.mk g1 (ar.mk g2 g3 g4) g5 g6)
def Ra (l:List aS) (b:ar):Fl (Int×(List aS)×Int×(List be)×(List aA)×(List ae)×(List bR)×(List ae)) (eP×Int×Int)->Prop
 | .go (n,t1,t2,t3,t4,t5,t6,t7)=>FZ l b 90 (eP.mk t1 (ar.mk t2 t3 t4) t5 t6 t7)
 | .out y=>FZ l b 90 y.1
theorem FZ.le {M:Nat} (h:FZ l b N t) (hm:N<=M):FZ l b M t:=⟨h.rules,h.lv,h.goals,h.ng,h.fr,cI h.len hm,cI h.ran hm⟩
theorem KC (C:bD l) (hb:ke l b) (h:FZ l b 0 t) (hbase:t.b=b) {most:Int} (hm:most<=30):Ok (tV vv t most) fun y=>FZ l b 90 y.1:=by
 have hl:=C.high;have hD:=Js (ta b) C;have hst:t.s1=[]:=BQ (Nat.le_zero.1 h.len);have hru:=h.rules;unfold tV;refine aI (AQ C (by omega) h) (ax (fun _=>ah (h.le (by omega))) (fun _=>?_));have hvalid:qG t=some true:=by
  unfold qG;rw [hru,Do C h.lv.ok h.goals h.ng,ad,hst];rw [show ((0:Int)==0)=true from rfl,cond_true];have:jT l t.b []=some true:=by
   unfold jT;rw [oF (r:=Fl.go ()) rfl]; rfl
  rw [this]; rfl
 refine aI hvalid ?_;simp only [eT,cond_false];refine aI (v:=aw.mk t.x t.b [] []) rfl ?_;have hs:tx l (Vd l (ta b)) b (aw.mk t.x t.b [] []):=⟨hru,hbase,fun n _ v e=>(by cases e),fun c=>rfl⟩;refine bP (Q8 l (Vd l (ta b)) b) (Ra l b) 30 ⟨rfl,h,hs⟩ ?_ ?_
 ·rintro k ⟨n,t1,t2,t3,t4,t5,t6,t7,g1,g2,g3,g4,g5,g6⟩ O ⟨rfl,q1,q2⟩;dsimp only;unfold rG;refine ax (fun hlt=>?_) (fun _=>ah (q1.le (by omega)));have hlt:=of_decide_eq_true hlt;refine au (Mn C hD hb q2 (by omega) q1) fun y ⟨y1,y2⟩=>ax (fun _=>ah (q1.le (by omega))) (fun _=>ax (fun _=>ah (y1.le (by omega))) (fun _=>?_));exact ah ⟨by omega,cL (by omega),y1,y2⟩
 ·rintro (⟨n,t1,t2,t3,t4,t5,t6,t7⟩ | y) hr
  ·exact ah hr
  ·exact ah hr
theorem KO (C:bD l) (hb:ke l b) {goals:List ae} (hg:∀ k∈goals,jB l k) (hn:goals.length<=32):∃ t,qF l b goals=some (t,0)/\FZ l b 0 t/\t.b=b:=by
 have ht:FZ l b 0 (eP.mk l b goals [] []):=⟨rfl,⟨hb,rfl,rfl⟩,hg,hn,fun f hf=>absurd hf iJ,bZ _,bZ _⟩;refine⟨_,?_,ht,rfl⟩;unfold qF;rw [Do C hb hg hn,ad];simp only [show ((0:Int) != 0)=false from rfl,cond_false];rw [AQ C (by omega) ht]; rfl
theorem Bo {recs:List aA} (h:Rm recs.length) (k:ae):pF recs k=some (recs.filter fun x=>!iL x.d k):=by
 unfold Rm at h;unfold pF qd;refine fL (dG (xs:=recs) (fun i=>((recs.take i).filter fun x=>!iL x.d k,(i:Int))) rfl (r:=recs.filter fun x=>!iL x.d k) (fun i x hx=>?_) ?_) rfl
 ·have hlt:=bg hx;have hlen:=uU (fun x:aA=>!iL x.d k) recs i;unfold m8 m7;dsimp only;rw [dlt hlt,cond_true,bj,hx,ad,cL (by omega),bM hx,s4];show cond (!iL x.d k) _ _=_;cases e:iL x.d k with
  | true=>simp [e]
  | false =>
   rw [jj,cond_true,dJ (by simp only [j8,rp]; omega)];simp [e,gd]
 ·unfold m8;dsimp only;rw [bS,fK]; rfl
theorem ke.filter (h:ke l b) (p:aA->Bool):ke l (ar.mk b.r b.i (b.s.filter p)) :=
 ⟨h.rev,h.ins,h.insA,fun r hr=>h.recs r (nu.1 hr).1,List.Pairwise.sublist List.filter_sublist h.recsA⟩
theorem H7 (C:bD l) (h:FZ l b N t) (hN:N<=1000):Ok (oV t) fun b'=>w6 l b b':=by
 have hl:=C.high;have hb:=h.lv.ok;have hlen:=h.len;unfold oV;refine aI (xb (hb.rm hl).1 (hb.rm hl).2.1) ?_;refine bP (fun (k:Nat) (s:Int×List aA)=>s.1=k/\ke l (ar.mk t.b.r t.b.i s.2)) (fun r=>ke l (ar.mk t.b.r t.b.i r)) t.s1.length ⟨rfl,hb⟩ ?_ (fun r hr=>ah ⟨hr,h.lv.rev,h.lv.ins⟩);rintro k ⟨i,recs⟩ O ⟨rfl,g⟩;dsimp only at g ⊢;unfold nK;refine ax (fun hlt=>?_) (fun _=>ah g);have hlt:k<t.s1.length:=by have:=of_decide_eq_true hlt; omega
 refine aI (bE hlt) (aI (hU _) (ax (fun _=>?_) (fun _=>ah ⟨hlt,cL (by omega),g⟩)));have hrl:recs.length<=l.length:=g.nrec;exact aI (Bo (by unfold Rm; omega) _) (ah ⟨hlt,cL (by omega),g.filter _⟩)
end
end
section
open Go.Lib hiding intOf
def Ay (l:List be):Prop:=l.Pairwise fun a b=>dI a.d b.d<0
def wC (l:List be) (r:be):List be:=(l.filter fun x=>decide (dI x.d r.d<0))++r::(l.filter fun x=>decide (0<dI x.d r.d))
theorem JX {l:List be} {r x:be}:x∈wC l r↔x=r∨(x∈l/\x.d≠r.d):=by
 unfold wC;rw [de,dC,nu,nu];simp only [decide_eq_true_eq];constructor
 ·rintro (⟨h,h1⟩ | h | ⟨h,h1⟩)
  ·exact .inr ⟨h,wh h1⟩
  ·exact .inl h
  ·exact .inr ⟨h,fun e=>by rw [e,yS] at h1; omega⟩
 ·rintro (h | ⟨h,h1⟩)
  ·exact .inr (.inl h)
  ·rcases xZ x.d r.d with h2 | h2 | h2
   ·exact .inl ⟨h,h2⟩
   ·exact absurd h2 h1
   ·exact .inr (.inr ⟨h,qs.2 h2⟩)
theorem Kf {l:List be} (h:Ay l) (r:be):Ay (wC l r):=by
 unfold Ay wC;rw [tv];refine⟨HN _ h,uP.2 ⟨fun x hx=>?_,HN _ h⟩,fun x hx y hy=>?_⟩
 ·have:=(nu.1 hx).2;simp only [decide_eq_true_eq] at this;exact qs.1 this
 ·have h1:=(nu.1 hx).2;simp only [decide_eq_true_eq] at h1;rcases dC.1 hy with rfl | hy
  ·exact h1
  ·have h2:=(nu.1 hy).2;simp only [decide_eq_true_eq] at h2;exact se h1 (qs.1 h2)
theorem Ix {l:List be} {r:be} (h:Ay l) (hl:Rm l.length) {u:ar} (hrev:IntKind.i64.wrap (u.r+1)=r.c) (g:Int) :
  ((loop (fun s:(List be)×Bool×Int=>ip u l (eV.mk r.d r.u) s.1 s.2.1 s.2.2) (([]:List be),false,0)).bind fun q=>f5 u g (eV.mk r.d r.u) q.1 q.2)=f0 g (wC l r):=by
 unfold Rm at hl;have hpl:∀ i,((l.take i).filter fun x=>decide (dI x.d r.d<0)).length+((l.take i).filter fun x=>decide (0<dI x.d r.d)).length<=l.length:=fun i=>by
  have h1:∀ m:List be,(m.filter fun x=>decide (dI x.d r.d<0)).length+(m.filter fun x=>decide (0<dI x.d r.d)).length<=m.length:=by
   intro m
   induction m with
   | nil=>simp
   | cons y m ih =>
    by_cases a:dI y.d r.d<0
    ·rw [Db (by simpa using a),wW (by simp; omega)]; simp only [j8]; omega
    ·by_cases b:0<dI y.d r.d
     ·rw [wW (by simpa using a),Db (by simpa using b)]; simp only [j8]; omega
     ·rw [wW (by simpa using a),wW (by simpa using b)]; simp only [j8]; omega
  have:=h1 (l.take i);rw [fe] at this; omega
 have key:Ok ((loop (fun s:(List be)×Bool×Int=>ip u l (eV.mk r.d r.u) s.1 s.2.1 s.2.2) (([]:List be),false,0)).bind fun q=>f5 u g (eV.mk r.d r.u) q.1 q.2) fun y=>f0 g (wC l r)=some y:=by
  refine bP (fun n t=>n<=l.length/\t.2.2=(n:Int)/\((t.1=l.take n/\t.2.1=false/\∀ x∈l.take n,dI x.d r.d<0)∨(t.1=wC (l.take n) r/\t.2.1=true/\∃ x∈l.take n,¬ dI x.d r.d<0)))
   (fun t=>(t.1=l/\t.2=false/\∀ x∈l,dI x.d r.d<0)∨(t.1=wC l r/\t.2=true)) l.length ⟨bT _,rfl,.inl ⟨rfl,rfl,by simp⟩⟩ (fun n t hn hI=>?_) (fun t ht=>?_)
  ·obtain⟨out,put,i⟩:=t;obtain⟨_,h1,h2⟩:=hI;dsimp only at h1 h2;subst h1;unfold ip;dsimp only;by_cases hi:n<l.length
   ·have hx:l[n]? = some l[n]:=cQ hi;obtain⟨x,hxe⟩:∃ x,x=l[n]:=⟨_,rfl⟩;rw [<- hxe] at hx;rw [dlt hi,cond_true,bj,hx,ad,oq,ad];have tk:=bM hx;have hle:=hpl n;rcases h2 with⟨rfl,rfl,h3⟩|⟨rfl,rfl,y,hy,h3⟩
    ·have e0:((l.take n).filter fun x=>decide (dI x.d r.d<0))=l.take n:=Dc.2 fun x hx=>by simpa using h3 x hx
     have e1:((l.take n).filter fun x=>decide (0<dI x.d r.d))=[]:=HO.2 fun x hx=>by have:=h3 x hx; simp; omega
     rcases sd x.d r.d with hc | hc | hc
     ·rw [hc];unfold f8 f7 f6;dsimp only;simp only [hrev];rw [show bW ((l.take n).length+[x].length)=true from dJ (by simp; omega),cL (by omega)];refine ah ⟨hi,hi,rfl,.inl ⟨tk.symm,rfl,fun z hz=>?_⟩⟩;rw [tk] at hz;rcases de.1 hz with hz | hz
      ·exact h3 z hz
      ·simp only [dC,iJ,or_false] at hz; subst hz; omega
     ·rw [hc];unfold f8 f7 f6;dsimp only;simp only [hrev];rw [cL (by omega)];rw [show bW ((l.take n).length+[r].length)=true from dJ (by simp; omega)];refine ah ⟨hi,hi,rfl,.inr ⟨?_,rfl,x,by rw [tk]; simp,by omega⟩⟩;unfold wC;rw [tk,s4,s4,e0,e1];simp [hc]
     ·rw [hc];unfold f8 f7 f6;dsimp only;simp only [hrev];rw [cL (by omega)];rw [show bW ((l.take n).length+[r].length)=true from dJ (by simp; omega),show bW ((l.take n++[r]).length+[x].length)=true from dJ (by simp; omega)];refine ah ⟨hi,hi,rfl,.inr ⟨?_,rfl,x,by rw [tk]; simp,by omega⟩⟩;unfold wC;rw [tk,s4,s4,e0,e1];simp [hc]
    ·have hyx:dI y.d x.d<0:=by
      obtain⟨j,hj⟩:=ot.1 hy;rw [s6] at hj;split at hj
      ·rename_i hjn;obtain⟨q1,q2⟩:=cm.1 hj;have:=fJ.1 h j n q1 hi hjn;rw [q2,<- hxe] at this; exact this
      ·cases hj
     have hc:0<dI x.d r.d:=by
      rw [qs];exact wL (b:=y.d) h3 hyx
     have hc1:dI x.d r.d=1:=by rcases sd x.d r.d with h | h | h <;> omega
     rw [hc1];unfold f8 f7 f6;dsimp only;simp only [hrev];rw [cL (by omega),show bW ((wC (l.take n) r).length+[x].length)=true from dJ (by unfold wC; simp only [bm,j8,rp]; omega)];refine ah ⟨hi,hi,rfl,.inr ⟨?_,rfl,y,by rw [tk]; exact mD _ hy,h3⟩⟩;unfold wC;rw [tk,s4,s4];simp [hc1]
   ·have hn2:n=l.length:=by omega
    rw [hn2,bS,cond_false];rw [hn2,fK] at h2;refine ah ?_;rcases h2 with⟨a,b,c⟩|⟨a,b,c⟩
    ·exact .inl ⟨a,b,c⟩
    ·exact .inr ⟨a,b⟩
  ·obtain⟨out,put⟩:=t;dsimp only at ht ⊢;unfold f5;dsimp only;simp only [hrev];rcases ht with⟨rfl,rfl,h3⟩|⟨rfl,rfl⟩
   ·simp only [jj,cond_true];rw [show bW (out.length+[r].length)=true from dJ (by simp; omega)];refine⟨_,rfl,?_⟩;unfold wC;rw [Dc.2 fun x hx=>by simpa using h3 x hx,HO.2 fun x hx=>by have:=h3 x hx; simp; omega];rfl
   ·exact⟨_,rfl,rfl⟩
 obtain⟨y,e,e2⟩:=key;exact e.trans e2.symm
end
section
open Go.Lib hiding intOf
variable {d:List Int} {i:Int} {ins:List be} {most rev:Int}
structure IS (c:eV):Prop where
 key:∃ n,n<10/\c.d=gf n
 value:c.u.size<=8
theorem wZ.le {rev':Int} {x:be} (h:wZ rev x) (hl:rev<=rev'):wZ rev' x:=⟨h.key,h.value,h.low,by have:=h.high; omega⟩
section
variable {l:List aS} {b:ar}
theorem tC.le {rev':Int} {r:aA} (h:tC l rev r) (hl:rev<=rev'):tC l rev' r:=⟨h.key,h.value,h.reads,h.good,h.low,h.mid,by have:=h.high; omega,h.cost,h.dirty⟩
theorem ke.rise (h:ke l b) (hr:b.r+1<=1000000) (h1:Ay ins) (h2:∀ x∈ins,wZ (b.r+1) x):ke l (ar.mk (b.r+1) ins b.s) :=
 ⟨⟨by have:=h.rev; show 0<=b.r+1; omega,hr⟩,h2,h1,fun r hm=>(h.recs r hm).le (by show b.r<=b.r+1; omega),h.recsA⟩
theorem Md (h:∀ x∈ins,wZ rev x) {x:be} (hx:wZ rev x):∀ y∈wC ins x,wZ rev y:=fun y hy=>by
 rcases JX.1 hy with rfl | ⟨hy,_⟩
 ·exact hx
 ·exact h y hy
theorem G7 (h1:Ay ins) (h2:∀ x∈ins,wZ rev x):ins.length<=10:=by
 have h3:=pC (yU (f:=be.d) h1) (m:=(List.range 10).map gf) fun k O=>by
  obtain⟨r,hr,rfl⟩:=jw.1 O;obtain⟨n,hn,e⟩:=(h2 r hr).key;exact jw.2 ⟨n,Dg.2 hn,e.symm⟩
 simpa using h3
theorem w8 (C:bD l) (h:ke l b) (hr:b.r+1<=1000000) {cs:List eV} (hc:∀ c∈cs,IS c) (hn:cs.length<=32):Ok (lN b cs) fun y=>ke l y.1/\y.1.r<=b.r+1:=by
 have hl:=C.high;have hcp:=xb (h.rm hl).1 (h.rm hl).2.1;have hrev:=h.rev;have hw:IntKind.i64.wrap (b.r+1)=b.r+1:=lx (by omega) (by omega);unfold lN;refine aI hcp (aI (Eb h hl) ?_);rw [decide_eq_false (by omega)];simp only [eT,cond_false];refine aI (dM (r:=Fl.go ()) cs.length (fun k O=>?_) ?_) ?_
 ·obtain⟨n,hn,e⟩:=(hc _ (gX O)).key;unfold kO;rw [dlt O,cond_true,bE O,ad,e,w9 (by omega),ad];simp only [eT,cond_false];rw [pv,ad,cL (by omega)]; rfl
 ·unfold kO;rw [bS]; rfl
 show Ok (kM cs b) _;unfold kM;refine aI (dM (r:=Fl.go ()) cs.length (fun k O=>?_) ?_) ?_
 ·have:=(hc _ (gX O)).value;unfold kN;rw [dlt O,cond_true,bE O,ad,decide_eq_false (by omega),cL (by omega)]; rfl
 ·unfold kN;rw [bS]; rfl
 show Ok (kL cs b) _;unfold kL;refine aI hcp ?_;refine bP (fun (k:Nat) (s:Bool×Int×List be)=>s.2.1=k/\Ay s.2.2/\(∀ x∈s.2.2,wZ (b.r+1) x)/\k<=cs.length) (fun r=>Ay r.2/\∀ x∈r.2,wZ (b.r+1) x) cs.length ⟨rfl,h.insA,fun x hx=>(h.ins x hx).le (by omega),bT _⟩ ?_ ?_
 ·rintro k ⟨ch,g,ins⟩ O ⟨rfl,h1,h2,_⟩;dsimp only at h1 h2 ⊢;unfold nG;refine ax (fun hlt=>?_) (fun _=>ah ⟨h1,h2⟩);have hlt:k<cs.length:=by have:=of_decide_eq_true hlt; omega
  have hcO:=hc _ (gX hlt);refine aI (bE hlt) ?_;generalize cs[k]=c at hcO;rw [cL (by omega)];refine aI (yu (by omega)) ?_;have hd:(cs.drop (k+1)).length<=32:=by rw [nr]; omega
  have hj2:∀ ch' ins',Ay ins'->(∀ x∈ins',wZ (b.r+1) x)->Ok (jQ (k:Int) ch' ins') fun y=>match y with
    | .go s=>k<cs.length/\(s.2.1=((k+1:Nat):Int)/\Ay s.2.2/\(∀ x∈s.2.2,wZ (b.r+1) x)/\k+1<=cs.length)
    | .out r=>Ay r.2/\∀ x∈r.2,wZ (b.r+1) x:=fun ch' ins' q1 q2=>ah ⟨hlt,cL (by omega),q1,q2,hlt⟩
  refine bP (fun (i:Nat) (s:Bool×Int)=>s.2=i/\i<=(cs.drop (k+1)).length) (fun _=>True) (cs.drop (k+1)).length ⟨rfl,bT _⟩ ?_ ?_
  ·rintro i ⟨la,q⟩ hi ⟨rfl,_⟩;dsimp only;unfold nF;refine ax (fun hlt2=>?_) (fun _=>ah trivial);have hlt2:i<(cs.drop (k+1)).length:=by have:=of_decide_eq_true hlt2; omega
   refine aI (bE hlt2) (ax (fun _=>ah ⟨hlt2,cL (by omega),hlt2⟩) (fun _=>ah ⟨hlt2,cL (by omega),hlt2⟩))
  ·intro la _;unfold oS;refine ax (fun _=>(hj2 _ _ h1 h2).mono fun y hy=>by cases y <;> exact hy) (fun _=>aI (G6 (h.rm hl).2.1 _) (ax (fun _=>(hj2 _ _ h1 h2).mono fun y hy=>by cases y <;> exact hy) (fun _=>?_)));have hil:=G7 h1 h2;have hput:=Ix (r:=be.mk c.d c.u (b.r+1)) h1 (by unfold Rm; omega) (u:=b) hw (k:Int);have hput2:((loop (fun s:(List be)×Bool×Int=>ip b ins c s.1 s.2.1 s.2.2) (([]:List be),false,0)).bind fun q=>f5 b (k:Int) c q.1 q.2)=f0 (k:Int) (wC ins (be.mk c.d c.u (b.r+1))):=hput;rw [hput2];unfold f0;exact (hj2 _ _ (Kf h1 _) (Md h2 ⟨hcO.key,hcO.value,by show 0<=b.r+1; omega,rj _⟩)).mono fun y hy=>by cases y <;> exact hy
 ·rintro⟨ch,ins⟩ ⟨h1,h2⟩;dsimp only at h1 h2 ⊢;have hil:=G7 h1 h2;unfold lO;rw [hw];refine ax (fun _=>ah ⟨h,by show b.r<=b.r+1; omega⟩) (fun _=>?_);rw [decide_eq_false (by omega),decide_eq_false (by omega)];exact ah ⟨h.rise hr h1 h2,rj _⟩
theorem H9 (hd:cz d i):Ok (qv ⟨d,i⟩) fun y=>IS y.1/\cz y.2.L y.2.i1:=by
 unfold qv;refine au (dZ hd (by omega) (by omega)) fun y ⟨y1,y2,d1⟩=>?_;obtain⟨c,hc⟩:∃ c:Nat,y.1=c:=⟨y.1.toNat,by omega⟩;rw [hc];refine aI (xm (by omega)) (au (Mu d1 (by simp) (by simp)) fun w ⟨w1,d2⟩=>ah ⟨⟨⟨c,by omega,rfl⟩,?_⟩,d2⟩);have:∀ s∈[(ByteArray.mk #[48]),(ByteArray.mk #[49]),(ByteArray.mk #[50]),(ByteArray.mk #[51]),(ByteArray.mk #[55]),(ByteArray.mk #[49,48,48]),cg,(ByteArray.mk #[120]),(ByteArray.mk #[49,54]),(ByteArray.mk #[49])],s.size<=8:=by decide
 exact this _ w1
theorem xa (hd:cz d i) (h1:0<=most) (h2:most<=30):Ok (kl ⟨d,i⟩ most) fun y=>(∀ c∈y.1,IS c)/\(y.1.length:Int)<=most/\cz y.2.L y.2.i1:=by
 unfold kl;rw [lx (by omega) (by omega)];refine au (dZ hd (by omega) (by omega)) fun y ⟨y1,y2,d1⟩=>?_;refine bP (fun (k:Nat) (s:(List eV)×Int×(List Int)×Int)=>(∀ q∈s.1,IS q)/\s.1.length=k/\s.2.1=y.1-k/\0<=s.2.1/\cz s.2.2.1 s.2.2.2) (fun r=>(∀ q∈r.1,IS q)/\(r.1.length:Int)<=most/\cz r.2.1 r.2.2) 31 ⟨fun q hq=>absurd hq iJ,rfl,by simp,y1,d1⟩ ?_ (fun r hr=>ah hr);rintro k ⟨gs,c,d,i⟩ O ⟨g1,g2,g3,g3',g4⟩;dsimp only at g1 g2 g3 g3' g4 ⊢;unfold nz;refine ax (fun hc=>?_) (fun _=>ah ⟨g1,by show (gs.length:Int)<=most; omega,g4⟩);have hc:=of_decide_eq_true hc;have hw:IntKind.i64.wrap (c-1)=c-1:=lx (by omega) (by omega);refine au (H9 g4) fun z ⟨z1,z2⟩=>bO (dJ (by simp; omega)) (ah ⟨by omega,?_,by rw [bm,g2]; rfl,?_,?_,z2⟩)
 ·intro q hq;rcases de.1 hq with hq | hq
  ·exact g1 q hq
  ·rw [eU.1 hq]; exact z1
 ·show IntKind.i64.wrap (c-1)=_;rw [hw]; omega
 ·show 0<=IntKind.i64.wrap (c-1);rw [hw]; omega
theorem H6 (x y:aA):Ok (o1 x y) fun _=>True:=by
 unfold o1 pG;refine aI rfl (aI rfl (ax (fun _=>ah trivial) (fun _=>ax (fun _=>ah trivial) (fun _=>aI (oq _ _) (ah trivial)))))
theorem J9 {recs:List aA} (h:recs.length<=1000):Ok (qJ recs) fun o=>o.length<=recs.length:=by
 unfold qJ;refine bP (fun (k:Nat) (s:List aA×Int)=>s.2=k/\s.1.length=k/\k<=recs.length) (fun o=>o.length<=recs.length) recs.length ⟨rfl,rfl,bT _⟩ ?_ (fun o ho=>ah ho);rintro k ⟨out,g⟩ O ⟨rfl,hlen,_⟩;dsimp only at hlen ⊢;unfold o5;refine ax (fun hlt=>?_) (fun _=>ah (by show out.length<=_; omega));have hlt:k<recs.length:=by have:=of_decide_eq_true hlt; omega
 refine aI (bE hlt) ?_;refine bP (fun (i:Nat) (s:Int)=>s=i/\i<=out.length) (fun r=>∃ i:Nat,r=i/\i<=out.length) out.length ⟨rfl,bT _⟩ ?_ ?_
 ·rintro i _ hi ⟨rfl,_⟩;unfold o4;refine ax (fun hlt2=>?_) (fun _=>ah ⟨i,rfl,hi⟩);have hlt2:i<out.length:=by have:=of_decide_eq_true hlt2; omega
  refine aI (bE hlt2) (au (H6 _ _) fun y _=>ax (fun _=>ah ⟨hlt2,cL (by omega),hlt2⟩) (fun _=>ah ⟨i,rfl,hi⟩))
 ·rintro _ ⟨i,rfl,hi⟩;unfold o3 o2;refine aI (tZ hi) (aI (yu hi) ?_);have e1:(out.take i).length=i:=by rw [fe]; omega
  have e2:(out.drop i).length=out.length-i:=nr;refine bO (dJ (by simp; omega)) (bO (dJ (by simp; omega)) (bO (dJ (by simp; omega)) (ah ⟨hlt,cL (by omega),?_,hlt⟩)));simp only [s7,bm,j8,rp];omega
theorem KR {recs:List aA} (h:recs.length<=1000):Ok (qI recs) fun _=>True:=by
 unfold qI;refine bP (fun (k:Nat) (s:Int×Int)=>s.2=k/\k<=recs.length) (fun _=>True) recs.length ⟨rfl,bT _⟩ ?_ (fun r _=>ah trivial);rintro k ⟨n,g⟩ O ⟨rfl,_⟩;dsimp only;unfold o0;refine ax (fun hlt=>?_) (fun _=>ah trivial);have hlt:k<recs.length:=by have:=of_decide_eq_true hlt; omega
 exact aI (bE hlt) (aI rfl (ah ⟨hlt,cL (by omega),hlt⟩))
theorem Jw (C:bD l) (h:ke l b) {budget:Int} (h1:0<=budget) (h2:budget<=1000):Ok (qH b budget []) fun y=>w6 l b y.1:=by
 have hl:=C.high;have hnr:=h.nrec;unfold qH;refine aI (Eb h hl) ?_;rw [decide_eq_false (by omega),decide_eq_false (by omega)];simp only [eT,cond_false];refine aI (xb (h.rm hl).1 (h.rm hl).2.1) (au (J9 (by omega)) fun o ho=>?_);refine bP (fun (k:Nat) (s:List ae×Int×List aA)=>s.2.1=k/\k<=o.length/\s.1.length<=k/\ke l (ar.mk b.r b.i s.2.2)) (fun r=>ke l (ar.mk b.r b.i r.2)) o.length ⟨rfl,bT _,bT _,h⟩ ?_ (fun r hr=>ah ⟨hr,rfl,rfl⟩);rintro k ⟨gone,g,recs⟩ O ⟨rfl,_,hg,hb⟩;dsimp only at hg hb ⊢;have hrl:recs.length<=l.length:=hb.nrec;unfold oZ;refine ax (fun hlt=>?_) (fun _=>ah hb);have hlt:k<o.length:=by have:=of_decide_eq_true hlt; omega
 refine aI (bE hlt) (au (KR (by omega)) fun t _=>?_);have hj3:∀ q,Ok (jU gone (k:Int) recs o[k] q) fun y=>match y with
   | .go s=>k<o.length/\(s.2.1=((k+1:Nat):Int)/\k+1<=o.length/\s.1.length<=k+1/\ke l (ar.mk b.r b.i s.2.2))
   | .out r=>ke l (ar.mk b.r b.i r.2):=fun q=>by
  unfold jU l3;refine ax (fun _=>aI (Bo (by unfold Rm; omega) _) (bO (dJ (by simp; omega)) (ah ⟨hlt,cL (by omega),hlt,by rw [bm]; simp; omega,hb.filter _⟩))) (fun _=>ah ⟨hlt,cL (by omega),hlt,by show gone.length<=k+1; omega,hb⟩)
 exact ax (fun _=>aI (y5 (by unfold Rm; simp) _) ((hj3 _).mono fun y hy=>by cases y <;> exact hy)) (fun _=>(hj3 _).mono fun y hy=>by cases y <;> exact hy)
theorem JT (C:bD l) (h:ke l b) (hd:cz d i) (h1:0<=most) (h2:most<=1000) (h3:b.r<=1000):Ok (sm ⟨d,i⟩ l b most) fun y=>ke l y.1/\y.1.r<=b.r+most/\cz y.2.L y.2.i1:=by
 unfold sm;rw [lx (by omega) (by omega)];refine au (dZ hd (by omega) (by omega)) fun y ⟨y1,y2,d1⟩=>?_;refine bP (fun (k:Nat) (s:Int×(List Int)×Int×Int×(List be)×(List aA))=>s.1=y.1-k/\0<=s.1/\cz s.2.1 s.2.2.1/\ke l (ar.mk s.2.2.2.1 s.2.2.2.2.1 s.2.2.2.2.2)/\s.2.2.2.1<=b.r+k) (fun r=>ke l (ar.mk r.1 r.2.1 r.2.2.1)/\r.1<=b.r+most/\cz r.2.2.2.1 r.2.2.2.2) 2000 ⟨by simp,y1,d1,h,by show b.r<=_; simp⟩ ?_ (fun r hr=>ah hr);rintro k ⟨c,d,i,rev,ins,recs⟩ O ⟨g1,g2,g3,g4,g5⟩;dsimp only at g1 g2 g3 g4 g5 ⊢;unfold pY;refine ax (fun hc=>?_) (fun _=>ah ⟨g4,by show rev<=_; omega,g3⟩);have hc:=of_decide_eq_true hc;have hw:IntKind.i64.wrap (c-1)=c-1:=lx (by omega) (by omega);have hj2:∀ {d i rev' ins' recs'},cz d i->ke l (ar.mk rev' ins' recs')->rev'<=rev+1->Ok (eA c d i rev' ins' recs') fun y'=>match y' with
   | .go s=>k<2000/\(s.1=y.1-((k+1:Nat):Int)/\0<=s.1/\cz s.2.1 s.2.2.1/\ke l (ar.mk s.2.2.2.1 s.2.2.2.2.1 s.2.2.2.2.2)/\s.2.2.2.1<=b.r+((k+1:Nat):Int))
   | .out r=>ke l (ar.mk r.1 r.2.1 r.2.2.1)/\r.1<=b.r+most/\cz r.2.2.2.1 r.2.2.2.2:=by
  intro d i rev' ins' recs' q1 q2 q3;unfold eA;rw [hw];exact ah ⟨by omega,by show c-1=_; omega,by show 0<=c-1; omega,q1,q2,by show rev'<=_; omega⟩
 have hL:∀ {d i} {b':ar},cz d i->w6 l (ar.mk rev ins recs) b'->Ok (eA c d i b'.r b'.i b'.s) fun y'=>match y' with
   | .go s=>k<2000/\(s.1=y.1-((k+1:Nat):Int)/\0<=s.1/\cz s.2.1 s.2.2.1/\ke l (ar.mk s.2.2.2.1 s.2.2.2.2.1 s.2.2.2.2.2)/\s.2.2.2.1<=b.r+((k+1:Nat):Int))
   | .out r=>ke l (ar.mk r.1 r.2.1 r.2.2.1)/\r.1<=b.r+most/\cz r.2.2.2.1 r.2.2.2.2:=fun q1 q2=>hj2 q1 q2.ok (by have:=q2.rev; rw [this]; show rev<=rev+1; omega)
 refine au (dZ g3 (by omega) (by omega)) fun w ⟨w1,w2,d2⟩=>?_;have hj4:∀ q,Ok (jl l c rev ins recs w q) fun y'=>match y' with
   | .go s=>k<2000/\(s.1=y.1-((k+1:Nat):Int)/\0<=s.1/\cz s.2.1 s.2.2.1/\ke l (ar.mk s.2.2.2.1 s.2.2.2.2.1 s.2.2.2.2.2)/\s.2.2.2.1<=b.r+((k+1:Nat):Int))
   | .out r=>ke l (ar.mk r.1 r.2.1 r.2.2.1)/\r.1<=b.r+most/\cz r.2.2.2.1 r.2.2.2.2:=fun q=>by
  unfold jl;refine ax (fun _=>?_) (fun _=>ax (fun _=>?_) (fun _=>ax (fun _=>?_) (fun _=>?_)))
  ·refine au (xa d2 (by omega) (by omega)) fun z ⟨z1,z2,d3⟩=>au (w8 C g4 (by show rev+1<=1000000; omega) z1 (by omega)) fun u ⟨u1,u2⟩=>hj2 d3 u1 u2
  ·refine au (A1 C d2 (by omega) (by omega)) fun z ⟨z1,z2,d3⟩=>?_;obtain⟨t,ht,ht2,ht3⟩:=KO C g4 z1 z2;refine aI ht ?_;unfold pX;simp only [show ((0:Int)==0)=true from rfl,cond_true];refine au (dZ d3 (by omega) (by omega)) fun u ⟨u1,u2,d4⟩=>au (KC C g4 ht2 ht3 (by omega)) fun t2 ht4=>au (H7 C ht4 (by omega)) fun b2 hb2=>hL d4 hb2
  ·refine au (dZ d2 (by omega) (by omega)) fun z ⟨z1,z2,d3⟩=>ax (fun _=>?_) (fun _=>hL d3 ⟨g4,rfl,rfl⟩);exact au (dZ d3 (by omega) (by omega)) fun u ⟨u1,u2,d4⟩=>au (Jw C g4 u1 (by omega)) fun v hv=>hL d4 hv
  ·exact au (A1 C d2 (by omega) (by omega)) fun z ⟨z1,z2,d3⟩=>au (Bp C g4 z1 z2) fun u hu=>hL d3 hu
 exact ax (fun _=>(hj4 _).mono fun y hy=>by cases y <;> exact hy) (fun _=>ax (fun _=>(hj4 _).mono fun y hy=>by cases y <;> exact hy) (fun _=>(hj4 _).mono fun y hy=>by cases y <;> exact hy))
end
theorem Lo (hd:cz d i) (h1:0<=most) (h2:most<=900):Ok (tQ ⟨d,i⟩ most) fun y=>bD y.1/\ke y.1 y.2.1/\y.2.1.r<=most+1/\cz y.2.2.L y.2.2.i1:=by
 unfold tQ;refine au (KB hd) fun y ⟨C,d1⟩=>au (xa d1 (by omega) (by omega)) fun z ⟨z1,z2,d2⟩=>?_;have h0:ke y.1 (ar.mk 0 [] []):=⟨⟨by show (0:Int)<=0; omega,by show (0:Int)<=1000000; omega⟩,fun x hx=>absurd hx iJ,rn,fun x hx=>absurd hx iJ,rn⟩;refine au (w8 C h0 (by show (0:Int)+1<=1000000; omega) z1 (by omega)) fun u ⟨u1,u2⟩=>?_;have u2:u.1.r<=0+1:=u2;exact au (JT C u1 d2 h1 (by omega) (by show u.1.r<=1000; omega)) fun v ⟨v1,v2,d3⟩=>ah ⟨C,v1,by have v2:v.1.r<=u.1.r+most:=v2; show v.1.r<=most+1; omega,d3⟩
end
section
open Go.Lib hiding intOf
section
variable {l:List aS} {V:Nat->ByteArray} {H:Int->ae->ByteArray} {b:ar}
end
end
section
open Go.Lib hiding intOf
theorem DH {n:Nat} (h:n<65536):(db (n:Int)).size<=8:=by
 have h1:(db n).size=(itoa n).length:=by simp [db,ByteArray.size]
 have:=xQ n 5 (by omega);rw [h1,oD]; omega
section
variable {l:List aS} {inp:ae->ByteArray}
end
section
variable {l:List aS} {b:ar} {H:Int->ae->ByteArray} {P:ae->Prop}
theorem ke.in8 (hB:ke l b) (k:ae):(ta b k).size<=8:=by
 show (Gf b k).u.size<=8;unfold Gf;cases hf:b.i.find? (fun x=>iL x.d k) with
 | none=>exact bT _
 | some x=>exact (hB.ins x (K8 hf)).value
noncomputable def OP (b:ar) (k:ae):Bool:=decide (k.k=30)||gP b k
noncomputable def JO (b:ar) (k:ae):ByteArray:=if k.k=30 then ta b k else (cO b.s k).1.u
theorem L5 {c:Nat}:OP b (gf c)=true:=by
 unfold OP;rw [show (gf c).k=30 from rfl]; rfl
theorem Qg {n:Nat}:OP b (rk l n)=gP b (rk l n):=by
 unfold OP;rw [decide_eq_false Fj,Bool.false_or]
theorem JQ (hl:l.length<=8) (hB:ke l b) {k:ae} (O:jB l k):qN b k=some (JO b k,OP b k):=by
 unfold qN JO;rcases O with⟨c,_,rfl⟩|⟨n,hn,rfl⟩
 ·rw [pv,ad,cond_true,G6 (hB.rm hl).2.1,ad,L5,if_pos (show (gf c).k=30 from rfl)]
 ·rw [sG,ad,cond_false,hB.find hl,ad,Qg,if_neg Fj];unfold l8 gP;cases h:(cO b.s (rk l n)).2 with
  | false=>rfl
  | true =>
   rw [cond_true,yE];congr 2
theorem JP (hl:l.length<=8) (hB:ke l b) (k:ae):(JO b k).size<=1000:=by
 unfold JO;split
 ·have:=hB.in8 k; omega
 ·cases h:(cO b.s k).2 with
  | true=>exact (hB.found h).1.value
  | false=>rw [(uj h).1]; exact bT _
end
end
section
open Go.Lib hiding intOf
theorem Im (k:ae):sf k=some (rY k):=by
 unfold sf gJ oJ rY kW eF eX lu;have hb:∀ n:Int,((k.k:Int)==n)=decide (k.k=n):=fun n=>by rw [Bool.eq_iff_iff]; simp
 rw [hb,hb,hb,hb,hb];by_cases h32:k.k=32
 ·simp [h32]
 ·by_cases h7:k.k=7
  ·simp [h7]
  ·by_cases h14:k.k=14
   ·simp [h14]
   ·by_cases h17:k.k=17
    ·simp [h17]
    ·by_cases h18:k.k=18
     ·simp [h18]
     ·simp only [h32,h7,h14,h17,h18,decide_false,Bool.or_false,cond_false];cases decide ((1:Int)<=k.k) <;> cases decide ((k.k:Int)<=22) <;> rfl
section
variable {l:List aS} {b:ar}
theorem L9 {f:ae->Option Bool} {s:List ae} (hl:Rm s.length) (h:∀ x∈s,f x=some false):mQ f s=some false:=by
 unfold Rm at hl;have e:sa f s=some (-1):=by
  unfold sa;refine fL (dM (r:=Fl.go ()) s.length (fun k O=>?_) ?_) rfl
  ·unfold mU;rw [dlt O,cond_true,bE O,ad,h _ (gX O),cL (by omega)]; rfl
  ·unfold mU;rw [bS]; rfl
 unfold mQ;rw [e]; rfl
theorem Ma {f:aA->Option Bool} {s:List aA} (hl:Rm s.length) (h:∀ x∈s,f x=some false):cj f s=some false:=by
 unfold Rm at hl;have e:mV f s=some (-1):=by
  unfold mV;refine fL (dM (r:=Fl.go ()) s.length (fun k O=>?_) ?_) rfl
  ·unfold jE;rw [dlt O,cond_true,bE O,ad,h _ (gX O),cL (by omega)]; rfl
  ·unfold jE;rw [bS]; rfl
 unfold cj;rw [e]; rfl
theorem y7 {n:Nat} (h:n<100):dm (rk l n)=some true:=by
 unfold rk;exact KW (by split <;> simp) h
theorem zB {n:Nat} (h:n<100):dm (gf n)=some true:=JN h
theorem DK (k:ae):n6 k=cH k:=rfl
theorem jB.kvalid (hl:l.length<=8) {k:ae} (h:jB l k):dm k=some true:=by
 rcases h with⟨c,hc,rfl⟩|⟨n,hn,rfl⟩
 ·exact zB (by omega)
 ·exact y7 (by omega)
theorem Km (hl:l.length<=8) {rev:Int} (hrev:rev<=1000000) {r:aA} (h:tC l rev r):oK r=some true:=by
 obtain⟨n,hn,O⟩:=h.key;have h3:=h.reads;have h4:=h.value;have h5:=h.low;have h6:=h.mid;have h7:=h.high;have h8:=h.cost;have hj:dX r false=some true:=by
  unfold dX;rw [cond_false,decide_eq_true (by omega),decide_eq_true (by omega),decide_eq_true (by omega),decide_eq_true (by omega),decide_eq_true (by omega)];simp only [cond_true];rw [L9 (by unfold Rm; omega) fun x hx=>by unfold lD; rw [(h.good x hx).kvalid hl]; rfl]; rfl
 unfold oK;rw [O,y7 (by omega),ad,DK,sG,ad,decide_eq_false (by omega),decide_eq_false (by omega)];simp only [eT,cond_false];cases hd:r.d1 with
 | false=>exact hj
 | true =>
  have:=h.dirty hd;rw [O] at this;rw [cond_true,Im,this];exact hj
theorem Oz (h:ke l b) (hl:l.length<=8):jM b.s=some true:=by
 have hn:=h.nrec;unfold jM;refine fL (dM (r:=Fl.go ()) b.s.length (fun k O=>?_) ?_) ?_
 ·unfold gy;rw [dlt O,cond_true,bE O,ad,Km hl h.rev.2 (h.recs _ (gX O)),ad];have hj:eh (k:Int) false=some (.go ((k+1:Nat):Int)):=by unfold eh; rw [cL (by omega)]; rfl
  simp only [eT,cond_false];rcases xB k with h0 | h0
  ·subst h0;exact hj
  ·rw [decide_eq_true (by omega),cond_true,show IntKind.i64.wrap ((k:Int)-1)=((k-1:Nat):Int) by rw [lx (by omega) (by omega)]; omega,bE (show k-1<b.s.length by omega),ad,Jp,ad];have:=fJ.1 h.recsA (k-1) k (by omega) O (by omega);rw [decide_eq_false (by omega)];exact hj
 ·unfold gy;rw [bS]; rfl
 ·show some (decide ((b.s.length:Int)<=4000))=some true;rw [decide_eq_true (by omega)]
theorem Kp {c:Nat} (hc:c<100):l9 (gf c)=some true:=by
 unfold l9;rw [zB hc,ad,cond_true,DK,pv]; rfl
theorem Kq (h:ke l b) (hl:l.length<=8):gc b=some true:=by
 have hn:=h.nrec;have hi:=h.nin;have hrev:=h.rev;unfold gc;rw [decide_eq_false (by omega),decide_eq_false (by omega),decide_eq_false (by omega),Oz h hl];simp only [cond_false,ad,eT];refine fL (dM (r:=Fl.go ()) b.i.length (fun k O=>?_) ?_) ?_
 ·have hx:=h.ins _ (gX O);obtain⟨c,hc,hkey⟩:=hx.key;have h1:=hx.value;have h2:=hx.low;have h3:=hx.high;unfold je;rw [dlt O,cond_true,bE O,ad,hkey,Kp (by omega),ad];have hj:cK (k:Int) false=some (.go ((k+1:Nat):Int)):=by unfold cK; rw [cL (by omega)]; rfl
  simp only [eT,cond_false];rw [decide_eq_false (show ¬ (1073741824:Int)<(b.i[k].u.size:Int) by omega),decide_eq_false (show ¬ (b.i[k].c:Int)<0 by omega),decide_eq_false (show ¬ (b.r:Int)<b.i[k].c by omega)];rcases xB k with h0 | h0
  ·subst h0;exact hj
  ·rw [decide_eq_true (by omega),cond_true,show IntKind.i64.wrap ((k:Int)-1)=((k-1:Nat):Int) by rw [lx (by omega) (by omega)]; omega,bE (show k-1<b.i.length by omega),ad,Jp,ad];have:=fJ.1 h.insA (k-1) k (by omega) O (by omega);rw [hkey] at this;rw [decide_eq_false (by omega)];exact hj
 ·unfold je;rw [bS]; rfl
 ·show jd b=some true;unfold jd;rw [Ma (by unfold Rm; omega) fun x hx=>by unfold j2; rw [decide_eq_false (by have:=(h.recs x hx).high; omega)]]; rfl
end
end
section
open Go.Lib hiding intOf
section
variable {l:List aS} {x y:ai}
theorem As (n:Int):Ok (fO n) fun s=>s.size=8:=by
 unfold fO;refine bP (fun (k:Nat) (s:(List Int)×Int)=>k<=8/\s.1.length=k/\s.2=56-8*k) (fun r=>r.length=8) 8 ⟨bT _,rfl,rfl⟩ ?_ (fun r hr=>?_)
 ·rintro k ⟨b,s⟩ O ⟨_,h1,rfl⟩;dsimp only at h1 ⊢;unfold fm;refine ax (fun h=>?_) (fun h=>ah ?_)
  ·have h:=of_decide_eq_true h;have hw:IntKind.u64.wrap (56-8*(k:Int))=56-8*(k:Int):=by
    rw [show 56-8*(k:Int)=((56-8*k:Nat):Int) by omega,sK (by omega)]
   refine bO (decide_eq_true (by rw [hw]; omega)) (bO (dJ (by simp; omega)) (ah ⟨by omega,by omega,by simp [h1],?_⟩));show IntKind.i64.wrap (56-8*(k:Int)-8)=56-8*((k+1:Nat):Int);rw [lx (by omega) (by omega)]; omega
  ·have:=of_decide_eq_false h;show b.length=8;omega
 ·unfold nD;refine ah ?_;unfold aX;simp [ByteArray.size,hr]
theorem J3 (n:Int):Ok (iU n) fun s=>s.size=8:=by
 unfold iU;exact au (As _) fun s hs=>ah hs
theorem mf {n:Nat} (h:n<=1000000):Nat.ble n 140737488355328=true:=tw (by omega)
theorem KP {s:ByteArray} (h:s.size<=1000):Ok (oo s) fun y=>y.size=8+s.size:=by
 unfold oo;exact au (As _) fun u hu=>bO (mf (by omega)) (ah (by rw [j7,hu]))
theorem py (hl:l.length<=8) {k:ae} (h:jB l k):k.t.size<=8:=by
 rcases h with⟨c,hc,rfl⟩|⟨n,hn,rfl⟩
 ·exact DH (n:=c) (by omega)
 ·exact DH (n:=n) (by omega)
theorem CM (hl:l.length<=8) {k:ae} (h:jB l k):Ok (ol k) fun y=>y.size<=24:=by
 have:=py hl h;unfold ol;refine au (J3 _) fun u hu=>au (KP (by omega)) fun v hv=>bO (mf (by omega)) (ah (by rw [j7]; omega))
theorem CC (d:b7):Ok (gT d) fun y=>y.size=16:=by
 unfold gT;refine au (As _) fun u hu=>au (As _) fun v hv=>bO (mf (by omega)) (ah (by rw [j7]; omega))
theorem Mk {s:ByteArray} (h:s.size<=100000):Ok (nX s) fun y=>y.size=s.size+16:=by
 unfold nX;exact aI (rT (s:=s) (by omega)) (au (CC _) fun u hu=>bO (mf (by omega)) (ah (by rw [j7]; omega)))
theorem EF {xs:List ai} (hn:xs.length<=1000) (h:∀ x∈xs,x.v.length<=1000):gB xs=some xs:=by
 unfold gB;rw [show loop (fun s:(List ai)×Int=>ee xs s.1 s.2) (([]:List ai),0)=some xs from
  dG (xs:=xs) (fun k=>(xs.take k,(k:Int))) rfl (fun k x hx=>by
   have O:=bg hx;dsimp only;unfold ee;have h1:=h x (aK hx);rw [dlt O,cond_true,bj,hx,ad,dJ (by simp; omega),dJ (by simp; omega)];simp only [gd,cond_true,s7];rw [cL (by omega),bM hx]) (by
   dsimp only;unfold ee;rw [bS,cond_false,fK]),ad]
 rfl
end
end
section
open Go.Lib hiding intOf
theorem oB {α:Type} {W:α->List Int} {c:Nat}:∀ (xs:List α),(∀ x∈xs,(W x).length<=c)->(xs.flatMap W).length<=xs.length*c
 | [],_=>by simp
 | x::xs,h=>by
  have h1:=h x vX;have h2:=oB xs fun y hy=>h y (wY _ hy);rw [u0,bm,j8,Nat.succ_mul]; omega
theorem Ms (x:be):(En x).length=32+x.d.t.size+x.u.size:=by
 unfold En; simp only [bm,fb,mC,bY]; omega
theorem KY (r:aA):(vd r).length=64+r.d.t.size+r.u.size+(r.v.flatMap sJ).length:=by
 unfold vd; simp only [bm,fb,mC,bY]; omega
theorem zj (b:ar):(wU b).length=32+(b.i.flatMap En).length+(b.s.flatMap vd).length:=by
 unfold wU; simp only [bm,bY]; omega
section
variable {l:List aS} {b c:ar} {k:ae} {x:be} {r:aA} {v:Int}
theorem jB.kind (h:jB l k):w7 k.k:=by
 rcases h with⟨c,_,rfl⟩|⟨n,_,rfl⟩
 ·exact⟨by show (0:Int)<=30; omega,by show (30:Int)<_; omega⟩
 ·rcases ym (l:=l) (n:=n) with e | e <;> (unfold w7; rw [e]; omega)
theorem Nh (h:wZ v x) (hv:v<=1000000):Lg x/\(En x).length<=48:=by
 obtain⟨c,hc,e⟩:=h.key;have h1:=h.value;have h2:x.d.t.size<=8:=by rw [e]; exact DH (n:=c) (by omega)
 have h3:=h.low;have h4:=h.high;refine⟨⟨⟨?_,⟨h3,by omega⟩⟩,by omega,by omega⟩,by rw [Ms]; omega⟩;rw [e]; exact⟨by show (0:Int)<=30; omega,by show (30:Int)<_; omega⟩
theorem Kl (hl:l.length<=8) (h:tC l v r) (hv:v<=1000000):GG r/\(vd r).length<=1200:=by
 obtain⟨n,hn,e⟩:=h.key;have hg:jB l r.d:=.inr ⟨n,hn,e⟩;have h0:=py hl hg;have h1:=h.value;have h2:=h.reads;have h3:=h.low;have h4:=h.mid;have h5:=h.high;have h6:=h.cost;have h7:=oB (W:=sJ) (c:=24) r.v fun k O=>by
  have:=py hl (h.good k O);rw [fb]; omega
 refine⟨⟨⟨hg.kind,fun k O=>(h.good k O).kind,by omega,⟨h3,by omega⟩,⟨by omega,by omega⟩,⟨by omega,by omega⟩⟩,by omega,by omega,fun k O=>?_⟩,?_⟩
 ·have:=py hl (h.good k O); omega
 ·rw [KY]; omega
structure FU (b:ar):Prop where
 rev:w7 b.r
 nin:b.i.length<=1000000
 nrec:b.s.length<=1000000
 ins:∀ x∈b.i,Lg x
 recs:∀ r∈b.s,GG r
 small:(wU b).length<=140000000000000
theorem Lp (hl:l.length<=8) (h:ke l b):FU b:=by
 have h1:=h.nin;have h2:=h.nrec;have h3:=h.rev;have h4:=oB (W:=En) (c:=48) b.i fun x hx=>(Nh (h.ins x hx) h3.2).2;have h5:=oB (W:=vd) (c:=1200) b.s fun x hx=>(Kl hl (h.recs x hx) h3.2).2;exact⟨⟨h3.1,by omega⟩,by omega,by omega,fun x hx=>(Nh (h.ins x hx) h3.2).1,fun x hx=>(Kl hl (h.recs x hx) h3.2).1,by rw [zj]; omega⟩
theorem Qb {o:List Int} {xs:List be} (h:∀ x∈xs,Q7 x) (hn:xs.length<=1000000) (ho:o.length+8+(xs.flatMap En).length<=140737488355328):sh ⟨o⟩ xs=some ⟨o++(dO xs.length++xs.flatMap En)⟩:=by
 unfold sh;rw [sr (by omega) (by omega),ad,vQ (W:=En) (xs:=xs) (F:=kX xs) hn (by rw [bm,bY]; omega) (fun k x w hx hw=>by
  have O:=bg hx;unfold kX;rw [dlt O,cond_true,bj,hx,ad,Qa (h x (aK hx)) hw,ad,cL (by omega)]) (fun w=>by
  unfold kX;rw [bS]; rfl),ad,fc]
 rfl
theorem Oq {o:List Int} {xs:List aA} (h:∀ x∈xs,NI x) (hn:xs.length<=1000000) (ho:o.length+8+(xs.flatMap vd).length<=140737488355328):qu ⟨o⟩ xs=some ⟨o++(dO xs.length++xs.flatMap vd)⟩:=by
 unfold qu;rw [sr (by omega) (by omega),ad,vQ (W:=vd) (xs:=xs) (F:=jF xs) hn (by rw [bm,bY]; omega) (fun k x w hx hw=>by
  have O:=bg hx;unfold jF;rw [dlt O,cond_true,bj,hx,ad,Oo (h x (aK hx)) hw,ad,cL (by omega)]) (fun w=>by
  unfold jF;rw [bS]; rfl),ad,fc]
 rfl
theorem Ln (h:FU b) (hv:gc b=some true):qo b=some (jf (wU b)):=by
 have hs:=h.small;rw [zj] at hs;unfold qo;rw [hv,ad,eT,cond_false,show aW (bw.mk ([]:List Int)) 11=some ⟨[]++dO 11⟩ from sr (N:=11) (by omega) (by simp),ad,
  ur h.rev (by simp only [bm,bY,rp]; omega),ad,Qb (fun x hx=>(h.ins x hx).w) h.nin (by simp only [bm,bY,rp]; omega),ad,
  Oq (fun x hx=>(h.recs x hx).w) h.nrec (by simp only [bm,bY,rp]; omega),ad]
 have e:((([]++dO 11)++dO b.r)++(dO b.i.length++b.i.flatMap En))++(dO b.s.length++b.s.flatMap vd)=wU b:=by
  unfold wU; simp only [s7,fc]
 rw [e,Hu (by have:=h.small; omega),ad]
theorem H5 (h:FU b) (hv:gc b=some true):kH (jf (wU b))=some (b,0):=by
 unfold kH;rw [DU (by have:=h.small; omega),ad];dsimp only;rw [show ((0:Int) != 0)=false from rfl,cond_false];have e:wU b=dO 11++(dO b.r++(dO b.i.length++(b.i.flatMap En++(dO b.s.length++(b.s.flatMap vd++[]))))):=by unfold wU; rw [yF]
 rw [e,lj ⟨by omega,by omega⟩,ad];dsimp only;rw [lj h.rev,ad];dsimp only;rw [Ol h.ins h.nin,ad];dsimp only;rw [Mh h.recs h.nrec,ad];rw [show ((11:Int) != 11)=false from rfl,cond_false];unfold eI dH;dsimp only;rw [jj,cond_true,show ((aX []).toList==cg.toList)=true from beq_self_eq_true _,ad,eT,cond_false,show (ar.mk b.r b.i b.s)=b from rfl,hv,ad];rfl
theorem O2 (a b:ByteArray):(a.toList==b.toList)=decide (a=b):=by
 by_cases h:a=b
 ·rw [h]; simp
 ·rw [decide_eq_false h,beq_eq_false_iff_ne];exact fun e=>h (Dn e)
end
end
section
open Go.Lib hiding intOf
variable {N:Nat} {o:List Int} {xs:List ai} {y:List Int}
def zW (d:b7):Prop:=w7 d.y/\0<=d.z/\d.z<18446744073709551616
theorem Lu {a b:List Int} (ha:GE a) (hb:GE b):GE (a++b):=fun x hx=>by
 rcases de.1 hx with h | h
 ·exact ha x h
 ·exact hb x h
theorem GM (d:b7):GE (n3 d):=Lu (yM _) (yM _)
theorem JB {M:Nat} {k:Nat} (O:k<16):(aX (dO (N:Int)++dO (M:Int))).toList[k]? = some (UInt8.ofNat (if k<8 then hb N (7-k) else hb M (15-k))):=by
 rw [uH,BS,dO,dO,zU,zU,HP];have e:∀ (K j:Nat),j<8->(List.map ((fun n:Int=>UInt8.ofNat n.toNat) ∘ fun b:Nat=>(b:Int)) (Nk ((K:Int)).toNat))[j]? = some (UInt8.ofNat (hb K (7-j))):=fun K j hj=>by
  rw [ro,s3,xk K hj]; rfl
 have hl:(List.map ((fun n:Int=>UInt8.ofNat n.toNat) ∘ fun b:Nat=>(b:Int)) (Nk ((N:Int)).toNat)).length=8:=rfl;rw [hl];by_cases h:k<8
 ·rw [if_pos h,if_pos h,e N k h]
 ·rw [if_neg h,if_neg h,e M (k-8) (by omega),show 7-(k-8)=15-k by omega]
theorem Q1 {n:Nat} (h:n<256):(UInt8.ofNat n).toNat=n:=by rw [UInt8.toNat_ofNat']; omega
theorem ww (hN:N<18446744073709551616) {j:Nat} (hj:1<=j):N / 256 ^ j<72057594037927936:=by
 have h3:256 ^ 1<=256 ^ j:=uQ (by omega) hj;have h4:N / 256 ^ j<=N / 256 ^ 1:=Ee h3 (by omega);have h5:N / 256 ^ 1<72057594037927936:=by rw [Nat.pow_one]; omega
 omega
theorem qR (hN:N<18446744073709551616) {j:Nat} (hj:8<=j):N / 256 ^ j=0:=by
 have h3:256 ^ 8<=256 ^ j:=uQ (by omega) hj;exact zq (by omega)
theorem CT {d:b7} (h:zW d):gI (aX (n3 d))=some (d,0):=by
 obtain⟨⟨a1,a2⟩,a3,a4⟩:=h;obtain⟨N,hN⟩:∃ N:Nat,d.y=N:=⟨d.y.toNat,by omega⟩;obtain⟨M,B⟩:∃ M:Nat,d.z=M:=⟨d.z.toNat,by omega⟩;have hNs:N<18446744073709551616:=by omega
 have hMs:M<18446744073709551616:=by omega
 have hz:(aX (n3 d)).size=16:=by rw [cy,qS]
 unfold gI;rw [show (((aX (n3 d)).size:Int) != 16)=false by rw [hz]; rfl,cond_false];rw [show loop (fun s:Int×Int×Int=>dB (aX (n3 d)) s.1 s.2.1 s.2.2) (0,0,0)=some ((N:Int),(M:Int)) from
  jx (B:=fun s:Int×Int×Int=>dB (aX (n3 d)) s.1 s.2.1 s.2.2) (fun k=>((k:Int),((N / 256 ^ (8-k):Nat):Int),((M / 256 ^ (16-k):Nat):Int))) 16 (by
   show ((0:Int),(0:Int),(0:Int))=(((0:Nat):Int),((N / 256 ^ 8:Nat):Int),((M / 256 ^ 16:Nat):Int));rw [qR hNs (by omega),qR hMs (by omega)]; rfl) (fun k O=>by
   dsimp only;unfold dB;have hg:=JB (N:=N) (M:=M) O;rw [<- hN,<- B] at hg;have hg:(aX (n3 d)).toList[k]? = _:=hg;have hdiv:Int.tdiv ((k:Nat):Int) 8=((k / 8:Nat):Int):=rfl;rw [hz,decide_eq_true (by omega),cond_true,hdiv,lx (by omega) (by omega)];by_cases h8:k<8
   ·rw [show (((k / 8:Nat):Int)==0)=true by rw [show k / 8=0 by omega]; rfl,cond_true,bj,hg,ad,if_pos h8,Q1 (tL _ _),Gn (ww hNs (by omega)) (tL _ _),cL (by omega)];have:=uk N (7-k);rw [show 7-k+1=8-k by omega] at this;rw [<- this,show 8-(k+1)=7-k by omega,qR hMs (show 8<=16-k by omega),qR hMs (show 8<=16-(k+1) by omega)]
   ·rw [show (((k / 8:Nat):Int)==0)=false by rw [show k / 8=1 by omega]; rfl,cond_false,show (((k / 8:Nat):Int)==1)=true by rw [show k / 8=1 by omega]; rfl,cond_true,bj,hg,ad,if_neg h8,Q1 (tL _ _),Gn (ww hMs (by omega)) (tL _ _),cL (by omega)];have:=uk M (15-k);rw [show 15-k+1=16-k by omega] at this;rw [<- this,show 16-(k+1)=15-k by omega,show 8-(k+1)=8-k by omega]) (by
   dsimp only;unfold dB;rw [hz];show some (Fl.out (((N / 256 ^ 0:Nat):Int),((M / 256 ^ 0:Nat):Int)))=_;rw [zv,vT,vT]),ad]
 unfold iM;dsimp only;rw [Aw,show N / 9223372036854775808=0 from zq (by omega),show (((0:Nat):Int)==1)=false from rfl,cond_false,lx (by omega) (by omega),<- hN,<- B]
structure H0 (r:ci):Prop where
 kind:w7 r.d.k
 text:r.d.t.size<=1073741824
 dig:zW r.a
structure qh (x:ai):Prop where
 kind:w7 x.d.k
 text:x.d.t.size<=1073741824
 few:x.v.length<=1000000
 reads:∀ r∈x.v,H0 r
 value:x.u.size<=1073741824
 cost:w7 x.j
theorem uL (r:ci):(yH r).length=32+r.d.t.size:=by unfold yH; rw [bm,fb,qS]; omega
theorem sI (x:ai):(gG x).length=40+x.d.t.size+x.u.size+(x.v.flatMap yH).length:=by
 unfold gG; simp only [bm,fb,mC,bY]; omega
theorem rU (l:List ai):(gH l).length=16+(l.flatMap gG).length:=by
 unfold gH; simp only [bm,bY]; omega
theorem OH {r:ci} (h:H0 r) (ho:o.length+(yH r).length<=140737488355328):fQ r ⟨o⟩=some ⟨o++yH r⟩:=by
 rw [uL] at ho;unfold fQ;rw [yB h.kind (by rw [fb]; omega),ad,wb h.dig.1 h.dig.2,ad,jk (GM _),Q0 (by rw [cy,bm,fb,qS]; omega)];simp only [gd,cond_true];unfold yH;rw [fc]
theorem QD {xs:List ci} (h:∀ x∈xs,H0 x) (hn:xs.length<=1000000) (ho:o.length+8+(xs.flatMap yH).length<=140737488355328):tO ⟨o⟩ xs=some ⟨o++(dO xs.length++xs.flatMap yH)⟩:=by
 unfold tO;rw [sr (by omega) (by omega),ad,vQ (W:=yH) (xs:=xs) (F:=mo xs) hn (by rw [bm,bY]; omega) (fun k x w hx hw=>by
  have O:=bg hx;unfold mo;rw [dlt O,cond_true,bj,hx,ad,OH (h x (aK hx)) hw,ad,cL (by omega)]) (fun w=>by
  unfold mo;rw [bS]; rfl),ad,fc]
 rfl
theorem Mt {x:ai} (h:qh x) (ho:o.length+(gG x).length<=140737488355328):ic x ⟨o⟩=some ⟨o++gG x⟩:=by
 rw [sI] at ho;unfold ic;rw [yB h.kind (by rw [fb]; omega),ad,QD h.reads h.few (by rw [bm,fb]; omega),ad,Ax (by simp only [bm,bY,fb]; omega),ad,ur h.cost (by simp only [bm,bY,fb,cM]; omega),ad];unfold gG pb;simp only [fc]
theorem NK (h:∀ x∈xs,qh x) (hn:xs.length<=1000000) (ho:o.length+8+(xs.flatMap gG).length<=140737488355328):mZ ⟨o⟩ xs=some ⟨o++(dO xs.length++xs.flatMap gG)⟩:=by
 unfold mZ;rw [sr (by omega) (by omega),ad,vQ (W:=gG) (xs:=xs) (F:=gZ xs) hn (by rw [bm,bY]; omega) (fun k x w hx hw=>by
  have O:=bg hx;unfold gZ;rw [dlt O,cond_true,bj,hx,ad,Mt (h x (aK hx)) hw,ad,cL (by omega)]) (fun w=>by
  unfold gZ;rw [bS]; rfl),ad,fc]
 rfl
theorem Dl (h:∀ x∈xs,qh x) (hn:xs.length<=4000) (hs:(gH xs).length<=140000000000000) (hv:cB xs=some true):cA xs=some (jf (gH xs)):=by
 have hs2:=hs;rw [rU] at hs2;unfold cA;rw [decide_eq_false (by omega),cond_false,hv,ad,eT,cond_false,show aW (bw.mk ([]:List Int)) 12=some ⟨[]++dO 12⟩ from sr (N:=12) (by omega) (by simp),ad,
  NK h (by omega) (by simp only [bm,bY,rp]; omega),ad]
 have e:([]++dO 12)++(dO xs.length++xs.flatMap gG)=gH xs:=by unfold gH; rw [s7]
 rw [e,Hu (by omega),ad]
theorem QC {r:ci} (h:H0 r):eJ ⟨aX (yH r++y),false⟩=some (r,⟨aX y,false⟩):=by
 unfold eJ yH;rw [fc,Bh h.kind (zP h.text),ad];dsimp only;rw [tU (x:=n3 r.a) 16 rfl,ad,CT h.dig,ad];rfl
theorem Om {xs:List ci} (h:∀ x∈xs,H0 x) (hn:xs.length<=1000000):kw ⟨aX (dO xs.length++(xs.flatMap yH++y)),false⟩=some (xs,⟨aX y,false⟩):=by
 unfold kw;rw [lj ⟨by omega,by omega⟩,ad];dsimp only;rw [vI (W:=yH) (xs:=xs) (F:=gr) hn (fun k x z hx=>by
  have O:=bg hx;obtain⟨s1,s2⟩:=vK O hn;unfold gr;rw [s1,cond_true,jj,cond_true,QC (h x (aK hx)),ad,dJ (by simp; omega)];simp only [gd,cond_true];rw [s2,bM hx]) (fun o r b=>rfl),ad]
 rfl
theorem Oi {x:ai} (h:qh x):dw ⟨aX (gG x++y),false⟩=some (x,⟨aX y,false⟩):=by
 unfold dw gG;simp only [fc];rw [Bh h.kind (zP h.text),ad];dsimp only;rw [Om h.reads h.few,ad];dsimp only;rw [Au (zP h.value),ad];dsimp only;rw [lj h.cost,ad]
theorem Me (h:∀ x∈xs,qh x) (hn:xs.length<=1000000):fH ⟨aX (dO xs.length++(xs.flatMap gG++y)),false⟩=some (xs,⟨aX y,false⟩):=by
 unfold fH;rw [lj ⟨by omega,by omega⟩,ad];dsimp only;rw [vI (W:=gG) (xs:=xs) (F:=ei) hn (fun k x z hx=>by
  have O:=bg hx;obtain⟨s1,s2⟩:=vK O hn;unfold ei;rw [s1,cond_true,jj,cond_true,Oi (h x (aK hx)),ad,dJ (by simp; omega)];simp only [gd,cond_true];rw [s2,bM hx]) (fun o r b=>rfl),ad]
 rfl
theorem yK (h:∀ x∈xs,qh x) (hn:xs.length<=4000) (hs:(gH xs).length<=140000000000000) (hv:cB xs=some true):cw (jf (gH xs))=some (xs,0):=by
 unfold cw;rw [DU (by omega),ad];dsimp only;rw [show ((0:Int) != 0)=false from rfl,cond_false];have e:gH xs=dO 12++(dO xs.length++(xs.flatMap gG++[])):=by unfold gH; rw [yF]
 rw [e,lj ⟨by omega,by omega⟩,ad];dsimp only;rw [Me h (by omega),ad];rw [show ((12:Int) != 12)=false from rfl,cond_false];unfold eI dH;dsimp only;rw [jj,cond_true,show ((aX []).toList==cg.toList)=true from beq_self_eq_true _,ad,eT,cond_false,decide_eq_false (by omega),cond_false,hv,ad];rfl
section
variable {l:List aS}
end
end
section
open Go.Lib hiding intOf
def zA (r y:aH) (n:Nat):Prop:=y.q.size<=r.q.size/\(r.h=true->y.h=true)/\(y.h=true∨y.q.size+n<=r.q.size)
theorem zA.trans {r y z:aH} {n m:Nat} (h1:zA r y n) (h2:zA y z m):zA r z n:=by
 obtain⟨a1,a2,a3⟩:=h1;obtain⟨b1,b2,b3⟩:=h2;refine⟨by omega,fun h=>b2 (a2 h),?_⟩;rcases a3 with h | h
 ·exact .inl (b2 h)
 ·exact .inr (by omega)
theorem OB {r:aH} (n:Int):Ok (ce r n) fun y=>zA r y.2 n.toNat/\y.1.size<=n.toNat:=by
 by_cases h1:n<0
 ·unfold ce;rw [decide_eq_true h1,cond_true];exact ah ⟨⟨bT _,fun _=>rfl,.inl rfl⟩,bT _⟩
 ·by_cases h2:((r.q.size:Int))<n
  ·unfold ce;rw [decide_eq_false h1,cond_false,decide_eq_true h2,cond_true];exact ah ⟨⟨bT _,fun _=>rfl,.inl rfl⟩,bT _⟩
  ·have hl:=cM r.q;have e:r=⟨aX ((cr r.q).take n.toNat++(cr r.q).drop n.toNat),r.h⟩:=by
    rw [pc,kx]
   refine⟨_,by rw [e]; exact tU n (by rw [fe]; omega),?_⟩;refine⟨⟨?_,fun h=>h,.inr ?_⟩,?_⟩
   ·show (aX _).size<=_;rw [cy,nr]; omega
   ·show (aX _).size+_<=_;rw [cy,nr]; omega
   ·show (aX _).size<=_;rw [cy,fe]; omega
theorem Mp {r:aH}:Ok (a6 r) fun y=>zA r y.2 8:=by
 unfold a6;refine au (OB 8) fun u ⟨h1,h2⟩=>?_;have h2:u.1.size<=8:=h2;have hl:=cM u.1;refine bO (dJ (by omega)) (bP (fun (k:Nat) (s:Int×Int)=>s.2=k) (fun q=>q.2=(u.2.q,u.2.h)) 8 rfl ?_ ?_)
 ·rintro k ⟨n,i⟩ O rfl;dsimp only;unfold bQ;refine ax (fun h=>?_) (fun h=>ah rfl);have h:k<(cr u.1).length:=by have:=of_decide_eq_true h; omega
  exact aI (bE h) (ah ⟨by omega,cL (by omega)⟩)
 ·rintro⟨n,rest,bad⟩ hq;obtain⟨rfl,rfl⟩:rest=u.2.q/\bad=u.2.h:=by
   have:=congrArg Prod.fst hq;have:=congrArg Prod.snd hq;exact⟨by assumption,by assumption⟩
  unfold dj;refine ax (fun _=>ah ⟨h1.1,fun _=>rfl,.inl rfl⟩) (fun _=>ah h1)
end
section
open Go.Lib hiding intOf
theorem Lq (a b:Int):(a==b)=decide (a=b):=by by_cases h:a=b <;> simp [h]
theorem KV {k:ae} (hs:k.t.size<=140737488355328):∃ b,dm k=some b/\cV k=some b:=by
 by_cases h:30<=k.k/\k.k<=32
 ·refine⟨decide (0<=Ae k),?_,?_⟩
  ·unfold dm;rw [xy,decide_eq_true h,A6 hs];rfl
  ·unfold cV fW;rw [decide_eq_true h.1,decide_eq_true h.2];simp only [cond_true];rw [pN];rfl
 ·have e2:cV k=fW k false:=by
   unfold cV;by_cases h1:30<=k.k
   ·rw [decide_eq_true h1,cond_true,decide_eq_false (fun h2=>h ⟨h1,h2⟩)]
   ·rw [decide_eq_false h1,cond_false]
  rw [e2];unfold dm fW iY gJ eF fN eY;rw [xy,decide_eq_false h];simp only [ad,cond_false];by_cases h1:1<=k.k <;> by_cases h2:k.k<=22 <;> by_cases h3:(k.t.size:Int)<=1073741824 <;> by_cases h4:k.k=1 <;> by_cases h5:k.k=21 <;>
   cases h6:(k.t.toList==cg.toList) <;> simp [h1,h2,h3,h4,h5,Lq,bne]
noncomputable def vk (k:ae):Bool:=(dm k).getD false
theorem C4 {k:ae} (h:k.t.size<=140737488355328):dm k=some (vk k)/\cV k=some (vk k):=by
 obtain⟨b,h1,h2⟩:=KV h;unfold vk;rw [h1,h2]; exact⟨rfl,rfl⟩
def JF (k:ae):Bool:=(k.k:Int)==1||(k.k:Int)==2||(k.k:Int)==30
theorem L0 (k:ae):n6 k=some (JF k):=by
 unfold n6 mm JF;cases (k.k:Int)==1 <;> cases (k.k:Int)==2 <;> cases (k.k:Int)==30 <;> rfl
theorem HD {k:ae} (h:k.t.size<=140737488355328) (hv:vk k=true):k.t.size<=1073741824:=by
 have e:=(C4 h).1;rw [hv] at e;by_cases ht:30<=k.k/\k.k<=32
 ·unfold dm at e;rw [xy,decide_eq_true ht,A6 h] at e;have hn:0<=Ae k:=by simpa using e
  have hl:k.t.toList.length<=9:=by
   refine HM fun hc=>?_;have hd:r6 k.t.toList = -1:=by
    unfold r6;rw [if_pos (.inr (.inl (by omega)))]
   unfold Ae Bd at hn;rw [if_pos ht,hd] at hn;split at hn <;> omega
  have:k.t.toList.length=k.t.size:=by rw [ByteArray.toList_eq,Array.length_toList]; rfl
  omega
 ·unfold dm iY gJ eF fN at e;rw [xy,decide_eq_false ht] at e;simp only [ad,cond_false] at e;refine HM fun hc=>?_;have h3:¬ (k.t.size:Int)<=1073741824:=by omega
  by_cases h1:1<=k.k <;> by_cases h2:k.k<=22 <;> simp [h1,h2,h3] at e
structure OY (r:aA):Prop where
 reads:r.v.length<=1000000
 text:r.d.t.size<=140737488355328
 texts:∀ k∈r.v,k.t.size<=140737488355328
section
variable {l:List aA} (hs:∀ c∈l,OY c) (hl:l.length<=1000000)
include hs hl
end
structure IW (b:ar):Prop where
 nin:b.i.length<=1000000
 nrec:b.s.length<=1000000
 recs:∀ r∈b.s,OY r
 ins:∀ x∈b.i,x.d.t.size<=140737488355328
section
variable {b:ar} (h:IW b)
include h
omit h in
theorem HC {k:ae} (hv:vk k=true):w7 k.k:=by
 unfold vk at hv;by_cases ht:30<=k.k/\k.k<=32
 ·exact⟨by omega,by omega⟩
 ·by_cases h1:1<=k.k
  ·by_cases h2:k.k<=22
   ·exact⟨by omega,by omega⟩
   ·unfold dm iY gJ eF fN at hv;rw [xy,decide_eq_false ht] at hv;simp [h1,h2] at hv
  ·unfold dm iY gJ eF fN at hv;rw [xy,decide_eq_false ht] at hv;simp [h1] at hv
end
end
end Go.Proofs.YtcpplgcgcbihoaaGreatDoor
