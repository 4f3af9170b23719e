/- Texts of the proof, joined (4). -/
import Derived.Test.YthefmilamdchiaaGreatDoorA1
import Derived.Test.YthefmilamdchiaaGreatDoorA3
import Derived.Test.YthefmilamdchiaaGreatDoorA2
set_option linter.unusedVariables false
set_option linter.unusedSimpArgs false
set_option linter.unusedSectionVars false
namespace Go.Proofs.YthefmilamdchiaaGreatDoor
section
set_option maxRecDepth 100000
set_option maxHeartbeats 4000000
open Go.RowKit
noncomputable section
def kL (c:(al×Bool)) (b:Bool):Option (ByteArray×Bool):=cond b (some ((c.1.Value,true))) (some (((ByteArray.mk #[]),false)))
def oC (c:ah) (d:ae):Option (ByteArray×Bool):=(ci d).bind fun e=>cond e ((mL c d).bind fun f=>some ((f,true))) ((cr c.Records d).bind fun b=>cond b.2 (kL b ((b.1.Verified:Int) == c.Revision)) (kL b false))
theorem xo (T:Nat→Prop) (W0:World) (hT:TW T W0) (b:ah) (c:ae) (q:Value) (r:Value) (o:aB ac T W0 q b.Inputs) (p:aB aa T W0 r b.Records) (y:ByteArray×Bool) (hM:oC b c=some y):aY Tryz.prog No 153 [.agg (aO b q r).toArray,.agg (aS c).toArray] W0 (fun v w'=>v = .tuple #[.string y.1,.bool y.2]):=by
 refine en Tryz.func153 Tryz.ntmps153 hT fun a hS=>?_
 replace hS:=hS.fS (aB.dn o)
 replace hS:=hS.fS (aB.dn p)
 unfold oC at hM
 refine ai hS fun a hS=>?_
 refine kb hS fun s u a w hk hS=>?_
 refine kb hS fun t x a w hk hS=>?_
 refine ai hS fun a hS=>?_
 refine aw ?_
 refine ai hS fun a hS=>?_
 obtain ⟨A,k,hM⟩:=bd hM
 refine kc hS uD (dt _ _ hS.dlt c _ k) fun _ w hR a hk hA=>?_
 obtain rfl:=hR
 have hS:=bM hA
 refine ai hS fun a hS=>?_
 rcases cd hM with ⟨m,hM⟩ | ⟨m,hM⟩
 ·refine ai hS fun a hS=>?_
  obtain ⟨B,l,hM⟩:=bd hM
  refine kc hS EN (qC _ _ hS.dlt b c _ _ (hS.get 1 rfl) (hS.get 0 rfl) _ l) fun _ w hR a hk hA=>?_
  obtain rfl:=hR
  have hS:=bM hA
  refine ai hS fun a hS=>?_
  cases hM
  refine aF hS Tryz.results153 (ar hS rfl (ar hS rfl aH)) ?_
  exact rfl
 refine ai hS fun a hS=>?_
 refine aw ?_
 refine ai hS fun a hS=>?_
 obtain ⟨e,j,hM⟩:=bd hM
 refine kc hS kr (bF _ _ hS.dlt b.Records c _ (hS.get 0 rfl) _ j) fun _ w hR a hk hA=>?_
 obtain ⟨i,g,he,h⟩:=hR
 obtain rfl:=he.symm
 have hS:=pd hA h
 refine ai hS fun a hS=>?_
 refine ka hS fJ fun f z a w hk hS=>?_
 refine go hS fun a w hS=>?_
 refine aI (J:=fun a w=>∃ (d:Bool),St W0 No T 30 [(6,pt f 0),(27,.bool d)] [au i g,.box f (aX e.1 i) 77] [am ad g e.1.Reads] a w∧kL e d=some y) ?_ ?_
 ·exact fz
 rintro a w ⟨d,hS,hM⟩
 unfold kL at hM
 rcases cd hM with ⟨n,hM⟩ | ⟨n,hM⟩
 ·refine ai hS fun a hS=>?_
  cases hM
  refine aF hS Tryz.results153 (ar hS rfl (ar hS rfl aH)) ?_
  exact rfl
 refine ai hS fun a hS=>?_
 cases hM
 refine aF hS Tryz.results153 (ar hS rfl (ar hS rfl aH)) ?_
 exact rfl
def kd (vrec:aj→ae→Option (ByteArray×aj)) (d:aj) (g:ah) (c:ae):Option (ByteArray×aj):=(bZ c).bind fun e=>cond e ((vrec d c).bind fun b=>some ((b.1,(aj.mk b.2.Rules (ah.mk b.2.Base.Revision b.2.Base.Inputs b.2.Base.Records) b.2.Memo b.2.Seen)))) ((oC g c).bind fun f=>some ((f.1,d)))
theorem qG (T:Nat→Prop) (W0:World) (hT:TW T W0) (vrec:aj→ae→Option (ByteArray×aj)) (hvrec:lr vrec) (f:aj) (u:ah) (x:ae) (H:Value) (I:Value) (b:Nat) (o:Value) (p:Value) (q:Value) (d:Nat) (h:Array MapEntry) (j:Nat) (e:Nat) (i:Array MapEntry) (g:Nat) (hD:vB T W0 [xS b o f.Base.Revision p q d e,om d h j,om e i g]) (X:aB aq (dT T [xS b o f.Base.Revision p q d e,om d h j,om e i g]) W0 o f.Rules) (Y:aB ac (dT T [xS b o f.Base.Revision p q d e,om d h j,om e i g]) W0 p f.Base.Inputs) (Z:aB aa (dT T [xS b o f.Base.Revision p q d e,om d h j,om e i g]) W0 q f.Base.Records) (V:bw ad true aR.str false (dT T [xS b o f.Base.Revision p q d e,om d h j,om e i g]) W0 h f.Memo) (W:bw ad true (aR.slice ad) false (dT T [xS b o f.Base.Revision p q d e,om d h j,om e i g]) W0 i f.Seen) (P:aB ac (dT T [xS b o f.Base.Revision p q d e,om d h j,om e i g]) W0 H u.Inputs) (Q:aB aa (dT T [xS b o f.Base.Revision p q d e,om d h j,om e i g]) W0 I u.Records) (hLv:c6 (dT T [xS b o f.Base.Revision p q d e,om d h j,om e i g]) W0) (y:ByteArray×aj) (hM:kd vrec f u x=some y):aY Tryz.prog (MD [xS b o f.Base.Revision p q d e,om d h j,om e i g]) 136 [pt b 0,.agg (aO u H I).toArray,.agg (aS x).toArray] W0 (fun v w'=>∃ (r:Value) (s:Value) (t:Value) (k:Array MapEntry) (m:Nat) (l:Array MapEntry) (n:Nat),v = .string y.1∧n8 W0 w' [xS b o f.Base.Revision p q d e,om d h j,om e i g] [xS b r y.2.Base.Revision s t d e,om d k m,om e l n]∧aB aq (dT T [xS b r y.2.Base.Revision s t d e,om d k m,om e l n]) w' r y.2.Rules∧aB ac (dT T [xS b r y.2.Base.Revision s t d e,om d k m,om e l n]) w' s y.2.Base.Inputs∧aB aa (dT T [xS b r y.2.Base.Revision s t d e,om d k m,om e l n]) w' t y.2.Base.Records∧bw ad true aR.str false (dT T [xS b r y.2.Base.Revision s t d e,om d k m,om e l n]) w' k y.2.Memo∧bw ad true (aR.slice ad) false (dT T [xS b r y.2.Base.Revision s t d e,om d k m,om e l n]) w' l y.2.Seen):=by
 refine kk (c:=_) Tryz.func136 rfl T 21 Tryz.ntmps136 hT rfl hD fun a hS=>?_
 replace hS:=hS.fact bu hLv
 replace hS:=hS.fS P
 replace hS:=hS.fS Q
 replace hS:=hS.fS X
 replace hS:=hS.fS Y
 replace hS:=hS.fS Z
 replace hS:=hS.fM V
 replace hS:=hS.fM W
 unfold kd at hM
 refine ai hS fun a hS=>?_
 refine kb hS fun a0 a2 a w hk hS=>?_
 refine kb hS fun a1 a3 a w hk hS=>?_
 refine ai hS fun a hS=>?_
 refine aw ?_
 refine ai hS fun a hS=>?_
 obtain ⟨a4,E,hM⟩:=bd hM
 refine kc hS s7 (cq _ _ hS.dlt x _ E) fun _ w hR a hk hA=>?_
 obtain rfl:=hR
 have hS:=bM hA
 refine ai hS fun a hS=>?_
 rcases cd hM with ⟨N,hM⟩ | ⟨N,hM⟩
 ·refine ai hS fun a hS=>?_
  obtain ⟨a5,F,hM⟩:=bd hM
  replace hS:=hS.re [2,3,4] [0,1]
  refine wl rfl (cF hS zI rfl rfl (hvrec _ _ hS.dltD f x _ _ _ _ _ _ _ _ _ _ hS.dok (hS.getD 4 rfl) (hS.getD 3 rfl) (hS.getD 2 rfl) (hS.getD 1 rfl) (hS.getD 0 rfl) (hS.getD 7 rfl) _ F) fun _ w hR a hk hA=>?_)
  obtain ⟨R,S,U,L,J,M,K,he,O,B,C,D,z,A⟩:=hR
  obtain rfl:=he.symm
  have hS:=hA _ O
  replace hS:=hS.fS (B.sub (ap _))
  replace hS:=hS.fS (C.sub (ap _))
  replace hS:=hS.fS (D.sub (ap _))
  replace hS:=hS.fM (z.keep (Kt.refl _ _) (ap _))
  replace hS:=hS.fM (A.keep (Kt.refl _ _) (ap _))
  refine ai hS fun a hS=>?_
  cases hM
  refine aF hS rfl (ar hS rfl aH) ?_
  have hZ:=hS.sl [0,1,2] [4,3,2,1,0]
  exact ⟨R,S,U,L,J,M,K,rfl,hZ.dnew,(hZ.get 0 rfl),(hZ.get 1 rfl),(hZ.get 2 rfl),(hZ.get 3 rfl),(hZ.get 4 rfl)⟩
 refine ai hS fun a hS=>?_
 obtain ⟨a9,G,hM⟩:=bd hM
 refine kc hS GN (xo _ _ hS.dlt u x _ _ (hS.get 6 rfl) (hS.get 5 rfl) _ G) fun _ w hR a hk hA=>?_
 obtain rfl:=hR
 have hS:=bM hA
 refine ai hS fun a hS=>?_
 cases hM
 refine aF hS rfl (ar hS rfl aH) ?_
 have hZ:=hS.sl [2,3,4] [4,3,2,1,0]
 exact ⟨o,p,q,h,j,i,g,rfl,hZ.dnew,(hZ.get 0 rfl),(hZ.get 1 rfl),(hZ.get 2 rfl),(hZ.get 3 rfl),(hZ.get 4 rfl)⟩
def m8 (b:ah) (c:LR):Option ah:=some ((ah.mk b.Revision b.Inputs c))
def i6 (c:Int) (b:LR):Option (Fl (Int×LR) (LR)):=some (.go (IntKind.i64.wrap (c + 1),b))
def kO (g:LK) (f:Bool) (h:ah) (b:Int) (c:LR):Option (Fl (Int×LR) (LR)):=cond (decide ((b:Int) < (h.Records.length:Int))) ((bm c b).bind fun i=>(iY g i.Key).bind fun j=>cond (!(j)) (i6 b c) (cond f ((bm c b).bind fun d=>i6 b (c.set (Int.toNat b) (al.mk d.Key d.Value d.Reads d.Changed d.Verified d.Cost true))) ((bm c b).bind fun e=>i6 b (c.set (Int.toNat b) (al.mk e.Key e.Value e.Reads e.Changed h.Revision e.Cost e.Dirty))))) (some (.out c))
def jJ (e:ah) (d:LK) (c:Bool):Option ah:=(ew e).bind fun b=>(loop (fun s:Int×LR=>kO d c b s.1 s.2) (0,b.Records)).bind fun r=>m8 b r
theorem nW (T:Nat→Prop) (W0:World) (hT:TW T W0) (r:ah) (c:LK) (d:Bool) (v1:Value) (v2:Value) (C:Value) (af:aB ac T W0 v1 r.Inputs) (ag:aB aa T W0 v2 r.Records) (ak:aB ad T W0 C c) (y:ah) (hM:jJ r c d=some y):aY Tryz.prog No 137 [.agg (aO r v1 v2).toArray,C,.bool d] W0 (fun v w'=>∃ (G:Value) (wP:List Value) (H:Value) (yZ:List Value),v = .agg (aO y G H).toArray∧iy ac T W0 w' [aP G wP,aE H yZ] 61 G wP y.Inputs∧iy aa T W0 w' [aP G wP,aE H yZ] 77 H yZ y.Records∧(∀ k,G.ownBlock=some k→H.ownBlock ≠ some k)):=by
 refine en Tryz.func137 Tryz.ntmps137 hT fun a hS=>?_
 replace hS:=hS.fS (aB.dn af)
 replace hS:=hS.fS (aB.dn ag)
 replace hS:=hS.fS (aB.dn ak)
 unfold jJ at hM
 refine ai hS fun a hS=>?_
 refine kb hS fun m b6 a w hk hS=>?_
 refine ka hS jP fun n b8 a w hk hS=>?_
 refine ai hS fun a hS=>?_
 obtain ⟨b,K,hM⟩:=bd hM
 refine kc hS uC (dQ _ _ hS.dlt r _ _ (hS.get 2 rfl) (hS.get 1 rfl) _ K) fun _ w hR a hk hA=>?_
 obtain ⟨j,e,l,b0,he,E,F,a9⟩:=hR
 obtain rfl:=he.symm
 have hS:=sZ hA E F a9
 refine go hS fun a w hS=>?_
 refine aI (J:=fun a w=>∃ (t:LR) (q:LV),St W0 No T 40 [(3,pt m 0),(6,pt n 0)] [aP j e,aE l q,.box m (aO b j l) 31,.box n [.int .i64 0,.slice none 0 0,.slice none 0 0] 31] [am ac e b.Inputs,am aa q t] a w∧m8 b t=some y) ?_ ?_
 ·skip
  refine ai hS fun a hS=>?_
  obtain ⟨r1,ab,hMo1⟩:=bd hM
  refine bB _ (fun s a w=>∃ (o:Int) (p:LR) (x:LV),(o,p)=s∧St W0 No T 40 [(1,C),(2,.bool d),(3,pt m 0),(6,pt n 0),(12,.int .i64 (b.Records.length:Int)),(13,.int .i64 o)] [aP j e,aE l x,.box m (aO b j l) 31,.box n [.int .i64 0,.slice none 0 0,.slice none 0 0] 31] [aJ ad C c,am ac e b.Inputs,am aa x p] a w) ab ⟨_,_,_,rfl,hS.mt [0,1,3,2] [2,1,0]⟩ ?_
  rintro s a w f1 ⟨o,p,x,rfl,hS⟩ hM hf1
  have hM:kO c d b o p=some f1:=hM
  unfold kO at hM
  refine ai hS fun a hS=>?_
  refine aw ?_
  rcases cd hM with ⟨P,hM⟩ | ⟨P,hM⟩
  ·refine ai hS fun a hS=>?_
   refine aI (J:=fun a w=>∃ (u:LR) (z:LV),St W0 No T 40 [(1,C),(2,.bool d),(3,pt m 0),(6,pt n 0),(12,.int .i64 (b.Records.length:Int)),(13,.int .i64 o)] [aP j e,aE l z,.box m (aO b j l) 31,.box n [.int .i64 0,.slice none 0 0,.slice none 0 0] 31] [aJ ad C c,am ac e b.Inputs,am aa z u] a w∧i6 o u=some f1) ?_ ?_
   ·skip
    refine ai hS fun a hS=>?_
    refine aw ?_
    refine ai hS fun a hS=>?_
    obtain ⟨D,I,hM⟩:=bd hM
    refine wl rfl (dI (R:=aa) hS nH kQ rfl rfl 1 rfl 2 rfl I rfl fun ax b9 bl b1 Q S U a hS=>?_)
    obtain ⟨c0,rfl,M⟩:=Q
    replace hS:=hS.fS M
    refine ai hS fun a hS=>?_
    refine qy hS (cg (k:=0) hS fY 1 rfl S U rfl id (us:=(aS D.Key)) rfl rfl (fun h=>by cases h)) fun a hS=>?_
    obtain ⟨bt,L,hM⟩:=bd hM
    refine kc hS Ar (lA _ _ hS.dlt c D.Key _ (hS.get 1 rfl) _ L) fun _ w hR a hk hA=>?_
    obtain rfl:=hR
    have hS:=bM hA
    refine ai hS fun a hS=>?_
    rcases cd hM with ⟨V,hM⟩ | ⟨V,hM⟩
    ·exact fz
    refine ai hS fun a hS=>?_
    rcases cd hM with ⟨W,hM⟩ | ⟨W,hM⟩
    ·refine ai hS fun a hS=>?_
     obtain ⟨f,A,hM⟩:=bd hM
     refine wl rfl (dI (R:=aa) hS nH kQ rfl rfl 1 rfl 3 rfl A rfl fun ay bb bq b2 X Y Z a hS=>?_)
     obtain ⟨a3,rfl,N⟩:=X
     replace hS:=hS.fS N
     refine ai hS fun a hS=>?_
     refine wl rfl (pu (R:=aa) (k:=7) (cs:=(aX f a3)) (us:=[.bool true]) (x':=(al.mk f.Key f.Value f.Reads f.Changed f.Verified f.Cost true)) hS rfl rfl rfl Ge 1 rfl 4 rfl Y Z A (⟨_,rfl,(hS.get 0 rfl)⟩) rfl rfl (⟨_,rfl,(hS.get 0 rfl)⟩) fun b3 w hk hS=>?_)
     exact fz
    refine ai hS fun a hS=>?_
    obtain ⟨g,B,hM⟩:=bd hM
    refine wl rfl (dI (R:=aa) hS nH kQ rfl rfl 1 rfl 3 rfl B rfl fun az bi bs b4 a0 a1 a2 a hS=>?_)
    obtain ⟨a4,rfl,O⟩:=a0
    replace hS:=hS.fS O
    refine ai hS fun a hS=>?_
    refine wl rfl (pu (R:=aa) (k:=5) (cs:=(aX g a4)) (us:=[.int .i64 b.Revision]) (x':=(al.mk g.Key g.Value g.Reads g.Changed b.Revision g.Cost g.Dirty)) hS rfl rfl rfl wI 1 rfl 4 rfl a1 a2 B (⟨_,rfl,(hS.get 0 rfl)⟩) rfl rfl (⟨_,rfl,(hS.get 0 rfl)⟩) fun b5 w hk hS=>?_)
    exact fz
   rintro a w ⟨u,z,hS,hM⟩
   unfold i6 at hM
   exact fz
  exact fz
 rintro a w ⟨t,q,hS,hM⟩
 unfold m8 at hM
 refine go hS fun a w hS=>?_
 cases hM
 refine aF hS rfl (rC 3 hS) ?_
 exact ⟨j,e,l,q,rfl,hS.retOwn ⟨.inr (List.mem_of_getElem? (i:=0) rfl),⟨.inr (List.mem_of_getElem? (i:=1) rfl),trivial⟩⟩ 0 rfl 0 rfl,hS.retOwn ⟨.inr (List.mem_of_getElem? (i:=0) rfl),⟨.inr (List.mem_of_getElem? (i:=1) rfl),trivial⟩⟩ 1 rfl 1 rfl,(hS.apart2 0 rfl 1 rfl (by decide))⟩
def ny (c:ah) (d:ae):Option Int:=(mM c d).bind fun b=>some (b.Changed)
theorem vM (T:Nat→Prop) (W0:World) (hT:TW T W0) (b:ah) (c:ae) (g:Value) (h:Value) (e:aB ac T W0 g b.Inputs) (f:aB aa T W0 h b.Records) (y:Int) (hM:ny b c=some y):aY Tryz.prog No 154 [.agg (aO b g h).toArray,.agg (aS c).toArray] W0 (fun v w'=>v = .int .i64 y):=by
 refine en Tryz.func154 Tryz.ntmps154 hT fun a hS=>?_
 replace hS:=hS.fS (aB.dn e)
 replace hS:=hS.fS (aB.dn f)
 unfold ny at hM
 refine ai hS fun a hS=>?_
 refine kb hS fun i k a w hk hS=>?_
 refine kb hS fun j l a w hk hS=>?_
 refine ai hS fun a hS=>?_
 obtain ⟨m,d,hM⟩:=bd hM
 refine kc hS G2 (sG _ _ hS.dlt b c _ _ (hS.get 1 rfl) (hS.get 0 rfl) _ d) fun _ w hR a hk hA=>?_
 obtain rfl:=hR
 have hS:=bM hA
 refine qy hS (sX hS rfl Tryz.underlying61 rfl rfl wI rfl rfl (fun _=>rfl)) fun a hS=>?_
 exact fz
def fC (j:ah) (i:(al×Bool)) (h:Bool) (b:LU) (c:Int) (d:LI) (e:LR) (f:LB) (g:LL):Option (Int×aj):=cond h (some ((i.1.Changed,(aj.mk b (ah.mk c d e) f g)))) (some ((j.Revision,(aj.mk b (ah.mk c d e) f g))))
def i7 (vrec:aj→ae→Option (ByteArray×aj)) (b:aj) (e:ah) (f:ae):Option (Int×aj):=(ci f).bind fun g=>cond g ((ny e f).bind fun h=>some ((h,b))) ((cr e.Records f).bind fun d=>cond d.2 (cond ((d.1.Verified:Int) == e.Revision) (fC e d true b.Rules b.Base.Revision b.Base.Inputs b.Base.Records b.Memo b.Seen) ((vrec b f).bind fun c=>fC e d (c.1.toList == d.1.Value.toList) c.2.Rules c.2.Base.Revision c.2.Base.Inputs c.2.Base.Records c.2.Memo c.2.Seen)) (fC e d false b.Rules b.Base.Revision b.Base.Inputs b.Base.Records b.Memo b.Seen))
theorem qd (T:Nat→Prop) (W0:World) (hT:TW T W0) (vrec:aj→ae→Option (ByteArray×aj)) (hvrec:lr vrec) (f:aj) (m:ah) (G:ae) (S:Value) (U:Value) (b:Nat) (p:Value) (q:Value) (r:Value) (d:Nat) (h:Array MapEntry) (k:Nat) (e:Nat) (j:Array MapEntry) (g:Nat) (hD:vB T W0 [xS b p f.Base.Revision q r d e,om d h k,om e j g]) (b1:aB aq (dT T [xS b p f.Base.Revision q r d e,om d h k,om e j g]) W0 p f.Rules) (b2:aB ac (dT T [xS b p f.Base.Revision q r d e,om d h k,om e j g]) W0 q f.Base.Inputs) (b3:aB aa (dT T [xS b p f.Base.Revision q r d e,om d h k,om e j g]) W0 r f.Base.Records) (az:bw ad true aR.str false (dT T [xS b p f.Base.Revision q r d e,om d h k,om e j g]) W0 h f.Memo) (b0:bw ad true (aR.slice ad) false (dT T [xS b p f.Base.Revision q r d e,om d h k,om e j g]) W0 j f.Seen) (ax:aB ac (dT T [xS b p f.Base.Revision q r d e,om d h k,om e j g]) W0 S m.Inputs) (ay:aB aa (dT T [xS b p f.Base.Revision q r d e,om d h k,om e j g]) W0 U m.Records) (hLv:c6 (dT T [xS b p f.Base.Revision q r d e,om d h k,om e j g]) W0) (y:Int×aj) (hM:i7 vrec f m G=some y):aY Tryz.prog (MD [xS b p f.Base.Revision q r d e,om d h k,om e j g]) 140 [pt b 0,.agg (aO m S U).toArray,.agg (aS G).toArray] W0 (fun v w'=>∃ (D:Value) (E:Value) (F:Value) (n:Array MapEntry) (s:Nat) (o:Array MapEntry) (t:Nat),v = .int .i64 y.1∧n8 W0 w' [xS b p f.Base.Revision q r d e,om d h k,om e j g] [xS b D y.2.Base.Revision E F d e,om d n s,om e o t]∧aB aq (dT T [xS b D y.2.Base.Revision E F d e,om d n s,om e o t]) w' D y.2.Rules∧aB ac (dT T [xS b D y.2.Base.Revision E F d e,om d n s,om e o t]) w' E y.2.Base.Inputs∧aB aa (dT T [xS b D y.2.Base.Revision E F d e,om d n s,om e o t]) w' F y.2.Base.Records∧bw ad true aR.str false (dT T [xS b D y.2.Base.Revision E F d e,om d n s,om e o t]) w' n y.2.Memo∧bw ad true (aR.slice ad) false (dT T [xS b D y.2.Base.Revision E F d e,om d n s,om e o t]) w' o y.2.Seen):=by
 refine kk (c:=_) Tryz.func140 rfl T 41 Tryz.ntmps140 hT rfl hD fun a hS=>?_
 replace hS:=hS.fact bu hLv
 replace hS:=hS.fS ax
 replace hS:=hS.fS ay
 replace hS:=hS.fS b1
 replace hS:=hS.fS b2
 replace hS:=hS.fS b3
 replace hS:=hS.fM az
 replace hS:=hS.fM b0
 unfold i7 at hM
 refine ai hS fun a hS=>?_
 refine kb hS fun V bl a w hk hS=>?_
 refine kb hS fun b4 bq a w hk hS=>?_
 refine ai hS fun a hS=>?_
 refine aw ?_
 refine ai hS fun a hS=>?_
 obtain ⟨bt,a9,hM⟩:=bd hM
 refine kc hS uD (dt _ _ hS.dlt G _ a9) fun _ w hR a hk hA=>?_
 obtain rfl:=hR
 have hS:=bM hA
 refine ai hS fun a hS=>?_
 rcases cd hM with ⟨ag,hM⟩ | ⟨ag,hM⟩
 ·refine ai hS fun a hS=>?_
  obtain ⟨c0,ab,hM⟩:=bd hM
  refine kc hS GO (vM _ _ hS.dlt m G _ _ (hS.get 6 rfl) (hS.get 5 rfl) _ ab) fun _ w hR a hk hA=>?_
  obtain rfl:=hR
  have hS:=bM hA
  refine ai hS fun a hS=>?_
  cases hM
  refine aF hS rfl (ar hS rfl aH) ?_
  have hZ:=hS.sl [2,3,4] [4,3,2,1,0]
  exact ⟨p,q,r,h,k,j,g,rfl,hZ.dnew,(hZ.get 0 rfl),(hZ.get 1 rfl),(hZ.get 2 rfl),(hZ.get 3 rfl),(hZ.get 4 rfl)⟩
 refine ai hS fun a hS=>?_
 obtain ⟨z,a5,hM⟩:=bd hM
 refine kc hS kr (bF _ _ hS.dlt m.Records G _ (hS.get 5 rfl) _ a5) fun _ w hR a hk hA=>?_
 obtain ⟨a4,X,he,a0⟩:=hR
 obtain rfl:=he.symm
 have hS:=pd hA a0
 refine ai hS fun a hS=>?_
 refine ka hS fJ fun W bs a w hk hS=>?_
 refine go hS fun a w hS=>?_
 refine aw ?_
 refine aI (J:=fun a w=>∃ (K:Bool) (M:LU) (N:Int) (O:LI) (P:LR) (Q:LB) (R:LL) (u:AM) (H:Nat) (x:AM) (I:Nat) (A:Value) (B:Value) (C:Value),St W0 (MD [xS b p f.Base.Revision q r d e,om d h k,om e j g]) T 41 [(4,pt V 0),(7,pt W 0),(36,.bool K)] [.box V (aO m S U) 31,au a4 X,.box W (aX z.1 a4) 77,om d u H,om e x I,xS b A N B C d e] [aJ ac S m.Inputs,aJ aa U m.Records,am ad X z.1.Reads,aJ aq A M,aJ ac B O,aJ aa C P,lL u Q,oK x R,bu] a w∧fC m z K M N O P Q R=some y) ?_ ?_
 ·skip
  refine dr [(10,.bks [some b,some d,some e])] hS fun w hQ hS=>?_
  refine gE [0,1] hS fun a hS=>?_
  rcases cd hM with ⟨ak,hM⟩ | ⟨ak,hM⟩
  ·refine gE [2,3,4,5,6,7] hS fun a hS=>?_
   rcases cd hM with ⟨L,hM⟩ | ⟨L,hM⟩
   ·refine gE [8,9,10,11,12,13,14,15] hS fun a hS=>?_
    refine eD ?_
    exact ⟨_,_,_,_,_,_,_,_,_,_,_,_,_,_,hS.mt [3,1,0,5,6,4] [7,6,0,5,4,3,2,1,8],hM⟩
   refine gE [8,9,11] hS fun a hS=>?_
   refine we (l:=[.bks [some b,some d,some e]]) 12 (v:=.string z.1.Value) rfl (by kernel_rfl) (by kernel_rfl) (by kernel_rfl) (by kernel_rfl) hQ hS (dV hS rfl DM 0 rfl (uN hS 0 rfl rfl [4,5,6] rfl rfl bE) (us:=[.string z.1.Value]) rfl rfl (fun _=>rfl)) rfl rfl rfl L rfl rfl fun a hS=>?_
   obtain ⟨c1,af,hM⟩:=bd hM
   replace hS:=hS.re [4,5,6] [0,1,2,3]
   refine bV (i:=10) rfl (by kernel_rfl) hS rfl rfl rfl L (cF hS zI rfl rfl (hvrec _ _ hS.dltD f G _ _ _ _ _ _ _ _ _ _ hS.dok (hS.getD 5 rfl) (hS.getD 4 rfl) (hS.getD 3 rfl) (hS.getD 2 rfl) (hS.getD 1 rfl) (hS.getD 8 rfl) _ af) fun _ w hR a hk hA=>⟨kp rfl hk (xW rfl rfl),?_⟩)
   obtain ⟨c2,c3,c4,bb,b6,bi,b9,he,ao,a1,a2,a3,Y,Z⟩:=hR
   obtain rfl:=he.symm
   have hS:=hA _ ao
   replace hS:=hS.fS (a1.sub (ap _))
   replace hS:=hS.fS (a2.sub (ap _))
   replace hS:=hS.fS (a3.sub (ap _))
   replace hS:=hS.fM (Y.keep (Kt.refl _ _) (ap _))
   replace hS:=hS.fM (Z.keep (Kt.refl _ _) (ap _))
   refine gE [13,14,15] hS fun a hS=>?_
   refine eD ?_
   exact ⟨_,_,_,_,_,_,_,_,_,_,_,_,_,_,hS.mt [6,4,3,1,2,0] [12,11,5,4,3,2,1,0,13],hM⟩
  refine gE [2,3,4,5,6,7,8,9,10,11,12,13,14,15] hS fun a hS=>?_
  refine eD ?_
  exact ⟨_,_,_,_,_,_,_,_,_,_,_,_,_,_,hS.mt [3,1,0,5,6,4] [7,6,0,5,4,3,2,1,8],hM⟩
 rintro a w ⟨K,M,N,O,P,Q,R,u,H,x,I,A,B,C,hS,hM⟩
 unfold fC at hM
 rcases cd hM with ⟨av,hM⟩ | ⟨av,hM⟩
 ·refine ai hS fun a hS=>?_
  cases hM
  refine aF hS rfl (ar hS rfl aH) ?_
  have hZ:=hS.sl [5,3,4] [3,4,5,6,7]
  exact ⟨A,B,C,u,H,x,I,rfl,hZ.dnew,(hZ.get 0 rfl),(hZ.get 1 rfl),(hZ.get 2 rfl),(hZ.get 3 rfl),(hZ.get 4 rfl)⟩
 refine ai hS fun a hS=>?_
 cases hM
 refine aF hS rfl (ar hS rfl aH) ?_
 have hZ:=hS.sl [5,3,4] [3,4,5,6,7]
 exact ⟨A,B,C,u,H,x,I,rfl,hZ.dnew,(hZ.get 0 rfl),(hZ.get 1 rfl),(hZ.get 2 rfl),(hZ.get 3 rfl),(hZ.get 4 rfl)⟩
def pW (vrec:aj→ae→Option (ByteArray×aj)) (e:aj) (c:ah) (d:ae):Option (Int×aj):=(i7 vrec e c d).bind fun b=>some ((b.1,(aj.mk b.2.Rules (ah.mk b.2.Base.Revision b.2.Base.Inputs b.2.Base.Records) b.2.Memo b.2.Seen)))
theorem xp (T:Nat→Prop) (W0:World) (hT:TW T W0) (vrec:aj→ae→Option (ByteArray×aj)) (hvrec:lr vrec) (f:aj) (u:ah) (D:ae) (F:Value) (G:Value) (b:Nat) (o:Value) (p:Value) (q:Value) (d:Nat) (h:Array MapEntry) (j:Nat) (e:Nat) (i:Array MapEntry) (g:Nat) (hD:vB T W0 [xS b o f.Base.Revision p q d e,om d h j,om e i g]) (U:aB aq (dT T [xS b o f.Base.Revision p q d e,om d h j,om e i g]) W0 o f.Rules) (V:aB ac (dT T [xS b o f.Base.Revision p q d e,om d h j,om e i g]) W0 p f.Base.Inputs) (W:aB aa (dT T [xS b o f.Base.Revision p q d e,om d h j,om e i g]) W0 q f.Base.Records) (R:bw ad true aR.str false (dT T [xS b o f.Base.Revision p q d e,om d h j,om e i g]) W0 h f.Memo) (S:bw ad true (aR.slice ad) false (dT T [xS b o f.Base.Revision p q d e,om d h j,om e i g]) W0 i f.Seen) (M:aB ac (dT T [xS b o f.Base.Revision p q d e,om d h j,om e i g]) W0 F u.Inputs) (N:aB aa (dT T [xS b o f.Base.Revision p q d e,om d h j,om e i g]) W0 G u.Records) (hLv:c6 (dT T [xS b o f.Base.Revision p q d e,om d h j,om e i g]) W0) (y:Int×aj) (hM:pW vrec f u D=some y):aY Tryz.prog (MD [xS b o f.Base.Revision p q d e,om d h j,om e i g]) 138 [pt b 0,.agg (aO u F G).toArray,.agg (aS D).toArray] W0 (fun v w'=>∃ (r:Value) (s:Value) (t:Value) (k:Array MapEntry) (m:Nat) (l:Array MapEntry) (n:Nat),v = .int .i64 y.1∧n8 W0 w' [xS b o f.Base.Revision p q d e,om d h j,om e i g] [xS b r y.2.Base.Revision s t d e,om d k m,om e l n]∧aB aq (dT T [xS b r y.2.Base.Revision s t d e,om d k m,om e l n]) w' r y.2.Rules∧aB ac (dT T [xS b r y.2.Base.Revision s t d e,om d k m,om e l n]) w' s y.2.Base.Inputs∧aB aa (dT T [xS b r y.2.Base.Revision s t d e,om d k m,om e l n]) w' t y.2.Base.Records∧bw ad true aR.str false (dT T [xS b r y.2.Base.Revision s t d e,om d k m,om e l n]) w' k y.2.Memo∧bw ad true (aR.slice ad) false (dT T [xS b r y.2.Base.Revision s t d e,om d k m,om e l n]) w' l y.2.Seen):=by
 refine kk (c:=_) Tryz.func138 rfl T 11 Tryz.ntmps138 hT rfl hD fun a hS=>?_
 replace hS:=hS.fact bu hLv
 replace hS:=hS.fS M
 replace hS:=hS.fS N
 replace hS:=hS.fS U
 replace hS:=hS.fS V
 replace hS:=hS.fS W
 replace hS:=hS.fM R
 replace hS:=hS.fM S
 unfold pW at hM
 refine ai hS fun a hS=>?_
 refine kb hS fun X Z a w hk hS=>?_
 refine kb hS fun Y a0 a w hk hS=>?_
 refine ai hS fun a hS=>?_
 obtain ⟨a1,E,hM⟩:=bd hM
 replace hS:=hS.re [2,3,4] [0,1]
 refine wl rfl (cF hS Ef rfl rfl (qd _ _ hS.dltD vrec hvrec f u D _ _ _ _ _ _ _ _ _ _ _ _ hS.dok (hS.getD 4 rfl) (hS.getD 3 rfl) (hS.getD 2 rfl) (hS.getD 1 rfl) (hS.getD 0 rfl) (hS.getD 6 rfl) (hS.getD 5 rfl) (hS.getD 7 rfl) _ E) fun _ w hR a hk hA=>?_)
 obtain ⟨O,P,Q,J,H,K,I,he,L,A,B,C,x,z⟩:=hR
 obtain rfl:=he.symm
 have hS:=hA _ L
 replace hS:=hS.fS (A.sub (ap _))
 replace hS:=hS.fS (B.sub (ap _))
 replace hS:=hS.fS (C.sub (ap _))
 replace hS:=hS.fM (x.keep (Kt.refl _ _) (ap _))
 replace hS:=hS.fM (z.keep (Kt.refl _ _) (ap _))
 refine ai hS fun a hS=>?_
 cases hM
 refine aF hS rfl (ar hS rfl aH) ?_
 have hZ:=hS.sl [0,1,2] [4,3,2,1,0]
 exact ⟨O,P,Q,J,H,K,I,rfl,hZ.dnew,(hZ.get 0 rfl),(hZ.get 1 rfl),(hZ.get 2 rfl),(hZ.get 3 rfl),(hZ.get 4 rfl)⟩
def nP (f:aj) (b:ah) (d:LF) (e:LR) (c:LK):Option (ah×LF×LK×Bool×Int×aj):=some (((ah.mk b.Revision b.Inputs e),d,c,true,0,f))
def gn (d:aj) (b:ah) (j:LF) (c:bc) (f:LF) (g:ByteArray) (e:Bool):Option (ah×LF×LK×Bool×Int×aj):=cond e (some ((b,j,([]:List ae),false,45,d))) ((mO b c.Key g c.Reads).bind fun i=>(jZ b.Records i).bind fun h=>nP d b f h ([c.Key]))
def k7 (vrec:aj→ae→Option (ByteArray×aj)) (h:aj) (j:LF) (c:ah) (d:LF) (b:bc) (k:LF) (m:Bool) (n:Bool) (l:ByteArray) (f:Int) (g:ByteArray):Option (ah×LF×LK×Bool×Int×aj):=cond n (cond (!(m)) (gn h c d b k l (decide ((4000:Int)≤(c.Records.length:Int)))) (gn h c d b k l false)) ((mP c d j (ae.mk f g)).bind fun i=>cond ((i:Int) == 1) (gd (bG (d.length + ([(bc.mk (ae.mk f g) false 0 ([]) ([]))]).length)) <| some ((c,(d ++ ([(bc.mk (ae.mk f g) false 0 ([]) ([]))])),([]:List ae),true,0,h))) (cond ((i:Int) == 2) (some ((c,d,([]:List ae),false,0,h))) (cond ((i:Int) == 3) (some ((c,d,([]:List ae),false,43,h))) (gd (bG (b.Reads.length + ([(ae.mk f g)]).length)) <| (kd vrec h c (ae.mk f g)).bind fun e=>gd (bG (b.Answers.length + ([e.1]).length)) <| some ((c,(d.set (Int.toNat (IntKind.i64.wrap ((d.length:Int) - 1))) (bc.mk b.Key b.Running b.At (b.Reads ++ ([(ae.mk f g)])) (b.Answers ++ ([e.1])))),([]:List ae),true,0,(aj.mk e.2.Rules (ah.mk e.2.Base.Revision e.2.Base.Inputs e.2.Base.Records) e.2.Memo e.2.Seen)))))))
def k8 (d:LF) (c:bc) (b:(Int×aj)) (e:Int) (f:LI) (g:LR):Option (ah×LF×LK×Bool×Int×aj):=some (((ah.mk e f g),(d.set (Int.toNat (IntKind.i64.wrap ((d.length:Int) - 1))) (bc.mk c.Key true 0 c.Reads c.Answers)),([]:List ae),true,0,(aj.mk b.2.Rules (ah.mk b.2.Base.Revision b.2.Base.Inputs b.2.Base.Records) b.2.Memo b.2.Seen)))
def gq (vrec:aj→ae→Option (ByteArray×aj)) (g:aj) (j:LF) (c:ah) (d:LF) (b:bc) (n:LF) (k:LK) (l:(List cy)) (m:Bool):Option (ah×LF×LK×Bool×Int×aj):=cond m (some ((c,(d.set (Int.toNat (IntKind.i64.wrap ((d.length:Int) - 1))) (bc.mk b.Key true 0 b.Reads b.Answers)),([]:List ae),true,0,g))) (cond (decide (((l.length:Int):Int)≤b.At)) ((jJ c k false).bind fun o=>some ((o,n,([]:List ae),true,0,g))) ((bm l b.At).bind fun f=>(mP c d j f.Read).bind fun h=>cond ((h:Int) == 1) (gd (bG (d.length + ([(bc.mk f.Read false 0 ([]) ([]))]).length)) <| some ((c,(d ++ ([(bc.mk f.Read false 0 ([]) ([]))])),([]:List ae),true,0,g))) (cond ((h:Int) == 2) (some ((c,d,([]:List ae),false,0,g))) (cond ((h:Int) == 3) (some ((c,d,([]:List ae),false,43,g))) ((cr c.Records f.Member).bind fun p=>(pW vrec g c f.Read).bind fun e=>cond (decide ((e.1:Int)≤p.1.Verified)) (some ((c,(d.set (Int.toNat (IntKind.i64.wrap ((d.length:Int) - 1))) (bc.mk b.Key b.Running (IntKind.i64.wrap (b.At + 1)) b.Reads b.Answers)),([]:List ae),true,0,(aj.mk e.2.Rules (ah.mk e.2.Base.Revision e.2.Base.Inputs e.2.Base.Records) e.2.Memo e.2.Seen)))) ((bZ b.Key).bind fun q=>cond q ((jJ c k true).bind fun i=>k8 d b e i.Revision i.Inputs i.Records) (k8 d b e c.Revision c.Inputs c.Records)))))))
def gr (vrec:aj→ae→Option (ByteArray×aj)) (f:aj) (b:LF) (d:ah) (i:LF) (e:bc) (c:LF) (k:Bool) (l:Bool) (g:LK) (h:(List cy)) (j:Bool):Option (ah×LF×LK×Bool×Int×aj):=cond j (some ((d,c,([]:List ae),true,0,f))) (cond (!(k)) (gq vrec f b d i e c g h true) (gq vrec f b d i e c g h l))
def k9 (vrec:aj→ae→Option (ByteArray×aj)) (j:aj) (d:LF) (c:ah) (i:LF) (b:bc) (g:LF) (e:Bool) (n:Int) (o:ByteArray) (p:ByteArray) (q:LK) (r:Int) (m:Int) (s:Int) (k:Bool):Option (ah×LF×LK×Bool×Int×aj):=cond b.Running ((dz j.Rules b.Key b.Answers).bind fun f=>k7 vrec j d c i b g e f.Done f.Value f.Ask.Kind f.Ask.Text) ((kK c.Records c.Revision b.Key).bind fun h=>(gA c.Records h).bind fun l=>cond e (gr vrec j d c i b g e k h l ((m:Int) == c.Revision)) (gr vrec j d c i b g e k h l false))
def mg (vrec:aj→ae→Option (ByteArray×aj)) (j:aj) (h:ah) (i:LF) (d:LF):Option (ah×LF×LK×Bool×Int×aj):=(ew h).bind fun f=>(dB i).bind fun c=>(bm c (IntKind.i64.wrap ((c.length:Int) - 1))).bind fun e=>(ql c 0 (IntKind.i64.wrap ((c.length:Int) - 1))).bind fun g=>(cr f.Records e.Key).bind fun b=>k9 vrec j d f c e g b.2 b.1.Key.Kind b.1.Key.Text b.1.Value b.1.Reads b.1.Changed b.1.Verified b.1.Cost b.1.Dirty
theorem vd (T:Nat→Prop) (W0:World) (hT:TW T W0) (vrec:aj→ae→Option (ByteArray×aj)) (hvrec:lr vrec) (d:aj) (cv:ah) (hu:LF) (G:LF) (hv:Value) (hw:Value) (h5:Value) (a5:Value) (e:Nat) (H:Value) (I:Value) (K:Value) (m:Nat) (q:Array MapEntry) (A:Nat) (n:Nat) (s:Array MapEntry) (p:Nat) (hD:vB T W0 [xS e H d.Base.Revision I K m n,om m q A,om n s p]) (p7:aB aq (dT T [xS e H d.Base.Revision I K m n,om m q A,om n s p]) W0 H d.Rules) (pe:aB ac (dT T [xS e H d.Base.Revision I K m n,om m q A,om n s p]) W0 I d.Base.Inputs) (pf:aB aa (dT T [xS e H d.Base.Revision I K m n,om m q A,om n s p]) W0 K d.Base.Records) (p5:bw ad true aR.str false (dT T [xS e H d.Base.Revision I K m n,om m q A,om n s p]) W0 q d.Memo) (p6:bw ad true (aR.slice ad) false (dT T [xS e H d.Base.Revision I K m n,om m q A,om n s p]) W0 s d.Seen) (nm:aB ac (dT T [xS e H d.Base.Revision I K m n,om m q A,om n s p]) W0 hv cv.Inputs) (no:aB aa (dT T [xS e H d.Base.Revision I K m n,om m q A,om n s p]) W0 hw cv.Records) (hs:aB an (dT T [xS e H d.Base.Revision I K m n,om m q A,om n s p]) W0 h5 hu) (np:aB an (dT T [xS e H d.Base.Revision I K m n,om m q A,om n s p]) W0 a5 G) (hLv:c6 (dT T [xS e H d.Base.Revision I K m n,om m q A,om n s p]) W0) (y:ah×LF×LK×Bool×Int×aj) (hM:mg vrec d cv hu G=some y):aY Tryz.prog (MD [xS e H d.Base.Revision I K m n,om m q A,om n s p]) 111 [pt e 0,.agg (aO cv hv hw).toArray,h5,a5] W0 (fun v w'=>∃ (hx:Value) (hy:Value) (h6:Value) (a2:Value) (S:List Value) (W:Value) (a3:Value) (a4:Value) (U:Array MapEntry) (Z:Nat) (V:Array MapEntry) (a0:Nat),v = .tuple #[.agg (aO y.1 hx hy).toArray,h6,a2,.bool y.2.2.2.1,.int .i64 y.2.2.2.2.1]∧aB ac (dT T [xS e W y.2.2.2.2.2.Base.Revision a3 a4 m n,om m U Z,om n V a0,au a2 S]) w' hx y.1.Inputs∧aB aa (dT T [xS e W y.2.2.2.2.2.Base.Revision a3 a4 m n,om m U Z,om n V a0,au a2 S]) w' hy y.1.Records∧aB an (dT T [xS e W y.2.2.2.2.2.Base.Revision a3 a4 m n,om m U Z,om n V a0,au a2 S]) w' h6 y.2.1∧aD ad (dT T [xS e W y.2.2.2.2.2.Base.Revision a3 a4 m n,om m U Z,om n V a0,au a2 S]) w' S y.2.2.1∧n8 W0 w' [xS e H d.Base.Revision I K m n,om m q A,om n s p] [xS e W y.2.2.2.2.2.Base.Revision a3 a4 m n,om m U Z,om n V a0,au a2 S]∧aB aq (dT T [xS e W y.2.2.2.2.2.Base.Revision a3 a4 m n,om m U Z,om n V a0,au a2 S]) w' W y.2.2.2.2.2.Rules∧aB ac (dT T [xS e W y.2.2.2.2.2.Base.Revision a3 a4 m n,om m U Z,om n V a0,au a2 S]) w' a3 y.2.2.2.2.2.Base.Inputs∧aB aa (dT T [xS e W y.2.2.2.2.2.Base.Revision a3 a4 m n,om m U Z,om n V a0,au a2 S]) w' a4 y.2.2.2.2.2.Base.Records∧bw ad true aR.str false (dT T [xS e W y.2.2.2.2.2.Base.Revision a3 a4 m n,om m U Z,om n V a0,au a2 S]) w' U y.2.2.2.2.2.Memo∧bw ad true (aR.slice ad) false (dT T [xS e W y.2.2.2.2.2.Base.Revision a3 a4 m n,om m U Z,om n V a0,au a2 S]) w' V y.2.2.2.2.2.Seen):=by
 refine kk (c:=_) Tryz.func111 rfl T 271 Tryz.ntmps111 hT rfl hD fun a hS=>?_
 replace hS:=hS.fact bu hLv
 replace hS:=hS.fS nm
 replace hS:=hS.fS no
 replace hS:=hS.fS hs
 replace hS:=hS.fS np
 replace hS:=hS.fS p7
 replace hS:=hS.fS pe
 replace hS:=hS.fS pf
 replace hS:=hS.fM p5
 replace hS:=hS.fM p6
 unfold mg at hM
 refine ai hS fun a hS=>?_
 refine kb hS fun P s0 a w hk hS=>?_
 refine ka hS jP fun L s1 a w hk hS=>?_
 refine ai hS fun a hS=>?_
 obtain ⟨g,hc,hM⟩:=bd hM
 refine kc hS uC (dQ _ _ hS.dlt cv _ _ (hS.get 8 rfl) (hS.get 7 rfl) _ hc) fun _ w hR a hk hA=>?_
 obtain ⟨t,X,B,Y,he,fl,fn,d0⟩:=hR
 obtain rfl:=he.symm
 have hS:=sZ hA fl fn d0
 refine ai hS fun a hS=>?_
 obtain ⟨D,ht,hM⟩:=bd hM
 obtain ⟨b,f,hM⟩:=bd hM
 replace hS:=hS.re [] [0,1,2,3,4,5,6]
 refine wl rfl (cF hS D8 rfl rfl (vF _ _ hS.dltD hS.dok _ _ (hS.getD 8 rfl) D ht b f) fun u w hR a hk hA=>?_)
 obtain ⟨q4,z,Q,C,O,hV,fr,fs,hW⟩:=hR
 have hS:=hA _ hW
 replace hS:=hS.fR (hV.keep (Kt.refl _ _) (ap _))
 replace hS:=hS.fR (fr.keep (Kt.refl _ _) (ap _))
 replace hS:=hS.fR (fs.keep (Kt.refl _ _) (ap _))
 refine go hS fun a w hS=>?_
 refine qy hS (CC (R:=an) hS vn rfl 0 rfl 2 rfl) fun a hS=>?_
 refine ai hS fun a hS=>?_
 refine wl rfl (BE (R:=an) hS vn qM rfl rfl 0 rfl 2 rfl f rfl fun ak av sn o s2 a hS=>?_)
 refine ai hS fun a hS=>?_
 refine qy hS (CC (R:=an) hS vn rfl 0 rfl 2 rfl) fun a hS=>?_
 refine ai hS fun a hS=>?_
 obtain ⟨ao,hb,hM⟩:=bd hM
 obtain ⟨a1,ea,hX⟩:=C1 (R:=an) hS vn qM 0 rfl 2 rfl hb
 refine wl rfl (ky (v:=a1) hS (hX (k1:=.i64) rfl (.inr ⟨rfl,rfl⟩) (.inl ⟨_,rfl,rfl⟩)) rfl rfl fun a hS=>?_)
 refine ai hS fun a hS=>?_
 refine aI (J:=fun a w=>∃ (a9:Bool) (bq:Int) (bs:ByteArray) (bt:ByteArray) (c0:LK) (c1:Int) (c2:Int) (c3:Int) (b3:Bool) (ay:Nat) (d4:LV) (b4:Value) (b0:LV),St W0 (MD [xS e H d.Base.Revision I K m n,om m q A,om n s p]) T 271 [(0,pt e 0),(2,u),(3,a5),(5,pt P 0),(8,pt L 0),(13,pt ak av),(14,a1),(15,pt ay 0),(16,.bool a9)] [c8 u d4,au z Q,.own C 9 aR.str.size O,om m q A,om n s p,xS e H d.Base.Revision I K m n,aP t X,aE B Y,.box P (aO g t B) 31,.box L [.int .i64 0,.slice none 0 0,.slice none 0 0] 31,au b4 b0,.box ay [.int .i64 bq,.string bs,.string bt,b4,.int .i64 c1,.int .i64 c2,.int .i64 c3,.bool b3] 77] [am ad Q b.Reads,am aR.str O b.Answers,am (HR an) d4 (eI D (IntKind.i64.wrap ((D.length:Int) - 1)) (kj b z C)),aJ an a5 G,aJ aq H d.Rules,aJ ac I d.Base.Inputs,aJ aa K d.Base.Records,lL q d.Memo,oK s d.Seen,am ac X g.Inputs,am aa Y g.Records,am ad b0 c0,bu] a w∧k9 vrec d G g D b ao a9 bq bs bt c0 c1 c2 c3 b3=some y) ?_ ?_
 ·skip
  obtain ⟨N171,h8⟩:∃ N,N=w.heap.size:=⟨_,rfl⟩
  replace hS:=hS.fact (Ak N171) (Nat.le_of_eq h8)
  refine dr [(11,.new N171)] hS fun w hQ hS=>?_
  refine gE [0,1,2,3,4] hS fun a hS=>?_
  have hY:=dv (R:=an) hS 3 rfl o f
  refine dy (l:=[]) 5 (v:=.agg (aS b.Key).toArray) rfl (by kernel_rfl) (by kernel_rfl) (by kernel_rfl) (by kernel_rfl) hQ hS (cg (k:=0) hS fY 0 rfl o hY rfl bE (us:=(aS b.Key)) rfl rfl (fun h=>by cases h)) rfl rfl rfl fun a hS=>?_
  have hL:=hS
  replace hL:=hL.freeze (R:=aa) 4 rfl 4 rfl
  obtain ⟨t1,el,hM⟩:=bd hM
  refine dU (i:=6) (j:=10) rfl rfl (by kernel_rfl) rfl rfl ?_ ?_
  ·skip
   skip
   have hL:=hS
   replace hL:=hL.freeze (R:=aa) 4 rfl 4 rfl
   refine id (a7 hS kr rfl rfl (bF _ _ hL.dlt g.Records b.Key _ (hL.get 0 rfl) _ el) fun _ w hR a hk hA=>⟨fx (hk),?_⟩)
   obtain ⟨oi,hG,he,⟨eT,er,g0⟩⟩:=hR
   obtain rfl:=he.symm
   have hS:=hA [au oi hG] (gS ⟨eT,by decide⟩ er) (s4 _)
   replace hS:=hS.fR g0
   refine gE [7,8,9] hS fun a hS=>?_
   have i0:=(hS.get 1 rfl:N171≤w.heap.size)
   refine e1 10 (cE hS fJ rfl fun hz i2 a w hk hS=>⟨fx (hk),?_⟩)
   refine cN 11 (.blk (some hz)) _ (by kernel_rfl) (my (Nat.le_trans i0 i2)) ?_
   refine es 11 hS fun w hS=>?_
   refine gE [12] hS fun a hS=>?_
   refine eD ?_
   exact ⟨_,_,_,_,_,_,_,_,_,_,_,_,_,hS.mt [2,3,4,10,11,9,5,6,8,7,1,0] [3,2,4,12,11,10,9,8,7,6,5,0,16],hM⟩
  skip
  have i3:=(hS.get 0 rfl:N171≤w.heap.size)
  refine id (cE hS fJ rfl fun hB i4 a w hk hS=>⟨fx (hk),?_⟩)
  refine cN 11 (.blk (some hB)) _ (by kernel_rfl) (my (Nat.le_trans i3 i4)) ?_
  have hL:=hS
  replace hL:=hL.freeze (R:=aa) 5 rfl 4 rfl
  refine ec 6 hS kr (bF _ _ hL.dlt g.Records b.Key _ (hL.get 0 rfl) _ el) fun _ w hR a hk hA=>?_
  obtain ⟨oj,hH,he,⟨eX,et,g1⟩⟩:=hR
  obtain rfl:=he.symm
  have hS:=hA [au oj hH] (gS ⟨eX,by decide⟩ et) (s4 _)
  replace hS:=hS.fR g1
  refine gE [7,8,9] hS fun a hS=>?_
  refine es 11 hS fun w hS=>?_
  refine gE [12] hS fun a hS=>?_
  refine eD ?_
  exact ⟨_,_,_,_,_,_,_,_,_,_,_,_,_,hS.mt [2,3,4,10,11,9,5,6,8,7,0,1] [3,2,4,12,11,10,9,8,7,6,5,0,16],hM⟩
 rintro a w ⟨a9,bq,bs,bt,c0,c1,c2,c3,b3,ay,d4,b4,b0,hS,hM⟩
 unfold k9 at hM
 refine aw ?_
 refine ai hS fun a hS=>?_
 have i5:=dv (R:=an) hS 2 rfl o f
 refine qy hS (cg (k:=2) hS Ge 0 rfl o i5 rfl id (us:=[.bool b.Running]) rfl rfl (fun _=>rfl)) fun a hS=>?_
 refine ai hS fun a hS=>?_
 rcases cd hM with ⟨i9,hM⟩ | ⟨i9,hM⟩
 ·refine ai hS fun a hS=>?_
  refine aI (J:=fun a w=>∃ (c4:Bool) (ax:ByteArray) (E:Int) (F:ByteArray) (az:Nat) (d6:LV),St W0 (MD [xS e H d.Base.Revision I K m n,om m q A,om n s p]) T 271 [(0,pt e 0),(2,u),(3,a5),(5,pt P 0),(8,pt L 0),(13,pt ak av),(14,a1),(16,.bool a9),(17,pt az 0)] [c8 u d6,au z Q,.own C 9 aR.str.size O,om m q A,om n s p,xS e H d.Base.Revision I K m n,aP t X,aE B Y,.box P (aO g t B) 31,.box L [.int .i64 0,.slice none 0 0,.slice none 0 0] 31,.box az [.bool c4,.string ax,.int .i64 E,.string F] 173] [am ad Q b.Reads,am aR.str O b.Answers,am (HR an) d6 (eI D (IntKind.i64.wrap ((D.length:Int) - 1)) (kj b z C)),aJ an a5 G,aJ aq H d.Rules,aJ ac I d.Base.Inputs,aJ aa K d.Base.Records,lL q d.Memo,oK s d.Seen,am ac X g.Inputs,am aa Y g.Records,bu] a w∧k7 vrec d G g D b ao a9 c4 ax E F=some y) ?_ ?_
  ·skip
   obtain ⟨N187,h9⟩:∃ N,N=w.heap.size:=⟨_,rfl⟩
   replace hS:=hS.fact (Ak N187) (Nat.le_of_eq h9)
   refine dr [(14,.new N187)] hS fun w hQ hS=>?_
   refine gE [0,1,2,3,4,5,6] hS fun a hS=>?_
   have ib:=dv (R:=an) hS 3 rfl o f
   refine dy (l:=[]) 7 (v:=.agg (aS b.Key).toArray) rfl (by kernel_rfl) (by kernel_rfl) (by kernel_rfl) (by kernel_rfl) hQ hS (cg (k:=0) hS fY 0 rfl o ib rfl bE (us:=(aS b.Key)) rfl rfl (fun h=>by cases h)) rfl rfl rfl fun a hS=>?_
   refine gE [8,9,10] hS fun a hS=>?_
   have ih:=dv (R:=an) hS 3 rfl o f
   refine dy (l:=[]) 11 (v:=C) rfl (by kernel_rfl) (by kernel_rfl) (by kernel_rfl) (by kernel_rfl) hQ hS (cg (k:=5) hS zq 0 rfl o ih rfl bE (us:=[C]) rfl rfl (fun _=>rfl)) rfl rfl rfl fun a hS=>?_
   have hL:=hS
   replace hL:=hL.freeze (R:=aR.str) 2 rfl 2 rfl
   obtain ⟨t0,ed,hM⟩:=bd hM
   refine dU (i:=12) (j:=13) rfl rfl (by kernel_rfl) rfl rfl ?_ ?_
   ·skip
    skip
    have hL:=hS
    replace hL:=hL.freeze (R:=aR.str) 2 rfl 2 rfl
    refine id (a7 hS sg rfl rfl (fq _ _ hL.dlt (hL.get 14 rfl) d.Rules b.Key b.Answers _ _ (hL.get 6 rfl) (hL.get 0 rfl) _ ed) fun _ w hR a hk hA=>⟨fx (hk),?_⟩)
    obtain rfl:=hR
    have hS:=bM hA
    have ii:=(hS.get 0 rfl:N187≤w.heap.size)
    refine e1 13 (cE hS mw rfl fun hC it a w hk hS=>⟨fx (hk),?_⟩)
    refine cN 14 (.blk (some hC)) _ (by kernel_rfl) (my (Nat.le_trans ii it)) ?_
    refine es 14 hS fun w hS=>?_
    refine eD ?_
    exact ⟨_,_,_,_,_,_,hS.mt [1,2,3,4,5,6,7,8,9,10,0] [1,2,3,4,5,6,7,8,9,10,11,13],hM⟩
   skip
   have jb:=(hS.get 0 rfl:N187≤w.heap.size)
   refine id (cE hS mw rfl fun hE jc a w hk hS=>⟨fx (hk),?_⟩)
   refine cN 14 (.blk (some hE)) _ (by kernel_rfl) (my (Nat.le_trans jb jc)) ?_
   have hL:=hS
   replace hL:=hL.freeze (R:=aR.str) 3 rfl 2 rfl
   refine ec 12 hS sg (fq _ _ hL.dlt (hL.get 14 rfl) d.Rules b.Key b.Answers _ _ (hL.get 6 rfl) (hL.get 0 rfl) _ ed) fun _ w hR a hk hA=>?_
   obtain rfl:=hR
   have hS:=bM hA
   refine es 14 hS fun w hS=>?_
   refine eD ?_
   exact ⟨_,_,_,_,_,_,hS.mt [1,2,3,4,5,6,7,8,9,10,0] [1,2,3,4,5,6,7,8,9,10,11,13],hM⟩
  rintro a w ⟨c4,ax,E,F,az,d6,hS,hM⟩
  unfold k7 at hM
  refine aw ?_
  refine ai hS fun a hS=>?_
  rcases cd hM with ⟨js,hM⟩ | ⟨js,hM⟩
  ·refine ai hS fun a hS=>?_
   refine aw ?_
   refine aI (J:=fun a w=>∃ (e4:Bool) (dc:LV),St W0 (MD [xS e H d.Base.Revision I K m n,om m q A,om n s p]) T 271 [(2,u),(5,pt P 0),(8,pt L 0),(13,pt ak av),(14,a1),(17,pt az 0),(73,.bool e4)] [c8 u dc,au z Q,.own C 9 aR.str.size O,aP t X,aE B Y,.box P (aO g t B) 31,.box L [.int .i64 0,.slice none 0 0,.slice none 0 0] 31,.box az [.bool c4,.string ax,.int .i64 E,.string F] 173,om m q A,om n s p,xS e H d.Base.Revision I K m n] [am ad Q b.Reads,am aR.str O b.Answers,am (HR an) dc (eI D (IntKind.i64.wrap ((D.length:Int) - 1)) (kj b z C)),am ac X g.Inputs,am aa Y g.Records,aJ aq H d.Rules,aJ ac I d.Base.Inputs,aJ aa K d.Base.Records,lL q d.Memo,oK s d.Seen,bu] a w∧gn d g D b ao ax e4=some y) ?_ ?_
   ·exact fz
   rintro a w ⟨e4,dc,hS,hM⟩
   unfold gn at hM
   rcases cd hM with ⟨k0,hM⟩ | ⟨k0,hM⟩
   ·refine go hS fun a w hS=>?_
    replace hS:=hS.freeze (R:=ad) 1 rfl 0 rfl
    replace hS:=hS.freeze (R:=aR.str) 1 rfl 2 rfl
    replace hS:=hS.closeHs (R:=an) 4 rfl f (⟨_,_,rfl,(hS.get 1 rfl),(hS.get 0 rfl)⟩)
    replace hS:=hS.freeze (R:=ac) 1 rfl 6 rfl
    replace hS:=hS.freeze (R:=aa) 1 rfl 8 rfl
    replace hS:=hS.freeze (R:=an) 0 rfl 2 rfl
    replace hS:=hS.nilRow ad 35 (by decide)
    cases hM
    refine aF hS Tryz.results111 (a8 hS rfl 2 rfl fG rfl (fun h=>by cases h) (ar hS rfl (ar hS rfl (ar hS rfl (ar hS rfl aH))))) ?_
    have hZ:=hS.sl [6,4,5,0] [3,2,1,0,12,13,14,15,16]
    exact ⟨t,B,u,(.slice none 0 0),[],H,I,K,q,A,s,p,rfl,(hZ.get 0 rfl),(hZ.get 1 rfl),(hZ.get 2 rfl),(hZ.get 3 rfl),hZ.dnew,(hZ.get 4 rfl),(hZ.get 5 rfl),(hZ.get 6 rfl),(hZ.get 7 rfl),(hZ.get 8 rfl)⟩
   refine ai hS fun a hS=>?_
   refine aw ?_
   refine dr [(16,.blk (some P))] hS fun w hQ hS=>?_
   refine gE [0,1,2,3,4,5] hS fun a hS=>?_
   have k2:=dv (R:=an) hS 2 rfl o f
   refine dy (l:=[]) 6 (v:=.agg (aS b.Key).toArray) rfl (by kernel_rfl) (by kernel_rfl) (by kernel_rfl) (by kernel_rfl) hQ hS (cg (k:=0) hS fY 0 rfl o k2 rfl bE (us:=(aS b.Key)) rfl rfl (fun h=>by cases h)) rfl rfl rfl fun a hS=>?_
   refine gE [7,8,9,10,11] hS fun a hS=>?_
   have k3:=dv (R:=an) hS 2 rfl o f
   refine dy (l:=[]) 12 (v:=z) rfl (by kernel_rfl) (by kernel_rfl) (by kernel_rfl) (by kernel_rfl) hQ hS (cg (k:=4) hS zp 0 rfl o k3 rfl bE (us:=[z]) rfl rfl (fun _=>rfl)) rfl rfl rfl fun a hS=>?_
   replace hS:=hS.freeze (R:=ac) 3 rfl 3 rfl
   replace hS:=hS.freeze (R:=aa) 3 rfl 5 rfl
   replace hS:=hS.freeze (R:=ad) 1 rfl 2 rfl
   obtain ⟨of,hf,hM⟩:=bd hM
   refine ec 13 hS Ec (sI _ _ hS.dlt g b.Key ax b.Reads _ _ _ (hS.get 2 rfl) (hS.get 1 rfl) (hS.get 0 rfl) _ hf) fun _ w hR a hk hA=>?_
   obtain ⟨t2,he,g2⟩:=hR
   obtain rfl:=he.symm
   have hS:=hA [] (fun r hr=>by cases hr) List.Pairwise.nil
   replace hS:=hS.fS (g2.sub (jk _))
   obtain ⟨h3,hd,hM⟩:=bd hM
   refine ec 14 hS Eb (tQ _ _ hS.dlt (hS.get 14 rfl) g.Records of _ _ (hS.get 2 rfl) (hS.get 0 rfl) _ hd) fun _ w hR a hk hA=>?_
   obtain ⟨c9,eq,he,g3⟩:=hR
   obtain rfl:=he.symm
   have hS:=pd hA g3
   refine gE [15] hS fun a hS=>?_
   refine es 16 hS fun w hS=>?_
   refine eD ?_
   refine ai hS fun a hS=>?_
   refine aI (J:=fun a w=>∃ (e3:LK) (di:LV) (ca:Value) (bb:LV),St W0 (MD [xS e H d.Base.Revision I K m n,om m q A,om n s p]) T 271 [(8,pt L 0),(9,a1),(10,ca),(11,.bool true),(12,.int .i64 0)] [c8 u di,.own C 9 aR.str.size O,au ca bb,aE c9 eq,.box L (aO g t c9) 31,om m q A,om n s p,xS e H d.Base.Revision I K m n] [aJ ad z b.Reads,am aR.str O b.Answers,am (HR an) di (eI D (IntKind.i64.wrap ((D.length:Int) - 1)) (kj b z C)),am ad bb e3,aJ ac t g.Inputs,am aa eq h3,aJ aq H d.Rules,aJ ac I d.Base.Inputs,aJ aa K d.Base.Records,lL q d.Memo,oK s d.Seen,bu] a w∧nP d g ao h3 e3=some y) ?_ ?_
   ·skip
    refine dr [(7,.blk (some L))] hS fun w hQ hS=>?_
    refine gE [0,1,2,3,4] hS fun a hS=>?_
    have k4:=dv (R:=an) hS 7 rfl o f
    refine dy (l:=[.blk (some L)]) 5 (v:=.agg (aS b.Key).toArray) rfl (by kernel_rfl) (by kernel_rfl) (by kernel_rfl) (by kernel_rfl) hQ hS (cg (k:=0) hS fY 1 rfl o k4 rfl (iv hS 1 rfl (sB o) 4 rfl rfl (by decide) bE) (us:=(aS b.Key)) rfl rfl (fun h=>by cases h)) rfl rfl rfl fun a hS=>?_
    refine dU (i:=6) (j:=7) rfl rfl (by kernel_rfl) rfl rfl ?_ ?_
    ·skip
     skip
     refine id (aZ (ps:=[(0,.tmp 97)]) hS iq gM (zl:=[.int .i64 0,.string (ByteArray.mk #[])]) (by kernel_rfl) rfl (us:=[(aS b.Key)]) ⟨rfl,trivial⟩ (ws:=(aS b.Key)) rfl rfl rfl rfl fun hF a w hk hS=>⟨fx (hk),?_⟩)
     refine es 7 hS fun w hS=>?_
     refine gE [8,9,10,11] hS fun a hS=>?_
     refine eD ?_
     replace hS:=hS.lit (R:=ad) (us:=(aS b.Key)) (xs:=[b.Key]) 0 rfl (by decide) (aD.one_ (R:=ad) (x:=b.Key) rfl) rfl rfl
     exact ⟨_,_,_,_,hS.mt [2,3,0,1,5,7,8,9] [3,7,8,0,5,1,11,12,13,14,15,16],hM⟩
    skip
    refine id (pL hS rfl rfl (us:=(aO g t c9)) rfl fG 4 rfl rfl rfl (oc rfl (oc (aB.one ((hS.get 4 rfl):aB ac _ _ _ _)) (oc (gN (hS.own _ (List.mem_of_getElem? (i:=0) rfl)).1) on))) fun w hk hS=>⟨kp rfl hk iE,?_⟩)
    refine gE [8] hS fun a hS=>?_
    refine e1 6 (aZ (ps:=[(0,.tmp 97)]) hS iq gM (zl:=[.int .i64 0,.string (ByteArray.mk #[])]) (by kernel_rfl) rfl (us:=[(aS b.Key)]) ⟨rfl,trivial⟩ (ws:=(aS b.Key)) rfl rfl rfl rfl fun hF a w hk hS=>⟨fx (hk),?_⟩)
    refine gE [9,10,11] hS fun a hS=>?_
    refine eD ?_
    replace hS:=hS.lit (R:=ad) (us:=(aS b.Key)) (xs:=[b.Key]) 0 rfl (by decide) (aD.one_ (R:=ad) (x:=b.Key) rfl) rfl rfl
    exact ⟨_,_,_,_,hS.mt [2,3,0,1,5,7,8,9] [3,7,8,0,5,1,11,12,13,14,15,16],hM⟩
   rintro a w ⟨e3,di,ca,bb,hS,hM⟩
   unfold nP at hM
   refine ai hS fun a hS=>?_
   replace hS:=hS.freeze (R:=aR.str) 1 rfl 1 rfl
   replace hS:=hS.closeHs (R:=an) 3 rfl f (⟨_,_,rfl,(hS.get 1 rfl),(hS.get 0 rfl)⟩)
   replace hS:=hS.freeze (R:=aa) 2 rfl 7 rfl
   replace hS:=hS.freeze (R:=an) 0 rfl 1 rfl
   replace hS:=hS.fS (ea _ _ (hS.get 0 rfl))
   cases hM
   refine aF hS Tryz.results111 (a8 hS rfl 1 rfl fG rfl (fun h=>by cases h) (ar hS rfl (ar hS rfl (ar hS rfl (ar hS rfl aH))))) ?_
   have hZ:=hS.sl [4,2,3,0] [9,2,0,8,11,12,13,14,15]
   exact ⟨t,c9,a1,ca,bb,H,I,K,q,A,s,p,rfl,(hZ.get 0 rfl),(hZ.get 1 rfl),(hZ.get 2 rfl),(hZ.get 3 rfl),hZ.dnew,(hZ.get 4 rfl),(hZ.get 5 rfl),(hZ.get 6 rfl),(hZ.get 7 rfl),(hZ.get 8 rfl)⟩
  refine ai hS fun a hS=>?_
  refine aw ?_
  refine ai hS fun a hS=>?_
  have hL:=hS
  replace hL:=hL.freeze (R:=ac) 6 rfl 9 rfl
  replace hL:=hL.freeze (R:=aa) 6 rfl 11 rfl
  replace hL:=hL.freeze (R:=ad) 1 rfl 2 rfl
  replace hL:=hL.freeze (R:=aR.str) 1 rfl 4 rfl
  replace hL:=hL.closeHs (R:=an) 6 rfl f (⟨_,_,rfl,(hL.get 1 rfl),(hL.get 0 rfl)⟩)
  replace hL:=hL.freeze (R:=an) 0 rfl 0 rfl
  obtain ⟨sq,hg,hM⟩:=bd hM
  refine kc hS Ed (sL _ _ hL.dlt g D G (ae.mk E F) _ _ _ _ (hL.get 5 rfl) (hL.get 4 rfl) (hL.get 0 rfl) (hL.get 9 rfl) _ hg) fun _ w hR a hk hA=>?_
  obtain rfl:=hR
  have hS:=bM hA
  refine ai hS fun a hS=>?_
  rcases cd hM with ⟨ks,hM⟩ | ⟨ks,hM⟩
  ·refine ai hS fun a hS=>?_
   refine aw ?_
   refine dr [(6,.blk (Value.ownBlock u)),(7,.blk (some L))] hS fun w hQ hS=>?_
   refine dy (l:=[.blk (Value.ownBlock u)]) 0 (v:=.agg (aO g t B).toArray) rfl (by kernel_rfl) (by kernel_rfl) (by kernel_rfl) (by kernel_rfl) hQ hS (dV hS rfl fG 8 rfl (iv hS 8 rfl rfl 0 rfl rfl (by decide) bE) (us:=(aO g t B)) rfl rfl (fun h=>by cases h)) rfl rfl rfl fun a hS=>?_
   refine gE [1,2,3] hS fun a hS=>?_
   refine dy 4 (v:=.agg #[.int .i64 E,.string F,.bool false,.int .i64 0,.slice none 0 0,.slice none 0 0]) rfl (by kernel_rfl) (by kernel_rfl) (by kernel_rfl) rfl hQ hS (br (ps:=[(0,.tmp 110)]) hS B3 pE rfl (us:=[[.int .i64 E,.string F]]) ⟨rfl,trivial⟩ (ws:=[.int .i64 E,.string F,.bool false,.int .i64 0,.slice none 0 0,.slice none 0 0]) rfl) rfl rfl rfl fun a hS=>?_
   refine e1 5 (aZ (ps:=[(0,.tmp 111)]) hS wU pE (zl:=[.int .i64 0,.string (ByteArray.mk #[]),.bool false,.int .i64 0,.slice none 0 0,.slice none 0 0]) (by kernel_rfl) rfl (us:=[[.int .i64 E,.string F,.bool false,.int .i64 0,.slice none 0 0,.slice none 0 0]]) ⟨rfl,trivial⟩ (ws:=[.int .i64 E,.string F,.bool false,.int .i64 0,.slice none 0 0,.slice none 0 0]) rfl rfl rfl rfl fun pk a w hk hS=>⟨fx (hk),?_⟩)
   replace hS:=hS.freeze (R:=ad) 2 rfl 0 rfl
   replace hS:=hS.freeze (R:=aR.str) 2 rfl 2 rfl
   replace hS:=hS.closeHs (R:=an) 4 rfl f (⟨_,_,rfl,(hS.get 1 rfl),(hS.get 0 rfl)⟩)
   replace hS:=hS.lit (R:=an) (us:=[.int .i64 E,.string F,.bool false,.int .i64 0,.slice none 0 0,.slice none 0 0]) (xs:=[(bc.mk (ae.mk E F) false 0 ([]) ([]))]) 0 rfl (by decide) (aD.one_ (R:=an) (x:=(bc.mk (ae.mk E F) false 0 ([]) ([]))) (⟨_,_,rfl,aB.nil_ _ _ _,aB.nil_ _ _ _⟩)) rfl rfl
   replace hS:=hS.freeze (R:=an) 0 rfl 0 rfl
   obtain ⟨kt,hM⟩:=ba hM
   refine e1 6 (bC (R:=an) (xs:=D) (ys:=[(bc.mk (ae.mk E F) false 0 ([]) ([]))]) hS wU (by decide) (by decide) rfl rfl 0 rfl 2 rfl 0 rfl kt rfl fun ok q5 a w hk hS=>⟨kp rfl hk lw,?_⟩)
   refine es 7 hS fun w hS=>?_
   refine gE [8,9,10,11] hS fun a hS=>?_
   refine eD ?_
   refine ai hS fun a hS=>?_
   replace hS:=hS.freeze (R:=ac) 4 rfl 15 rfl
   replace hS:=hS.freeze (R:=aa) 4 rfl 17 rfl
   replace hS:=hS.freeze (R:=an) 0 rfl 2 rfl
   replace hS:=hS.nilRow ad 35 (by decide)
   cases hM
   refine aF hS Tryz.results111 (a8 hS rfl 5 rfl fG rfl (fun h=>by cases h) (ar hS rfl (ar hS rfl (ar hS rfl (ar hS rfl aH))))) ?_
   have hZ:=hS.sl [3,1,2,0] [3,2,1,0,14,15,16,17,18]
   exact ⟨t,B,ok,(.slice none 0 0),[],H,I,K,q,A,s,p,rfl,(hZ.get 0 rfl),(hZ.get 1 rfl),(hZ.get 2 rfl),(hZ.get 3 rfl),hZ.dnew,(hZ.get 4 rfl),(hZ.get 5 rfl),(hZ.get 6 rfl),(hZ.get 7 rfl),(hZ.get 8 rfl)⟩
  refine ai hS fun a hS=>?_
  rcases cd hM with ⟨kv,hM⟩ | ⟨kv,hM⟩
  ·refine go hS fun a w hS=>?_
   replace hS:=hS.freeze (R:=ad) 1 rfl 0 rfl
   replace hS:=hS.freeze (R:=aR.str) 1 rfl 2 rfl
   replace hS:=hS.closeHs (R:=an) 4 rfl f (⟨_,_,rfl,(hS.get 1 rfl),(hS.get 0 rfl)⟩)
   replace hS:=hS.freeze (R:=ac) 4 rfl 12 rfl
   replace hS:=hS.freeze (R:=aa) 4 rfl 14 rfl
   replace hS:=hS.freeze (R:=an) 0 rfl 2 rfl
   replace hS:=hS.nilRow ad 35 (by decide)
   cases hM
   refine aF hS Tryz.results111 (a8 hS rfl 5 rfl fG rfl (fun h=>by cases h) (ar hS rfl (ar hS rfl (ar hS rfl (ar hS rfl aH))))) ?_
   have hZ:=hS.sl [3,1,2,0] [3,2,1,0,11,12,13,14,15]
   exact ⟨t,B,u,(.slice none 0 0),[],H,I,K,q,A,s,p,rfl,(hZ.get 0 rfl),(hZ.get 1 rfl),(hZ.get 2 rfl),(hZ.get 3 rfl),hZ.dnew,(hZ.get 4 rfl),(hZ.get 5 rfl),(hZ.get 6 rfl),(hZ.get 7 rfl),(hZ.get 8 rfl)⟩
  refine ai hS fun a hS=>?_
  rcases cd hM with ⟨kx,hM⟩ | ⟨kx,hM⟩
  ·refine go hS fun a w hS=>?_
   replace hS:=hS.freeze (R:=ad) 1 rfl 0 rfl
   replace hS:=hS.freeze (R:=aR.str) 1 rfl 2 rfl
   replace hS:=hS.closeHs (R:=an) 4 rfl f (⟨_,_,rfl,(hS.get 1 rfl),(hS.get 0 rfl)⟩)
   replace hS:=hS.freeze (R:=ac) 4 rfl 12 rfl
   replace hS:=hS.freeze (R:=aa) 4 rfl 14 rfl
   replace hS:=hS.freeze (R:=an) 0 rfl 2 rfl
   replace hS:=hS.nilRow ad 35 (by decide)
   cases hM
   refine aF hS Tryz.results111 (a8 hS rfl 5 rfl fG rfl (fun h=>by cases h) (ar hS rfl (ar hS rfl (ar hS rfl (ar hS rfl aH))))) ?_
   have hZ:=hS.sl [3,1,2,0] [3,2,1,0,11,12,13,14,15]
   exact ⟨t,B,u,(.slice none 0 0),[],H,I,K,q,A,s,p,rfl,(hZ.get 0 rfl),(hZ.get 1 rfl),(hZ.get 2 rfl),(hZ.get 3 rfl),hZ.dnew,(hZ.get 4 rfl),(hZ.get 5 rfl),(hZ.get 6 rfl),(hZ.get 7 rfl),(hZ.get 8 rfl)⟩
  refine ai hS fun a hS=>?_
  refine aw ?_
  refine dr [(9,.blk (Value.ownBlock z)),(18,.bks [some e,some m,some n]),(20,.blk (Value.ownBlock C)),(23,.blk (Value.ownBlock u)),(26,.blk (Value.ownBlock u))] hS fun w hQ hS=>?_
  refine gE [0,1,2,3,4] hS fun a hS=>?_
  have l0:=dv (R:=an) hS 2 rfl o f
  refine dy (l:=[]) 5 (v:=z) rfl (by kernel_rfl) (by kernel_rfl) (by kernel_rfl) (by kernel_rfl) hQ hS (cg (k:=4) hS zp 0 rfl o l0 rfl bE (us:=[z]) rfl rfl (fun _=>rfl)) rfl rfl rfl fun a hS=>?_
  refine gE [6,7,10,11,12] hS fun a hS=>?_
  have l1:=dv (R:=an) hS 2 rfl o f
  refine dy (l:=[.blk (Value.ownBlock z),.bks [some e,some m,some n]]) 13 (v:=C) rfl (by kernel_rfl) (by kernel_rfl) (by kernel_rfl) (by kernel_rfl) hQ hS (cg (k:=5) hS zq 0 rfl o l1 rfl (iv hS 0 rfl (sB o) 1 rfl rfl (by decide) (uN hS 0 rfl (sB o) [5,3,4] rfl rfl bE)) (us:=[C]) rfl rfl (fun _=>rfl)) rfl rfl rfl fun a hS=>?_
  refine gE [14] hS fun a hS=>?_
  refine dy (l:=[.blk (Value.ownBlock z)]) 15 (v:=.agg (aO g t B).toArray) rfl (by kernel_rfl) (by kernel_rfl) (by kernel_rfl) (by kernel_rfl) hQ hS (dV hS rfl fG 8 rfl (iv hS 8 rfl rfl 1 rfl rfl (by decide) bE) (us:=(aO g t B)) rfl rfl (fun h=>by cases h)) rfl rfl rfl fun a hS=>?_
  refine gE [16] hS fun a hS=>?_
  refine dy (l:=[.blk (Value.ownBlock z)]) 17 (v:=.agg #[.int .i64 E,.string F]) rfl (by kernel_rfl) (by kernel_rfl) (by kernel_rfl) (by kernel_rfl) hQ hS (dV hS rfl fY 10 rfl (iv hS 10 rfl rfl 1 rfl rfl (by decide) bE) (us:=[.int .i64 E,.string F]) rfl rfl (fun h=>by cases h)) rfl rfl rfl fun a hS=>?_
  refine e1 8 (aZ (ps:=[(0,.tmp 129)]) hS iq gM (zl:=[.int .i64 0,.string (ByteArray.mk #[])]) (by kernel_rfl) rfl (us:=[[.int .i64 E,.string F]]) ⟨rfl,trivial⟩ (ws:=[.int .i64 E,.string F]) rfl rfl rfl rfl fun pl a w hk hS=>⟨fx (hk),?_⟩)
  replace hS:=hS.lit (R:=ad) (us:=[.int .i64 E,.string F]) (xs:=[(ae.mk E F)]) 0 rfl (by decide) (aD.one_ (R:=ad) (x:=(ae.mk E F)) rfl) rfl rfl
  replace hS:=hS.freeze (R:=ad) 0 rfl 0 rfl
  obtain ⟨l2,hM⟩:=ba hM
  refine e1 9 (bC (R:=ad) (xs:=b.Reads) (ys:=[(ae.mk E F)]) hS iq (by decide) (by decide) rfl rfl 1 rfl 2 rfl 0 rfl l2 rfl fun h7 q6 a w hk hS=>⟨kp rfl hk lw,?_⟩)
  replace hS:=hS.freeze (R:=ac) 6 rfl 12 rfl
  replace hS:=hS.freeze (R:=aa) 6 rfl 14 rfl
  obtain ⟨ab,hh,hM⟩:=bd hM
  replace hS:=hS.re [5,3,4] [0,1,2,6,7,8]
  refine e1 18 (cF hS Ee rfl rfl (qG _ _ hS.dltD vrec hvrec d g (ae.mk E F) _ _ _ _ _ _ _ _ _ _ _ _ hS.dok (hS.getD 9 rfl) (hS.getD 10 rfl) (hS.getD 11 rfl) (hS.getD 12 rfl) (hS.getD 13 rfl) (hS.getD 1 rfl) (hS.getD 0 rfl) (hS.getD 16 rfl) _ hh) fun _ w hR a hk hA=>⟨kp rfl hk (xW rfl rfl),?_⟩)
  obtain ⟨op,os,oP,hO,hI,hP,hK,he,la,g4,g5,g6,f4,f5⟩:=hR
  obtain rfl:=he.symm
  have hS:=hA _ la
  replace hS:=hS.fS (g4.sub (ap _))
  replace hS:=hS.fS (g5.sub (ap _))
  replace hS:=hS.fS (g6.sub (ap _))
  replace hS:=hS.fM (f4.keep (Kt.refl _ _) (ap _))
  replace hS:=hS.fM (f5.keep (Kt.refl _ _) (ap _))
  refine e1 19 (aZ (ps:=[(0,.tmp 140)]) hS uM HP (zl:=[.string (ByteArray.mk #[])]) (by kernel_rfl) rfl (us:=[[.string ab.1]]) ⟨rfl,trivial⟩ (ws:=[.string ab.1]) rfl rfl rfl rfl fun pw a w hk hS=>⟨fx (hk),?_⟩)
  replace hS:=hS.lit (R:=aR.str) (us:=[.string ab.1]) (xs:=[ab.1]) 0 rfl (by decide) (aD.one_ (R:=aR.str) (x:=ab.1) rfl) rfl rfl
  replace hS:=hS.freeze (R:=aR.str) 0 rfl 0 rfl
  obtain ⟨lb,hM⟩:=ba hM
  refine e1 20 (bC (R:=aR.str) (xs:=b.Answers) (ys:=[ab.1]) hS uM (by decide) (by decide) rfl rfl 5 rfl 13 rfl 0 rfl lb rfl fun p0 q7 a w hk hS=>⟨kp rfl hk lw,?_⟩)
  refine gE [21,22] hS fun a hS=>?_
  refine e1 23 (mE (R:=an) (k:=4) (cs:=(kj b z C)) (us:=[h7]) hS rfl rfl (lO (gN (hS.own _ (List.mem_of_getElem? (i:=4) rfl)).1)) zp 3 rfl 15 rfl o f rfl rfl (oc (gN (hS.own _ (List.mem_of_getElem? (i:=4) rfl)).1) on) fun r0 w hk hS=>⟨kp rfl hk lw,?_⟩)
  refine gE [24,25] hS fun a hS=>?_
  refine e1 26 (mE (R:=an) (k:=5) (cs:=(kj b h7 C)) (us:=[p0]) hS rfl rfl (lO (gN (hS.own _ (List.mem_of_getElem? (i:=5) rfl)).1)) zq 3 rfl 0 rfl o f rfl rfl (oc (gN (hS.own _ (List.mem_of_getElem? (i:=5) rfl)).1) on) fun r1 w hk hS=>⟨kp rfl hk lw,?_⟩)
  refine eD ?_
  refine go hS fun a w hS=>?_
  replace hS:=hS.freeze (R:=ad) 4 rfl 12 rfl
  replace hS:=hS.freeze (R:=aR.str) 4 rfl 3 rfl
  replace hS:=hS.closeH (R:=an) (x':=(bc.mk b.Key b.Running b.At (b.Reads ++ ([(ae.mk E F)])) (b.Answers ++ ([ab.1])))) 2 rfl (⟨_,_,rfl,(hS.get 1 rfl),(hS.get 0 rfl)⟩)
  replace hS:=hS.freeze (R:=an) 3 rfl 0 rfl
  replace hS:=hS.nilRow ad 35 (by decide)
  cases hM
  refine aF hS Tryz.results111 (a8 hS rfl 5 rfl fG rfl (fun h=>by cases h) (ar hS rfl (ar hS rfl (ar hS rfl (ar hS rfl aH))))) ?_
  have hZ:=hS.sl [1,2,3,0] [16,15,1,0,14,13,12,11,10]
  exact ⟨t,B,u,(.slice none 0 0),[],op,os,oP,hO,hI,hP,hK,rfl,(hZ.get 0 rfl),(hZ.get 1 rfl),(hZ.get 2 rfl),(hZ.get 3 rfl),hZ.dnew,(hZ.get 4 rfl),(hZ.get 5 rfl),(hZ.get 6 rfl),(hZ.get 7 rfl),(hZ.get 8 rfl)⟩
 refine ai hS fun a hS=>?_
 refine aw ?_
 refine dr [] hS fun w hQ hS=>?_
 refine gE [0,1,2,3,4,5,6] hS fun a hS=>?_
 have le:=dv (R:=an) hS 2 rfl o f
 refine dy (l:=[]) 7 (v:=.agg (aS b.Key).toArray) rfl (by kernel_rfl) (by kernel_rfl) (by kernel_rfl) (by kernel_rfl) hQ hS (cg (k:=0) hS fY 0 rfl o le rfl bE (us:=(aS b.Key)) rfl rfl (fun h=>by cases h)) rfl rfl rfl fun a hS=>?_
 have hL:=hS
 replace hL:=hL.freeze (R:=aa) 7 rfl 10 rfl
 obtain ⟨ag,hj,hM⟩:=bd hM
 refine ec 8 hS zG (pV _ _ hL.dlt (hL.get 13 rfl) g.Records g.Revision b.Key _ (hL.get 0 rfl) _ hj) fun _ w hR a hk hA=>?_
 obtain ⟨b6,b1,he,⟨f1,ex,g7⟩⟩:=hR
 obtain rfl:=he.symm
 have hS:=hA [au b6 b1] (gS ⟨f1,by decide⟩ ex) (s4 _)
 replace hS:=hS.fR g7
 refine gE [9] hS fun a hS=>?_
 refine eD ?_
 refine ai hS fun a hS=>?_
 have hL:=hS
 replace hL:=hL.freeze (R:=aa) 8 rfl 11 rfl
 replace hL:=hL.freeze (R:=ad) 0 rfl 1 rfl
 obtain ⟨c5,hl,hM⟩:=bd hM
 refine kc hS zF (mc _ _ hL.dlt g.Records ag _ _ (hL.get 1 rfl) (hL.get 0 rfl) _ hl) fun _ w hR a hk hA=>?_
 obtain ⟨b9,b2,he,⟨f2,ey,g8⟩⟩:=hR
 obtain rfl:=he.symm
 have hS:=hA [kT b9 b2] (gS ⟨f2,by decide⟩ ey) (s4 _)
 replace hS:=hS.fR g8
 refine ai hS fun a hS=>?_
 refine aw ?_
 refine ai hS fun a hS=>?_
 refine aI (J:=fun a w=>∃ (e8:Bool) (dl:LV),St W0 (MD [xS e H d.Base.Revision I K m n,om m q A,om n s p]) T 271 [(0,pt e 0),(2,u),(3,a5),(5,pt P 0),(8,pt L 0),(13,pt ak av),(14,a1),(15,pt ay 0),(16,.bool a9),(18,b6),(19,b9),(162,.bool e8)] [c8 u dl,au z Q,.own C 9 aR.str.size O,au b6 b1,kT b9 b2,om m q A,om n s p,xS e H d.Base.Revision I K m n,aP t X,aE B Y,.box P (aO g t B) 31,.box L [.int .i64 0,.slice none 0 0,.slice none 0 0] 31,au b4 b0,.box ay [.int .i64 bq,.string bs,.string bt,b4,.int .i64 c1,.int .i64 c2,.int .i64 c3,.bool b3] 77] [am ad Q b.Reads,am aR.str O b.Answers,am (HR an) dl (eI D (IntKind.i64.wrap ((D.length:Int) - 1)) (kj b z C)),aJ an a5 G,am ad b1 ag,am fb b2 c5,aJ aq H d.Rules,aJ ac I d.Base.Inputs,aJ aa K d.Base.Records,lL q d.Memo,oK s d.Seen,am ac X g.Inputs,am aa Y g.Records,am ad b0 c0,bu] a w∧gr vrec d G g D b ao a9 b3 ag c5 e8=some y) ?_ ?_
 ·exact fz
 rintro a w ⟨e8,dl,hS,hM⟩
 unfold gr at hM
 rcases cd hM with ⟨ll,hM⟩ | ⟨ll,hM⟩
 ·refine go hS fun a w hS=>?_
  replace hS:=hS.freeze (R:=ad) 1 rfl 0 rfl
  replace hS:=hS.freeze (R:=aR.str) 1 rfl 2 rfl
  replace hS:=hS.closeHs (R:=an) 4 rfl f (⟨_,_,rfl,(hS.get 1 rfl),(hS.get 0 rfl)⟩)
  replace hS:=hS.freeze (R:=ac) 6 rfl 14 rfl
  replace hS:=hS.freeze (R:=aa) 6 rfl 16 rfl
  replace hS:=hS.freeze (R:=an) 0 rfl 2 rfl
  replace hS:=hS.fS (ea _ _ (hS.get 0 rfl))
  replace hS:=hS.nilRow ad 35 (by decide)
  cases hM
  refine aF hS Tryz.results111 (a8 hS rfl 7 rfl fG rfl (fun h=>by cases h) (ar hS rfl (ar hS rfl (ar hS rfl (ar hS rfl aH))))) ?_
  have hZ:=hS.sl [5,3,4,0] [4,3,1,0,14,15,16,17,18]
  exact ⟨t,B,a1,(.slice none 0 0),[],H,I,K,q,A,s,p,rfl,(hZ.get 0 rfl),(hZ.get 1 rfl),(hZ.get 2 rfl),(hZ.get 3 rfl),hZ.dnew,(hZ.get 4 rfl),(hZ.get 5 rfl),(hZ.get 6 rfl),(hZ.get 7 rfl),(hZ.get 8 rfl)⟩
 refine ai hS fun a hS=>?_
 refine aI (J:=fun a w=>∃ (e5:Bool) (dn:LV),St W0 (MD [xS e H d.Base.Revision I K m n,om m q A,om n s p]) T 271 [(0,pt e 0),(2,u),(3,a5),(5,pt P 0),(8,pt L 0),(13,pt ak av),(14,a1),(18,b6),(19,b9),(173,.bool e5)] [c8 u dn,au z Q,.own C 9 aR.str.size O,au b6 b1,kT b9 b2,om m q A,om n s p,xS e H d.Base.Revision I K m n,aP t X,aE B Y,.box P (aO g t B) 31,.box L [.int .i64 0,.slice none 0 0,.slice none 0 0] 31] [am ad Q b.Reads,am aR.str O b.Answers,am (HR an) dn (eI D (IntKind.i64.wrap ((D.length:Int) - 1)) (kj b z C)),aJ an a5 G,am ad b1 ag,am fb b2 c5,aJ aq H d.Rules,aJ ac I d.Base.Inputs,aJ aa K d.Base.Records,lL q d.Memo,oK s d.Seen,am ac X g.Inputs,am aa Y g.Records,bu] a w∧gq vrec d G g D b ao ag c5 e5=some y) ?_ ?_
 ·exact fz
 rintro a w ⟨e5,dn,hS,hM⟩
 unfold gq at hM
 rcases cd hM with ⟨ls,hM⟩ | ⟨ls,hM⟩
 ·refine ai hS fun a hS=>?_
  refine wl rfl (mE (R:=an) (k:=2) (cs:=(kj b z C)) (us:=[.bool true]) hS rfl rfl rfl Ge 0 rfl 2 rfl o f rfl rfl (oc rfl on) fun r2 w hk hS=>?_)
  refine ai hS fun a hS=>?_
  refine wl rfl (mE (R:=an) (k:=3) (cs:=[.int .i64 b.Key.Kind,.string b.Key.Text,.bool true,.int .i64 b.At,z,C]) (us:=[.int .i64 0]) hS rfl rfl rfl wI 0 rfl 0 rfl o f rfl rfl (oc rfl on) fun r3 w hk hS=>?_)
  refine go hS fun a w hS=>?_
  replace hS:=hS.freeze (R:=ad) 1 rfl 2 rfl
  replace hS:=hS.freeze (R:=aR.str) 1 rfl 4 rfl
  replace hS:=hS.closeH (R:=an) (x':=(bc.mk b.Key true 0 b.Reads b.Answers)) 2 rfl (⟨_,_,rfl,(hS.get 1 rfl),(hS.get 0 rfl)⟩)
  replace hS:=hS.freeze (R:=ac) 6 rfl 16 rfl
  replace hS:=hS.freeze (R:=aa) 6 rfl 18 rfl
  replace hS:=hS.freeze (R:=an) 0 rfl 2 rfl
  replace hS:=hS.nilRow ad 35 (by decide)
  cases hM
  refine aF hS Tryz.results111 (a8 hS rfl 7 rfl fG rfl (fun h=>by cases h) (ar hS rfl (ar hS rfl (ar hS rfl (ar hS rfl aH))))) ?_
  have hZ:=hS.sl [5,3,4,0] [3,2,1,0,15,16,17,18,19]
  exact ⟨t,B,u,(.slice none 0 0),[],H,I,K,q,A,s,p,rfl,(hZ.get 0 rfl),(hZ.get 1 rfl),(hZ.get 2 rfl),(hZ.get 3 rfl),hZ.dnew,(hZ.get 4 rfl),(hZ.get 5 rfl),(hZ.get 6 rfl),(hZ.get 7 rfl),(hZ.get 8 rfl)⟩
 refine ai hS fun a hS=>?_
 have lt:=dv (R:=an) hS 2 rfl o f
 refine qy hS (cg (k:=3) hS wI 0 rfl o lt rfl id (us:=[.int .i64 b.At]) rfl rfl (fun _=>rfl)) fun a hS=>?_
 refine ai hS fun a hS=>?_
 rcases cd hM with ⟨lv,hM⟩ | ⟨lv,hM⟩
 ·refine ai hS fun a hS=>?_
  replace hS:=hS.freeze (R:=ac) 8 rfl 11 rfl
  replace hS:=hS.freeze (R:=aa) 8 rfl 13 rfl
  replace hS:=hS.freeze (R:=ad) 3 rfl 6 rfl
  obtain ⟨st,hm,hM⟩:=bd hM
  refine kc hS zH (nW _ _ hS.dlt g ag false _ _ _ (hS.get 2 rfl) (hS.get 1 rfl) (hS.get 0 rfl) _ hm) fun _ w hR a hk hA=>?_
  obtain ⟨p1,ra,p2,rd,he,gb,gi,d0⟩:=hR
  obtain rfl:=he.symm
  have hS:=sZ hA gb gi d0
  refine go hS fun a w hS=>?_
  replace hS:=hS.freeze (R:=ad) 3 rfl 5 rfl
  replace hS:=hS.freeze (R:=aR.str) 3 rfl 7 rfl
  replace hS:=hS.closeHs (R:=an) 9 rfl f (⟨_,_,rfl,(hS.get 1 rfl),(hS.get 0 rfl)⟩)
  replace hS:=hS.freeze (R:=ac) 0 rfl 4 rfl
  replace hS:=hS.freeze (R:=aa) 0 rfl 4 rfl
  replace hS:=hS.freeze (R:=an) 0 rfl 2 rfl
  replace hS:=hS.fS (ea _ _ (hS.get 0 rfl))
  replace hS:=hS.nilRow ad 35 (by decide)
  cases hM
  refine aF hS Tryz.results111 (a8 hS rfl 6 rfl fG rfl (fun h=>by cases h) (ar hS rfl (ar hS rfl (ar hS rfl (ar hS rfl aH))))) ?_
  have hZ:=hS.sl [4,2,3,0] [4,3,1,0,19,20,21,22,23]
  exact ⟨p1,p2,a1,(.slice none 0 0),[],H,I,K,q,A,s,p,rfl,(hZ.get 0 rfl),(hZ.get 1 rfl),(hZ.get 2 rfl),(hZ.get 3 rfl),hZ.dnew,(hZ.get 4 rfl),(hZ.get 5 rfl),(hZ.get 6 rfl),(hZ.get 7 rfl),(hZ.get 8 rfl)⟩
 refine ai hS fun a hS=>?_
 have lV:=dv (R:=an) hS 2 rfl o f
 refine qy hS (cg (k:=3) hS wI 0 rfl o lV rfl id (us:=[.int .i64 b.At]) rfl rfl (fun _=>rfl)) fun a hS=>?_
 obtain ⟨M,ha,hM⟩:=bd hM
 refine wl rfl (dI (R:=fb) hS Cp yz rfl rfl 4 rfl 5 rfl ha rfl fun q0 sk sp rg m0 m1 m2 a hS=>?_)
 obtain rfl:=m0
 refine qy hS (cg (k:=0) hS yz 4 rfl m1 m2 rfl id (us:=(yX M)) rfl rfl (fun h=>by cases h)) fun a hS=>?_
 refine ka hS Ag fun q1 sb a w hk hS=>?_
 refine go hS fun a w hS=>?_
 refine aw ?_
 refine ai hS fun a hS=>?_
 have hL:=hS
 replace hL:=hL.freeze (R:=ac) 9 rfl 11 rfl
 replace hL:=hL.freeze (R:=aa) 9 rfl 13 rfl
 replace hL:=hL.freeze (R:=ad) 2 rfl 2 rfl
 replace hL:=hL.freeze (R:=aR.str) 2 rfl 4 rfl
 replace hL:=hL.closeHs (R:=an) 6 rfl f (⟨_,_,rfl,(hL.get 1 rfl),(hL.get 0 rfl)⟩)
 replace hL:=hL.freeze (R:=an) 1 rfl 0 rfl
 obtain ⟨sy,hn,hM⟩:=bd hM
 refine kc hS Ed (sL _ _ hL.dlt g D G M.Read _ _ _ _ (hL.get 5 rfl) (hL.get 4 rfl) (hL.get 0 rfl) (hL.get 9 rfl) _ hn) fun _ w hR a hk hA=>?_
 obtain rfl:=hR
 have hS:=bM hA
 refine ai hS fun a hS=>?_
 rcases cd hM with ⟨md,hM⟩ | ⟨md,hM⟩
 ·refine ai hS fun a hS=>?_
  refine aw ?_
  refine dr [(6,.blk (Value.ownBlock u)),(7,.blk (some L))] hS fun w hQ hS=>?_
  refine dy (l:=[.blk (Value.ownBlock u)]) 0 (v:=.agg (aO g t B).toArray) rfl (by kernel_rfl) (by kernel_rfl) (by kernel_rfl) (by kernel_rfl) hQ hS (dV hS rfl fG 11 rfl (iv hS 11 rfl rfl 1 rfl rfl (by decide) bE) (us:=(aO g t B)) rfl rfl (fun h=>by cases h)) rfl rfl rfl fun a hS=>?_
  refine gE [1,2,3] hS fun a hS=>?_
  refine dy 4 (v:=.agg #[.int .i64 M.Read.Kind,.string M.Read.Text,.bool false,.int .i64 0,.slice none 0 0,.slice none 0 0]) rfl (by kernel_rfl) (by kernel_rfl) (by kernel_rfl) rfl hQ hS (br (ps:=[(0,.tmp 218)]) hS B3 pE rfl (us:=[(aS M.Read)]) ⟨rfl,trivial⟩ (ws:=[.int .i64 M.Read.Kind,.string M.Read.Text,.bool false,.int .i64 0,.slice none 0 0,.slice none 0 0]) rfl) rfl rfl rfl fun a hS=>?_
  refine e1 5 (aZ (ps:=[(0,.tmp 219)]) hS wU pE (zl:=[.int .i64 0,.string (ByteArray.mk #[]),.bool false,.int .i64 0,.slice none 0 0,.slice none 0 0]) (by kernel_rfl) rfl (us:=[[.int .i64 M.Read.Kind,.string M.Read.Text,.bool false,.int .i64 0,.slice none 0 0,.slice none 0 0]]) ⟨rfl,trivial⟩ (ws:=[.int .i64 M.Read.Kind,.string M.Read.Text,.bool false,.int .i64 0,.slice none 0 0,.slice none 0 0]) rfl rfl rfl rfl fun q2 a w hk hS=>⟨fx (hk),?_⟩)
  replace hS:=hS.freeze (R:=ad) 3 rfl 0 rfl
  replace hS:=hS.freeze (R:=aR.str) 3 rfl 2 rfl
  replace hS:=hS.closeHs (R:=an) 4 rfl f (⟨_,_,rfl,(hS.get 1 rfl),(hS.get 0 rfl)⟩)
  replace hS:=hS.lit (R:=an) (us:=[.int .i64 M.Read.Kind,.string M.Read.Text,.bool false,.int .i64 0,.slice none 0 0,.slice none 0 0]) (xs:=[(bc.mk M.Read false 0 ([]) ([]))]) 0 rfl (by decide) (aD.one_ (R:=an) (x:=(bc.mk M.Read false 0 ([]) ([]))) (⟨_,_,rfl,aB.nil_ _ _ _,aB.nil_ _ _ _⟩)) rfl rfl
  replace hS:=hS.freeze (R:=an) 0 rfl 0 rfl
  obtain ⟨ms,hM⟩:=ba hM
  refine e1 6 (bC (R:=an) (xs:=D) (ys:=[(bc.mk M.Read false 0 ([]) ([]))]) hS wU (by decide) (by decide) rfl rfl 1 rfl 2 rfl 0 rfl ms rfl fun p3 rl a w hk hS=>⟨kp rfl hk lw,?_⟩)
  refine es 7 hS fun w hS=>?_
  refine gE [8,9,10,11] hS fun a hS=>?_
  refine eD ?_
  refine ai hS fun a hS=>?_
  replace hS:=hS.freeze (R:=ac) 7 rfl 17 rfl
  replace hS:=hS.freeze (R:=aa) 7 rfl 19 rfl
  replace hS:=hS.freeze (R:=an) 1 rfl 2 rfl
  replace hS:=hS.nilRow ad 35 (by decide)
  cases hM
  refine aF hS Tryz.results111 (a8 hS rfl 8 rfl fG rfl (fun h=>by cases h) (ar hS rfl (ar hS rfl (ar hS rfl (ar hS rfl aH))))) ?_
  have hZ:=hS.sl [6,4,5,0] [3,2,1,0,16,17,18,19,20]
  exact ⟨t,B,p3,(.slice none 0 0),[],H,I,K,q,A,s,p,rfl,(hZ.get 0 rfl),(hZ.get 1 rfl),(hZ.get 2 rfl),(hZ.get 3 rfl),hZ.dnew,(hZ.get 4 rfl),(hZ.get 5 rfl),(hZ.get 6 rfl),(hZ.get 7 rfl),(hZ.get 8 rfl)⟩
 refine ai hS fun a hS=>?_
 rcases cd hM with ⟨mv,hM⟩ | ⟨mv,hM⟩
 ·refine go hS fun a w hS=>?_
  replace hS:=hS.freeze (R:=ad) 2 rfl 0 rfl
  replace hS:=hS.freeze (R:=aR.str) 2 rfl 2 rfl
  replace hS:=hS.closeHs (R:=an) 4 rfl f (⟨_,_,rfl,(hS.get 1 rfl),(hS.get 0 rfl)⟩)
  replace hS:=hS.freeze (R:=ac) 7 rfl 14 rfl
  replace hS:=hS.freeze (R:=aa) 7 rfl 16 rfl
  replace hS:=hS.freeze (R:=an) 1 rfl 2 rfl
  replace hS:=hS.nilRow ad 35 (by decide)
  cases hM
  refine aF hS Tryz.results111 (a8 hS rfl 8 rfl fG rfl (fun h=>by cases h) (ar hS rfl (ar hS rfl (ar hS rfl (ar hS rfl aH))))) ?_
  have hZ:=hS.sl [6,4,5,0] [3,2,1,0,13,14,15,16,17]
  exact ⟨t,B,u,(.slice none 0 0),[],H,I,K,q,A,s,p,rfl,(hZ.get 0 rfl),(hZ.get 1 rfl),(hZ.get 2 rfl),(hZ.get 3 rfl),hZ.dnew,(hZ.get 4 rfl),(hZ.get 5 rfl),(hZ.get 6 rfl),(hZ.get 7 rfl),(hZ.get 8 rfl)⟩
 refine ai hS fun a hS=>?_
 rcases cd hM with ⟨n0,hM⟩ | ⟨n0,hM⟩
 ·refine go hS fun a w hS=>?_
  replace hS:=hS.freeze (R:=ad) 2 rfl 0 rfl
  replace hS:=hS.freeze (R:=aR.str) 2 rfl 2 rfl
  replace hS:=hS.closeHs (R:=an) 4 rfl f (⟨_,_,rfl,(hS.get 1 rfl),(hS.get 0 rfl)⟩)
  replace hS:=hS.freeze (R:=ac) 7 rfl 14 rfl
  replace hS:=hS.freeze (R:=aa) 7 rfl 16 rfl
  replace hS:=hS.freeze (R:=an) 1 rfl 2 rfl
  replace hS:=hS.nilRow ad 35 (by decide)
  cases hM
  refine aF hS Tryz.results111 (a8 hS rfl 8 rfl fG rfl (fun h=>by cases h) (ar hS rfl (ar hS rfl (ar hS rfl (ar hS rfl aH))))) ?_
  have hZ:=hS.sl [6,4,5,0] [3,2,1,0,13,14,15,16,17]
  exact ⟨t,B,u,(.slice none 0 0),[],H,I,K,q,A,s,p,rfl,(hZ.get 0 rfl),(hZ.get 1 rfl),(hZ.get 2 rfl),(hZ.get 3 rfl),hZ.dnew,(hZ.get 4 rfl),(hZ.get 5 rfl),(hZ.get 6 rfl),(hZ.get 7 rfl),(hZ.get 8 rfl)⟩
 refine ai hS fun a hS=>?_
 have hL:=hS
 replace hL:=hL.freeze (R:=aa) 10 rfl 12 rfl
 obtain ⟨h4,ho,hM⟩:=bd hM
 refine kc hS kr (bF _ _ hL.dlt g.Records M.Member _ (hL.get 0 rfl) _ ho) fun _ w hR a hk hA=>?_
 obtain ⟨p4,hN,he,⟨f3,ez,gp⟩⟩:=hR
 obtain rfl:=he.symm
 have hS:=hA [au p4 hN] (gS ⟨f3,by decide⟩ ez) (s4 _)
 replace hS:=hS.fR gp
 refine ai hS fun a hS=>?_
 refine ka hS fJ fun q3 sc a w hk hS=>?_
 refine go hS fun a w hS=>?_
 refine aw ?_
 refine aw ?_
 refine dr [(4,.bks [some e,some m,some n])] hS fun w hQ hS=>?_
 refine gE [0,1,2,3,5] hS fun a hS=>?_
 refine dy (l:=[.bks [some e,some m,some n]]) 6 (v:=.int .i64 h4.1.Verified) rfl (by kernel_rfl) (by kernel_rfl) (by kernel_rfl) (by kernel_rfl) hQ hS (dV hS rfl wI 0 rfl (uN hS 0 rfl rfl [10,8,9] rfl rfl bE) (us:=[.int .i64 h4.1.Verified]) rfl rfl (fun _=>rfl)) rfl rfl rfl fun a hS=>?_
 replace hS:=hS.freeze (R:=ac) 11 rfl 12 rfl
 replace hS:=hS.freeze (R:=aa) 11 rfl 14 rfl
 obtain ⟨af,hi,hM⟩:=bd hM
 replace hS:=hS.re [10,8,9] [0,1,2,3,4,5,6,7,11,12]
 refine e1 4 (cF hS GL rfl rfl (xp _ _ hS.dltD vrec hvrec d g M.Read _ _ _ _ _ _ _ _ _ _ _ _ hS.dok (hS.getD 9 rfl) (hS.getD 10 rfl) (hS.getD 11 rfl) (hS.getD 12 rfl) (hS.getD 13 rfl) (hS.getD 1 rfl) (hS.getD 0 rfl) (hS.getD 16 rfl) _ hi) fun _ w hR a hk hA=>⟨kp rfl hk (xW rfl rfl),?_⟩)
 obtain ⟨cb,ch,ck,bi,ds,bl,e0,he,n1,gs,gu,h0,f6,fd⟩:=hR
 obtain rfl:=he.symm
 have hS:=hA _ n1
 replace hS:=hS.fS (gs.sub (ap _))
 replace hS:=hS.fS (gu.sub (ap _))
 replace hS:=hS.fS (h0.sub (ap _))
 replace hS:=hS.fM (f6.keep (Kt.refl _ _) (ap _))
 replace hS:=hS.fM (fd.keep (Kt.refl _ _) (ap _))
 refine gE [7] hS fun a hS=>?_
 refine eD ?_
 refine ai hS fun a hS=>?_
 rcases cd hM with ⟨n2,hM⟩ | ⟨n2,hM⟩
 ·refine ai hS fun a hS=>?_
  have nd:=dv (R:=an) hS 10 rfl o f
  refine qy hS (cg (k:=3) hS wI 6 rfl o nd rfl id (us:=[.int .i64 b.At]) rfl rfl (fun _=>rfl)) fun a hS=>?_
  refine ai hS fun a hS=>?_
  refine wl rfl (mE (R:=an) (k:=3) (cs:=(kj b z C)) (us:=[.int .i64 (IntKind.i64.wrap (b.At + 1))]) hS rfl rfl rfl wI 6 rfl 10 rfl o f rfl rfl (oc rfl on) fun rm w hk hS=>?_)
  refine go hS fun a w hS=>?_
  replace hS:=hS.freeze (R:=ad) 7 rfl 9 rfl
  replace hS:=hS.freeze (R:=aR.str) 7 rfl 11 rfl
  replace hS:=hS.closeH (R:=an) (x':=(bc.mk b.Key b.Running (IntKind.i64.wrap (b.At + 1)) b.Reads b.Answers)) 2 rfl (⟨_,_,rfl,(hS.get 1 rfl),(hS.get 0 rfl)⟩)
  replace hS:=hS.freeze (R:=an) 6 rfl 0 rfl
  replace hS:=hS.nilRow ad 35 (by decide)
  cases hM
  refine aF hS Tryz.results111 (a8 hS rfl 10 rfl fG rfl (fun h=>by cases h) (ar hS rfl (ar hS rfl (ar hS rfl (ar hS rfl aH))))) ?_
  have hZ:=hS.sl [1,2,3,0] [12,11,1,0,10,9,8,7,6]
  exact ⟨t,B,u,(.slice none 0 0),[],cb,ch,ck,bi,ds,bl,e0,rfl,(hZ.get 0 rfl),(hZ.get 1 rfl),(hZ.get 2 rfl),(hZ.get 3 rfl),hZ.dnew,(hZ.get 4 rfl),(hZ.get 5 rfl),(hZ.get 6 rfl),(hZ.get 7 rfl),(hZ.get 8 rfl)⟩
 refine ai hS fun a hS=>?_
 refine aI (J:=fun a w=>∃ (d1:Int) (d2:LI) (d3:LR) (e2:LV) (cl:Value) (co:Value),St W0 (MD [xS e H d.Base.Revision I K m n,om m q A,om n s p]) T 271 [(2,u),(5,pt P 0),(8,pt L 0),(13,pt ak av)] [c8 u e2,au z Q,.own C 9 aR.str.size O,.box P [.int .i64 d1,cl,co] 31,.box L [.int .i64 0,.slice none 0 0,.slice none 0 0] 31,om m bi ds,om n bl e0,xS e cb af.2.Base.Revision ch ck m n] [am ad Q b.Reads,am aR.str O b.Answers,am (HR an) e2 (eI D (IntKind.i64.wrap ((D.length:Int) - 1)) (kj b z C)),aJ ac cl d2,aJ aa co d3,aJ aq cb af.2.Rules,aJ ac ch af.2.Base.Inputs,aJ aa ck af.2.Base.Records,lL bi af.2.Memo,oK bl af.2.Seen,bu] a w∧k8 D b af d1 d2 d3=some y) ?_ ?_
 ·skip
  refine ai hS fun a hS=>?_
  have ng:=dv (R:=an) hS 10 rfl o f
  refine qy hS (cg (k:=0) hS fY 6 rfl o ng rfl id (us:=(aS b.Key)) rfl rfl (fun h=>by cases h)) fun a hS=>?_
  obtain ⟨sz,hp,hM⟩:=bd hM
  refine kc hS s7 (cq _ _ hS.dlt b.Key _ hp) fun _ w hR a hk hA=>?_
  obtain rfl:=hR
  have hS:=bM hA
  refine ai hS fun a hS=>?_
  rcases cd hM with ⟨nl,hM⟩ | ⟨nl,hM⟩
  ·refine ai hS fun a hS=>?_
   replace hS:=hS.freeze (R:=ad) 9 rfl 12 rfl
   obtain ⟨sT,hq,hM⟩:=bd hM
   refine kc hS zH (nW _ _ hS.dlt g ag true _ _ _ (hS.get 7 rfl) (hS.get 6 rfl) (hS.get 0 rfl) _ hq) fun _ w hR a hk hA=>?_
   obtain ⟨t3,rs,t4,rt,he,h1,h2,d0⟩:=hR
   obtain rfl:=he.symm
   have hS:=sZ hA h1 h2 d0
   refine go hS fun a w hS=>?_
   replace hS:=hS.freeze (R:=ac) 0 rfl 1 rfl
   replace hS:=hS.freeze (R:=aa) 0 rfl 1 rfl
   exact ⟨_,_,_,_,_,_,hS.mt [6,7,8,10,11,1,2,0] [13,14,15,1,0,9,8,7,6,5,26],hM⟩
  exact fz
 rintro a w ⟨d1,d2,d3,e2,cl,co,hS,hM⟩
 unfold k8 at hM
 refine ai hS fun a hS=>?_
 refine wl rfl (mE (R:=an) (k:=2) (cs:=(kj b z C)) (us:=[.bool true]) hS rfl rfl rfl Ge 0 rfl 2 rfl o f rfl rfl (oc rfl on) fun rv w hk hS=>?_)
 refine ai hS fun a hS=>?_
 refine wl rfl (mE (R:=an) (k:=3) (cs:=[.int .i64 b.Key.Kind,.string b.Key.Text,.bool true,.int .i64 b.At,z,C]) (us:=[.int .i64 0]) hS rfl rfl rfl wI 0 rfl 0 rfl o f rfl rfl (oc rfl on) fun rO w hk hS=>?_)
 refine go hS fun a w hS=>?_
 replace hS:=hS.freeze (R:=ad) 1 rfl 2 rfl
 replace hS:=hS.freeze (R:=aR.str) 1 rfl 4 rfl
 replace hS:=hS.closeH (R:=an) (x':=(bc.mk b.Key true 0 b.Reads b.Answers)) 2 rfl (⟨_,_,rfl,(hS.get 1 rfl),(hS.get 0 rfl)⟩)
 replace hS:=hS.freeze (R:=an) 0 rfl 0 rfl
 replace hS:=hS.nilRow ad 35 (by decide)
 cases hM
 refine aF hS Tryz.results111 (a8 hS rfl 2 rfl fG rfl (fun h=>by cases h) (ar hS rfl (ar hS rfl (ar hS rfl (ar hS rfl aH))))) ?_
 have hZ:=hS.sl [5,3,4,0] [10,11,1,0,12,13,14,15,16]
 exact ⟨cl,co,u,(.slice none 0 0),[],cb,ch,ck,bi,ds,bl,e0,rfl,(hZ.get 0 rfl),(hZ.get 1 rfl),(hZ.get 2 rfl),(hZ.get 3 rfl),hZ.dnew,(hZ.get 4 rfl),(hZ.get 5 rfl),(hZ.get 6 rfl),(hZ.get 7 rfl),(hZ.get 8 rfl)⟩
def m9 (e:aj) (b:cJ) (c:LK) (d:LF):Option (cJ×Bool×Int×aj):=some (((cJ.mk b.Rules b.Base c d b.Ran),true,0,e))
def oE (vrec:aj→ae→Option (ByteArray×aj)) (d:aj) (h:cJ):Option (cJ×Bool×Int×aj):=(ln h).bind fun c=>cond (((c.Stack.length:Int):Int) == 0) (cond (((c.Goals.length:Int):Int) == 0) (some ((c,false,0,d))) ((bm c.Goals 0).bind fun e=>(ql c.Goals 1 c.Goals.length).bind fun f=>(kg c.Base ([]) e).bind fun g=>cond g (m9 d c f ([(bc.mk e false 0 ([]) ([]))])) (m9 d c f c.Stack))) ((mg vrec d c.Base c.Stack ([])).bind fun b=>cond ((b.2.2.2.2.1:Int) != 0) (some ((c,false,b.2.2.2.2.1,(aj.mk b.2.2.2.2.2.Rules (ah.mk b.2.2.2.2.2.Base.Revision b.2.2.2.2.2.Base.Inputs b.2.2.2.2.2.Base.Records) b.2.2.2.2.2.Memo b.2.2.2.2.2.Seen)))) (gd (bG (c.Ran.length + b.2.2.1.length)) <| some (((cJ.mk c.Rules (ah.mk b.1.Revision b.1.Inputs b.1.Records) c.Goals b.2.1 (c.Ran ++ b.2.2.1)),b.2.2.2.1,0,(aj.mk b.2.2.2.2.2.Rules (ah.mk b.2.2.2.2.2.Base.Revision b.2.2.2.2.2.Base.Inputs b.2.2.2.2.2.Base.Records) b.2.2.2.2.2.Memo b.2.2.2.2.2.Seen)))))
theorem xq (T:Nat→Prop) (W0:World) (hT:TW T W0) (vrec:aj→ae→Option (ByteArray×aj)) (hvrec:lr vrec) (f:aj) (I:cJ) (c3:Value) (c4:Value) (c5:Value) (c9:Value) (ca:Value) (cb:Value) (b:Nat) (z:Value) (A:Value) (B:Value) (d:Nat) (i:Array MapEntry) (m:Nat) (e:Nat) (j:Array MapEntry) (g:Nat) (hD:vB T W0 [xS b z f.Base.Revision A B d e,om d i m,om e j g]) (er:aB aq (dT T [xS b z f.Base.Revision A B d e,om d i m,om e j g]) W0 z f.Rules) (et:aB ac (dT T [xS b z f.Base.Revision A B d e,om d i m,om e j g]) W0 A f.Base.Inputs) (ex:aB aa (dT T [xS b z f.Base.Revision A B d e,om d i m,om e j g]) W0 B f.Base.Records) (el:bw ad true aR.str false (dT T [xS b z f.Base.Revision A B d e,om d i m,om e j g]) W0 i f.Memo) (eq:bw ad true (aR.slice ad) false (dT T [xS b z f.Base.Revision A B d e,om d i m,om e j g]) W0 j f.Seen) (e0:aB aq (dT T [xS b z f.Base.Revision A B d e,om d i m,om e j g]) W0 c3 I.Rules) (e2:aB ac (dT T [xS b z f.Base.Revision A B d e,om d i m,om e j g]) W0 c4 I.Base.Inputs) (e3:aB aa (dT T [xS b z f.Base.Revision A B d e,om d i m,om e j g]) W0 c5 I.Base.Records) (e4:aB ad (dT T [xS b z f.Base.Revision A B d e,om d i m,om e j g]) W0 c9 I.Goals) (e5:aB an (dT T [xS b z f.Base.Revision A B d e,om d i m,om e j g]) W0 ca I.Stack) (e8:aB ad (dT T [xS b z f.Base.Revision A B d e,om d i m,om e j g]) W0 cb I.Ran) (hLv:c6 (dT T [xS b z f.Base.Revision A B d e,om d i m,om e j g]) W0) (y:cJ×Bool×Int×aj) (hM:oE vrec f I=some y):aY Tryz.prog (MD [xS b z f.Base.Revision A B d e,om d i m,om e j g]) 80 [pt b 0,.agg (rx I c3 c4 c5 c9 ca cb).toArray] W0 (fun v w'=>∃ (C:Value) (n:List Value) (ch:Value) (ck:Value) (cl:Value) (co:Value) (D:Value) (o:List Value) (E:Value) (F:Value) (G:Value) (q:Array MapEntry) (s:Nat) (r:Array MapEntry) (t:Nat),v = .tuple #[.agg (rx y.1 C ch ck cl co D).toArray,.bool y.2.1,.int .i64 y.2.2.1]∧aD aq (dT T [xS b E y.2.2.2.Base.Revision F G d e,om d q s,om e r t,bJ C n,au D o]) w' n y.1.Rules∧aB ac (dT T [xS b E y.2.2.2.Base.Revision F G d e,om d q s,om e r t,bJ C n,au D o]) w' ch y.1.Base.Inputs∧aB aa (dT T [xS b E y.2.2.2.Base.Revision F G d e,om d q s,om e r t,bJ C n,au D o]) w' ck y.1.Base.Records∧aB ad (dT T [xS b E y.2.2.2.Base.Revision F G d e,om d q s,om e r t,bJ C n,au D o]) w' cl y.1.Goals∧aB an (dT T [xS b E y.2.2.2.Base.Revision F G d e,om d q s,om e r t,bJ C n,au D o]) w' co y.1.Stack∧aD ad (dT T [xS b E y.2.2.2.Base.Revision F G d e,om d q s,om e r t,bJ C n,au D o]) w' o y.1.Ran∧n8 W0 w' [xS b z f.Base.Revision A B d e,om d i m,om e j g] [xS b E y.2.2.2.Base.Revision F G d e,om d q s,om e r t,bJ C n,au D o]∧aB aq (dT T [xS b E y.2.2.2.Base.Revision F G d e,om d q s,om e r t,bJ C n,au D o]) w' E y.2.2.2.Rules∧aB ac (dT T [xS b E y.2.2.2.Base.Revision F G d e,om d q s,om e r t,bJ C n,au D o]) w' F y.2.2.2.Base.Inputs∧aB aa (dT T [xS b E y.2.2.2.Base.Revision F G d e,om d q s,om e r t,bJ C n,au D o]) w' G y.2.2.2.Base.Records∧bw ad true aR.str false (dT T [xS b E y.2.2.2.Base.Revision F G d e,om d q s,om e r t,bJ C n,au D o]) w' q y.2.2.2.Memo∧bw ad true (aR.slice ad) false (dT T [xS b E y.2.2.2.Base.Revision F G d e,om d q s,om e r t,bJ C n,au D o]) w' r y.2.2.2.Seen):=by
 refine kk (c:=_) Tryz.func80 rfl T 68 Tryz.ntmps80 hT rfl hD fun a hS=>?_
 replace hS:=hS.fact bu hLv
 replace hS:=hS.fS e0
 replace hS:=hS.fS e2
 replace hS:=hS.fS e3
 replace hS:=hS.fS e4
 replace hS:=hS.fS e5
 replace hS:=hS.fS e8
 replace hS:=hS.fS er
 replace hS:=hS.fS et
 replace hS:=hS.fS ex
 replace hS:=hS.fM el
 replace hS:=hS.fM eq
 unfold oE at hM
 refine ai hS fun a hS=>?_
 refine kb hS fun M f5 a w hk hS=>?_
 refine ka hS vA fun a0 f6 a w hk hS=>?_
 refine ai hS fun a hS=>?_
 obtain ⟨u,c0,hM⟩:=bd hM
 replace hS:=hS.re [] [0,1,2,3,4]
 refine wl rfl (cF hS ES rfl rfl (pX _ _ hS.dltD I _ _ _ _ _ _ hS.dok (hS.getD 10 rfl) (hS.getD 9 rfl) (hS.getD 8 rfl) (hS.getD 7 rfl) (hS.getD 6 rfl) (hS.getD 5 rfl) _ c0) fun _ w hR a hk hA=>?_)
 obtain ⟨L,K,O,a1,P,a2,X,f1,bb,f2,H,N,he,ag,ak,ao,av,ax,ay,cv⟩:=hR
 obtain rfl:=he.symm
 have hS:=hA _ cv
 replace hS:=hS.fR (ag.keep (Kt.refl _ _) (ap _))
 replace hS:=hS.fR (ak.keep (Kt.refl _ _) (ap _))
 replace hS:=hS.fR (ao.keep (Kt.refl _ _) (ap _))
 replace hS:=hS.fR (av.keep (Kt.refl _ _) (ap _))
 replace hS:=hS.fR (ax.keep (Kt.refl _ _) (ap _))
 replace hS:=hS.fR (ay.keep (Kt.refl _ _) (ap _))
 refine go hS fun a w hS=>?_
 refine aw ?_
 refine ai hS fun a hS=>?_
 rcases cd hM with ⟨d0,hM⟩ | ⟨d0,hM⟩
 ·refine ai hS fun a hS=>?_
  refine aw ?_
  refine ai hS fun a hS=>?_
  rcases cd hM with ⟨d1,hM⟩ | ⟨d1,hM⟩
  ·refine go hS fun a w hS=>?_
   replace hS:=hS.freeze (R:=ac) 1 rfl 4 rfl
   replace hS:=hS.freeze (R:=aa) 1 rfl 4 rfl
   replace hS:=hS.freeze (R:=ad) 1 rfl 4 rfl
   replace hS:=hS.freeze (R:=an) 1 rfl 4 rfl
   cases hM
   refine aF hS Tryz.results80 (a8 hS rfl 2 rfl tB rfl (fun h=>by cases h) (ar hS rfl (ar hS rfl aH))) ?_
   have hZ:=hS.sl [4,5,6,0,1] [9,3,2,1,0,4,14,13,12,11,10]
   exact ⟨L,K,O,P,X,bb,H,N,z,A,B,i,m,j,g,rfl,(hZ.get 0 rfl),(hZ.get 1 rfl),(hZ.get 2 rfl),(hZ.get 3 rfl),(hZ.get 4 rfl),(hZ.get 5 rfl),hZ.dnew,(hZ.get 6 rfl),(hZ.get 7 rfl),(hZ.get 8 rfl),(hZ.get 9 rfl),(hZ.get 10 rfl)⟩
  refine ai hS fun a hS=>?_
  obtain ⟨p,bs,hM⟩:=bd hM
  refine wl rfl (dI (R:=ad) hS nI fY rfl rfl 3 rfl 2 rfl bs rfl fun ey fn fr f3 d2 d3 d4 a hS=>?_)
  obtain rfl:=d2
  refine qy hS (cg (k:=0) hS fY 3 rfl d3 d4 rfl id (us:=(aS p)) rfl rfl (fun h=>by cases h)) fun a hS=>?_
  refine ka hS gM fun ez fd a w hk hS=>?_
  refine go hS fun a w hS=>?_
  obtain ⟨b9,bt,hM⟩:=bd hM
  obtain ⟨Q,d6,dc⟩:=uJ (R:=ad) hS nI fY 4 rfl 2 rfl bt
  refine wl rfl (ky (v:=Q) hS (dc (k2:=.i64) rfl (.inl ⟨_,rfl,rfl⟩) (.inr ⟨rfl,rfl⟩)) rfl rfl fun a hS=>?_)
  refine ai hS fun a hS=>?_
  replace hS:=hS.freeze (R:=ad) 4 rfl 2 rfl
  replace hS:=hS.fS (d6 _ _ (hS.get 0 rfl))
  refine go hS fun a w hS=>?_
  refine aI (J:=fun a w=>∃ (V:LF) (S:Value) (U:LV),St W0 (MD [xS b z f.Base.Revision A B d e,om d i m,om e j g]) T 68 [(3,pt M 0),(4,pt a0 0)] [bJ L K,aP O a1,aE P a2,c8 S U,au H N,.box M (rx u L O P Q S H) 88,.box a0 [.slice none 0 0,.int .i64 0,.slice none 0 0,.slice none 0 0,.slice none 0 0,.slice none 0 0,.slice none 0 0] 88,om d i m,om e j g,xS b z f.Base.Revision A B d e] [am aq K u.Rules,am ac a1 u.Base.Inputs,am aa a2 u.Base.Records,aJ ad Q b9,am an U V,am ad N u.Ran,aJ aq z f.Rules,aJ ac A f.Base.Inputs,aJ aa B f.Base.Records,lL i f.Memo,oK j f.Seen,bu] a w∧m9 f u b9 V=some y) ?_ ?_
  ·skip
   refine ai hS fun a hS=>?_
   have hL:=hS
   replace hL:=hL.freeze (R:=ac) 2 rfl 6 rfl
   replace hL:=hL.freeze (R:=aa) 2 rfl 6 rfl
   replace hL:=hL.fact (aJ an (.slice none 0 0) []) (aB.nil_ _ _ _)
   obtain ⟨fs,c1,hM⟩:=bd hM
   refine kc hS D9 (qJ _ _ hL.dlt u.Base ([]) p _ _ _ (hL.get 2 rfl) (hL.get 1 rfl) (hL.get 0 rfl) _ c1) fun _ w hR a hk hA=>?_
   obtain rfl:=hR
   have hS:=bM hA
   refine ai hS fun a hS=>?_
   rcases cd hM with ⟨di,hM⟩ | ⟨di,hM⟩
   ·refine ai hS fun a hS=>?_
    refine qy hS (br (ps:=[(0,.tmp 36)]) hS B3 pE rfl (us:=[(aS p)]) ⟨rfl,trivial⟩ (ws:=[.int .i64 p.Kind,.string p.Text,.bool false,.int .i64 0,.slice none 0 0,.slice none 0 0]) rfl) fun a hS=>?_
    refine wl rfl (aZ (ps:=[(0,.tmp 37)]) hS wU pE (zl:=[.int .i64 0,.string (ByteArray.mk #[]),.bool false,.int .i64 0,.slice none 0 0,.slice none 0 0]) (by kernel_rfl) rfl (us:=[[.int .i64 p.Kind,.string p.Text,.bool false,.int .i64 0,.slice none 0 0,.slice none 0 0]]) ⟨rfl,trivial⟩ (ws:=[.int .i64 p.Kind,.string p.Text,.bool false,.int .i64 0,.slice none 0 0,.slice none 0 0]) rfl rfl rfl rfl fun eT a w hk hS=>?_)
    refine ai hS fun a hS=>?_
    replace hS:=hS.lit (R:=an) (us:=[.int .i64 p.Kind,.string p.Text,.bool false,.int .i64 0,.slice none 0 0,.slice none 0 0]) (xs:=[(bc.mk p false 0 ([]) ([]))]) 0 rfl (by decide) (aD.one_ (R:=an) (x:=(bc.mk p false 0 ([]) ([]))) (⟨_,_,rfl,aB.nil_ _ _ _,aB.nil_ _ _ _⟩)) rfl rfl
    exact fz
   exact fz
  rintro a w ⟨V,S,U,hS,hM⟩
  unfold m9 at hM
  refine go hS fun a w hS=>?_
  replace hS:=hS.freeze (R:=ac) 1 rfl 1 rfl
  replace hS:=hS.freeze (R:=aa) 1 rfl 3 rfl
  replace hS:=hS.freeze (R:=an) 1 rfl 6 rfl
  cases hM
  refine aF hS Tryz.results80 (a8 hS rfl 3 rfl tB rfl (fun h=>by cases h) (ar hS rfl (ar hS rfl aH))) ?_
  have hZ:=hS.sl [6,4,5,0,1] [3,2,1,6,0,8,9,10,11,12,13]
  exact ⟨L,K,O,P,Q,S,H,N,z,A,B,i,m,j,g,rfl,(hZ.get 0 rfl),(hZ.get 1 rfl),(hZ.get 2 rfl),(hZ.get 3 rfl),(hZ.get 4 rfl),(hZ.get 5 rfl),hZ.dnew,(hZ.get 6 rfl),(hZ.get 7 rfl),(hZ.get 8 rfl),(hZ.get 9 rfl),(hZ.get 10 rfl)⟩
 refine ai hS fun a hS=>?_
 replace hS:=hS.freeze (R:=ac) 1 rfl 4 rfl
 replace hS:=hS.freeze (R:=aa) 1 rfl 4 rfl
 replace hS:=hS.freeze (R:=an) 2 rfl 3 rfl
 replace hS:=hS.fact (aJ an (.slice none 0 0) []) (aB.nil_ _ _ _)
 obtain ⟨W,c2,hM⟩:=bd hM
 replace hS:=hS.re [5,6,7] [0,1,2,3,4]
 refine wl rfl (cF hS GC rfl rfl (vd _ _ hS.dltD vrec hvrec f u.Base u.Stack ([]) _ _ _ _ _ _ _ _ _ _ _ _ _ _ hS.dok (hS.getD 14 rfl) (hS.getD 13 rfl) (hS.getD 12 rfl) (hS.getD 11 rfl) (hS.getD 10 rfl) (hS.getD 3 rfl) (hS.getD 2 rfl) (hS.getD 1 rfl) (hS.getD 0 rfl) (hS.getD 21 rfl) _ c2) fun _ w hR a hk hA=>?_)
 obtain ⟨Y,Z,ea,g0,f4,bi,bl,bq,a5,a3,a9,a4,he,az,b0,b1,b2,dl,b3,b4,b6,ab,af⟩:=hR
 obtain rfl:=he.symm
 have hS:=hA _ dl
 replace hS:=hS.fR (b2.keep (Kt.refl _ _) (ap _))
 replace hS:=hS.fS (az.sub (ap _))
 replace hS:=hS.fS (b0.sub (ap _))
 replace hS:=hS.fS (b1.sub (ap _))
 replace hS:=hS.fS (b3.sub (ap _))
 replace hS:=hS.fS (b4.sub (ap _))
 replace hS:=hS.fS (b6.sub (ap _))
 replace hS:=hS.fM (ab.keep (Kt.refl _ _) (ap _))
 replace hS:=hS.fM (af.keep (Kt.refl _ _) (ap _))
 refine ai hS fun a hS=>?_
 refine ka hS jP fun eX fl a w hk hS=>?_
 refine go hS fun a w hS=>?_
 refine aw ?_
 refine ai hS fun a hS=>?_
 rcases cd hM with ⟨dn,hM⟩ | ⟨dn,hM⟩
 ·refine go hS fun a w hS=>?_
  replace hS:=hS.freeze (R:=ad) 6 rfl 15 rfl
  cases hM
  refine aF hS Tryz.results80 (a8 hS rfl 7 rfl tB rfl (fun h=>by cases h) (ar hS rfl (ar hS rfl aH))) ?_
  have hZ:=hS.sl [1,2,3,5,6] [19,13,12,0,11,14,5,4,3,2,1]
  exact ⟨L,K,O,P,X,bb,H,N,bi,bl,bq,a5,a3,a9,a4,rfl,(hZ.get 0 rfl),(hZ.get 1 rfl),(hZ.get 2 rfl),(hZ.get 3 rfl),(hZ.get 4 rfl),(hZ.get 5 rfl),hZ.dnew,(hZ.get 6 rfl),(hZ.get 7 rfl),(hZ.get 8 rfl),(hZ.get 9 rfl),(hZ.get 10 rfl)⟩
 refine ai hS fun a hS=>?_
 refine aw ?_
 refine dr [(5,.blk (Value.ownBlock H)),(7,.blk (some M)),(9,.blk (some M)),(11,.blk (some M))] hS fun w hQ hS=>?_
 refine dy (l:=[.blk (Value.ownBlock H)]) 0 (v:=.agg (aO W.1 Y Z).toArray) rfl (by kernel_rfl) (by kernel_rfl) (by kernel_rfl) (by kernel_rfl) hQ hS (dV hS rfl fG 0 rfl (iv hS 0 rfl rfl 7 rfl rfl (by decide) bE) (us:=(aO W.1 Y Z)) rfl rfl (fun h=>by cases h)) rfl rfl rfl fun a hS=>?_
 refine gE [1,2,3,4,6] hS fun a hS=>?_
 replace hS:=hS.freeze (R:=ad) 4 rfl 8 rfl
 obtain ⟨ds,hM⟩:=ba hM
 refine e1 5 (bC (R:=ad) (xs:=u.Ran) (ys:=W.2.2.1) hS iq (by decide) (by decide) rfl rfl 6 rfl 14 rfl 0 rfl ds rfl fun ed cs a w hk hS=>⟨kp rfl hk lw,?_⟩)
 refine es 7 hS fun w hS=>?_
 refine gE [8] hS fun a hS=>?_
 refine es 9 hS fun w hS=>?_
 refine gE [10] hS fun a hS=>?_
 refine es 11 hS fun w hS=>?_
 refine eD ?_
 refine go hS fun a w hS=>?_
 replace hS:=hS.freeze (R:=ad) 5 rfl 17 rfl
 cases hM
 refine aF hS Tryz.results80 (a8 hS rfl 6 rfl tB rfl (fun h=>by cases h) (ar hS rfl (ar hS rfl aH))) ?_
 have hZ:=hS.sl [1,2,3,4,5] [21,10,9,0,8,1,7,6,5,4,3]
 exact ⟨L,K,Y,Z,X,ea,ed,cs,bi,bl,bq,a5,a3,a9,a4,rfl,(hZ.get 0 rfl),(hZ.get 1 rfl),(hZ.get 2 rfl),(hZ.get 3 rfl),(hZ.get 4 rfl),(hZ.get 5 rfl),hZ.dnew,(hZ.get 6 rfl),(hZ.get 7 rfl),(hZ.get 8 rfl),(hZ.get 9 rfl),(hZ.get 10 rfl)⟩
def pY (b:Int) (c:LU) (d:Int) (e:LI) (f:LR) (g:LK) (h:LF) (i:LK):Option (cJ×Int×Int):=some (((cJ.mk c (ah.mk d e f) g h i),b,0))
def nX (vrec:aj→ae→Option (ByteArray×aj)) (k:Int) (c:Int) (d:LU) (e:Int) (f:LI) (g:LR) (h:LK) (i:LF) (j:LK) (l:LU) (m:Int) (n:LI) (o:LR) (p:LB) (q:LL):Option (Fl (Int×LU×Int×LI×LR×LK×LF×LK×LU×Int×LI×LR×LB×LL) (Fl (Int×LU×Int×LI×LR×LK×LF×LK) (cJ×Int×Int))):=cond (decide ((c:Int) < k)) ((oE vrec (aj.mk l (ah.mk m n o) p q) (cJ.mk d (ah.mk e f g) h i j)).bind fun b=>cond ((b.2.2.1:Int) != 0) (some (.out (.out ((cJ.mk d (ah.mk e f g) h i j),c,b.2.2.1)))) (cond (!(b.2.1)) (some (.out (.out ((cJ.mk b.1.Rules (ah.mk b.1.Base.Revision b.1.Base.Inputs b.1.Base.Records) b.1.Goals b.1.Stack b.1.Ran),c,0)))) (some (.go (IntKind.i64.wrap (c + 1),b.1.Rules,b.1.Base.Revision,b.1.Base.Inputs,b.1.Base.Records,b.1.Goals,b.1.Stack,b.1.Ran,b.2.2.2.Rules,b.2.2.2.Base.Revision,b.2.2.2.Base.Inputs,b.2.2.2.Base.Records,b.2.2.2.Memo,b.2.2.2.Seen))))) (some (.out (.go (c,d,e,f,g,h,i,j))))
def pA (vrec:aj→ae→Option (ByteArray×aj)) (f:cJ) (d:Int):Option (cJ×Int×Int):=(ln f).bind fun b=>cond (decide ((d:Int)≤0)) (some ((b,0,0))) ((nB b).bind fun e=>cond (!(e)) (some ((b,0,44))) ((qZ b.Rules b.Base).bind fun c=>(loop (fun s:Int×LU×Int×LI×LR×LK×LF×LK×LU×Int×LI×LR×LB×LL=>nX vrec d s.1 s.2.1 s.2.2.1 s.2.2.2.1 s.2.2.2.2.1 s.2.2.2.2.2.1 s.2.2.2.2.2.2.1 s.2.2.2.2.2.2.2.1 s.2.2.2.2.2.2.2.2.1 s.2.2.2.2.2.2.2.2.2.1 s.2.2.2.2.2.2.2.2.2.2.1 s.2.2.2.2.2.2.2.2.2.2.2.1 s.2.2.2.2.2.2.2.2.2.2.2.2.1 s.2.2.2.2.2.2.2.2.2.2.2.2.2) (0,b.Rules,b.Base.Revision,b.Base.Inputs,b.Base.Records,b.Goals,b.Stack,b.Ran,c.Rules,c.Base.Revision,c.Base.Inputs,c.Base.Records,c.Memo,c.Seen)).bind fun r=>Fl.el r (fun s=>pY s.1 s.2.1 s.2.2.1 s.2.2.2.1 s.2.2.2.2.1 s.2.2.2.2.2.1 s.2.2.2.2.2.2.1 s.2.2.2.2.2.2.2) (fun y=>some (y))))
theorem yl (T:Nat→Prop) (W0:World) (hT:TW T W0) (hLv:c6 T W0) (vrec:aj→ae→Option (ByteArray×aj)) (hvrec:lr vrec) (b:cJ) (c:Int) (v1:Value) (v2:Value) (v3:Value) (v4:Value) (v5:Value) (v6:Value) (e3:aB aq T W0 v1 b.Rules) (e4:aB ac T W0 v2 b.Base.Inputs) (e5:aB aa T W0 v3 b.Base.Records) (e8:aB ad T W0 v4 b.Goals) (ea:aB an T W0 v5 b.Stack) (ed:aB ad T W0 v6 b.Ran) (y:cJ×Int×Int) (hM:pA vrec b c=some y):aY Tryz.prog No 49 [.agg (rx b v1 v2 v3 v4 v5 v6).toArray,.int .i64 c] W0 (fun v w'=>∃ (v7:Value) (v8:Value) (v9:Value) (ch:Value) (ck:Value) (cl:Value),v = .tuple #[.agg (rx y.1 v7 v8 v9 ch ck cl).toArray,.int .i64 y.2.1,.int .i64 y.2.2]∧aB aq (dT T []) w' v7 y.1.Rules∧aB ac (dT T []) w' v8 y.1.Base.Inputs∧aB aa (dT T []) w' v9 y.1.Base.Records∧aB ad (dT T []) w' ch y.1.Goals∧aB an (dT T []) w' ck y.1.Stack∧aB ad (dT T []) w' cl y.1.Ran):=by
 refine en Tryz.func49 Tryz.ntmps49 hT fun a hS=>?_
 replace hS:=hS.fact bu (c6.dn hLv)
 replace hS:=hS.fS (aB.dn e3)
 replace hS:=hS.fS (aB.dn e4)
 replace hS:=hS.fS (aB.dn e5)
 replace hS:=hS.fS (aB.dn e8)
 replace hS:=hS.fS (aB.dn ea)
 replace hS:=hS.fS (aB.dn ed)
 unfold pA at hM
 refine ai hS fun a hS=>?_
 refine kb hS fun r g8 a w hk hS=>?_
 refine ka hS vA fun t gb a w hk hS=>?_
 refine ai hS fun a hS=>?_
 obtain ⟨Z,c9,hM⟩:=bd hM
 replace hS:=hS.re [] [0,1]
 refine wl rfl (cF hS ES rfl rfl (pX _ _ hS.dltD b _ _ _ _ _ _ hS.dok (hS.getD 5 rfl) (hS.getD 4 rfl) (hS.getD 3 rfl) (hS.getD 2 rfl) (hS.getD 1 rfl) (hS.getD 0 rfl) _ c9) fun _ w hR a hk hA=>?_)
 obtain ⟨bt,f3,c0,f4,c1,f5,c2,f6,c3,fd,c4,fl,he,av,ax,ay,az,b0,b1,co⟩:=hR
 obtain rfl:=he.symm
 have hS:=hA _ co
 replace hS:=hS.fR (av.keep (Kt.refl _ _) (ap _))
 replace hS:=hS.fR (ax.keep (Kt.refl _ _) (ap _))
 replace hS:=hS.fR (ay.keep (Kt.refl _ _) (ap _))
 replace hS:=hS.fR (az.keep (Kt.refl _ _) (ap _))
 replace hS:=hS.fR (b0.keep (Kt.refl _ _) (ap _))
 replace hS:=hS.fR (b1.keep (Kt.refl _ _) (ap _))
 refine go hS fun a w hS=>?_
 refine aw ?_
 refine ai hS fun a hS=>?_
 rcases cd hM with ⟨cs,hM⟩ | ⟨cs,hM⟩
 ·refine go hS fun a w hS=>?_
  replace hS:=hS.freeze (R:=aq) 0 rfl 5 rfl
  replace hS:=hS.freeze (R:=ac) 0 rfl 5 rfl
  replace hS:=hS.freeze (R:=aa) 0 rfl 5 rfl
  replace hS:=hS.freeze (R:=ad) 0 rfl 5 rfl
  replace hS:=hS.freeze (R:=an) 0 rfl 5 rfl
  replace hS:=hS.freeze (R:=ad) 0 rfl 5 rfl
  cases hM
  refine aF hS Tryz.results49 (a8 hS rfl 0 rfl tB rfl (fun h=>by cases h) (ar hS rfl (ar hS rfl aH))) ?_
  exact ⟨bt,c0,c1,c2,c3,c4,rfl,(aB.up trivial (hS.get 5 rfl)),(aB.up trivial (hS.get 4 rfl)),(aB.up trivial (hS.get 3 rfl)),(aB.up trivial (hS.get 2 rfl)),(aB.up trivial (hS.get 1 rfl)),(aB.up trivial (hS.get 0 rfl))⟩
 refine ai hS fun a hS=>?_
 refine aw ?_
 refine ai hS fun a hS=>?_
 have hL:=hS
 replace hL:=hL.freeze (R:=aq) 0 rfl 5 rfl
 replace hL:=hL.freeze (R:=ac) 0 rfl 5 rfl
 replace hL:=hL.freeze (R:=aa) 0 rfl 5 rfl
 replace hL:=hL.freeze (R:=ad) 0 rfl 5 rfl
 replace hL:=hL.freeze (R:=an) 0 rfl 5 rfl
 replace hL:=hL.freeze (R:=ad) 0 rfl 5 rfl
 obtain ⟨gs,ca,hM⟩:=bd hM
 refine kc hS Iy (vN _ _ hL.dlt (hL.get 18 rfl) Z _ _ _ _ _ _ (hL.get 5 rfl) (hL.get 4 rfl) (hL.get 3 rfl) (hL.get 2 rfl) (hL.get 1 rfl) (hL.get 0 rfl) _ ca) fun _ w hR a hk hA=>?_
 obtain rfl:=hR
 have hS:=bM hA
 refine ai hS fun a hS=>?_
 rcases cd hM with ⟨cv,hM⟩ | ⟨cv,hM⟩
 ·refine go hS fun a w hS=>?_
  replace hS:=hS.freeze (R:=aq) 0 rfl 5 rfl
  replace hS:=hS.freeze (R:=ac) 0 rfl 5 rfl
  replace hS:=hS.freeze (R:=aa) 0 rfl 5 rfl
  replace hS:=hS.freeze (R:=ad) 0 rfl 5 rfl
  replace hS:=hS.freeze (R:=an) 0 rfl 5 rfl
  replace hS:=hS.freeze (R:=ad) 0 rfl 5 rfl
  cases hM
  refine aF hS Tryz.results49 (a8 hS rfl 0 rfl tB rfl (fun h=>by cases h) (ar hS rfl (ar hS rfl aH))) ?_
  exact ⟨bt,c0,c1,c2,c3,c4,rfl,(aB.up trivial (hS.get 5 rfl)),(aB.up trivial (hS.get 4 rfl)),(aB.up trivial (hS.get 3 rfl)),(aB.up trivial (hS.get 2 rfl)),(aB.up trivial (hS.get 1 rfl)),(aB.up trivial (hS.get 0 rfl))⟩
 refine ai hS fun a hS=>?_
 replace hS:=hS.freeze (R:=aq) 0 rfl 5 rfl
 replace hS:=hS.freeze (R:=ac) 0 rfl 5 rfl
 replace hS:=hS.freeze (R:=aa) 0 rfl 5 rfl
 obtain ⟨gu,cb,hM⟩:=bd hM
 replace hS:=hS.re [] [0,1,2,3,4]
 refine wl rfl (cF hS ET rfl rfl (qD _ _ hS.dltD Z.Rules Z.Base _ _ _ hS.dok (hS.getD 2 rfl) (hS.getD 1 rfl) (hS.getD 0 rfl) _ cb) fun _ w hR a hk hA=>?_)
 obtain ⟨a3,h0,h1,h2,a4,g3,fn,a5,g4,fr,he,b2,b3,b4,af,ag,d0⟩:=hR
 obtain rfl:=he.symm
 have hS:=hA _ d0
 replace hS:=hS.fS (b2.sub (ap _))
 replace hS:=hS.fS (b3.sub (ap _))
 replace hS:=hS.fS (b4.sub (ap _))
 replace hS:=hS.fM (af.keep (Kt.refl _ _) (ap _))
 replace hS:=hS.fM (ag.keep (Kt.refl _ _) (ap _))
 refine ai hS fun a hS=>?_
 refine aI (J:=fun a w=>∃ (P:Int) (Q:LU) (S:Int) (U:LI) (V:LR) (W:LK) (X:LF) (Y:LK) (x:Value) (L:LV) (z:Value) (A:Value) (B:Value) (C:Value) (D:Value),St W0 No T 50 [(2,pt r 0),(4,pt t 0),(8,.int .i64 P)] [au x L,.box r [z,.int .i64 S,A,B,C,D,x] 88,.box t [.slice none 0 0,.int .i64 0,.slice none 0 0,.slice none 0 0,.slice none 0 0,.slice none 0 0,.slice none 0 0] 88] [aJ aq z Q,aJ ac A U,aJ aa B V,aJ ad C W,aJ an D X,am ad L Y,bu] a w∧pY P Q S U V W X Y=some y) ?_ ?_
 ·skip
  refine ai hS fun a hS=>?_
  replace hS:=hS.freeze (R:=ad) 3 rfl 10 rfl
  replace hS:=hS.freeze (R:=an) 3 rfl 10 rfl
  obtain ⟨r1,e2,hMo1⟩:=bd hM
  refine bB _ (fun s a w=>∃ (u:Int) (k:LU) (l:Int) (m:LI) (n:LR) (o:LK) (p:LF) (q:LK) (d:LU) (e:Int) (f:LI) (g:LR) (i:LB) (j:LL) (E:Value) (M:LV) (N:AM) (a9:Nat) (O:AM) (ab:Nat) (F:Value) (G:Value) (H:Value) (I:Value) (K:Value) (a0:Value) (a1:Value) (a2:Value),(u,k,l,m,n,o,p,q,d,e,f,g,i,j)=s∧St W0 No T 50 [(1,.int .i64 c),(2,pt r 0),(4,pt t 0),(7,pt a3 0),(8,.int .i64 u)] [au E M,.box r [F,.int .i64 l,G,H,I,K,E] 88,.box t [.slice none 0 0,.int .i64 0,.slice none 0 0,.slice none 0 0,.slice none 0 0,.slice none 0 0,.slice none 0 0] 88,om a4 N a9,om a5 O ab,xS a3 a0 e a1 a2 a4 a5] [aJ aq F k,aJ ac G m,aJ aa H n,aJ ad I o,aJ an K p,am ad M q,aJ aq a0 d,aJ ac a1 f,aJ aa a2 g,lL N i,oK O j,bu] a w) e2 ⟨_,_,_,_,_,_,_,_,_,_,_,_,_,_,_,_,_,_,_,_,_,_,_,_,_,_,_,_,rfl,hS.mt [3,5,4,1,2,0] [9,8,7,1,0,10,6,5,4,3,2,22]⟩ ?_
  rintro s a w f1 ⟨u,k,l,m,n,o,p,q,d,e,f,g,i,j,E,M,N,a9,O,ab,F,G,H,I,K,a0,a1,a2,rfl,hS⟩ hM hf1
  have hM:nX vrec c u k l m n o p q d e f g i j=some f1:=hM
  unfold nX at hM
  refine aw ?_
  refine ai hS fun a hS=>?_
  rcases cd hM with ⟨d1,hM⟩ | ⟨d1,hM⟩
  ·refine ai hS fun a hS=>?_
   replace hS:=hS.freeze (R:=ad) 0 rfl 5 rfl
   obtain ⟨gp,c5,hM⟩:=bd hM
   replace hS:=hS.re [4,2,3] [0,1]
   refine wl rfl (cF hS Iz rfl rfl (xq _ _ hS.dltD vrec hvrec (aj.mk d (ah.mk e f g) i j) (cJ.mk k (ah.mk l m n) o p q) _ _ _ _ _ _ _ _ _ _ _ _ _ _ _ _ hS.dok (hS.getD 7 rfl) (hS.getD 8 rfl) (hS.getD 9 rfl) (hS.getD 10 rfl) (hS.getD 11 rfl) (hS.getD 1 rfl) (hS.getD 2 rfl) (hS.getD 3 rfl) (hS.getD 4 rfl) (hS.getD 5 rfl) (hS.getD 0 rfl) (hS.getD 12 rfl) _ c5) fun _ w hR a hk hA=>?_)
   obtain ⟨d6,fs,dc,di,dl,ds,e0,g0,h3,h4,h5,g5,g1,g6,g2,he,b5,b6,b8,b9,bb,bi,d2,bl,bq,bs,ak,ao⟩:=hR
   obtain rfl:=he.symm
   have hS:=hA _ d2
   replace hS:=hS.fR (b5.keep (Kt.refl _ _) (ap _))
   replace hS:=hS.fR (bi.keep (Kt.refl _ _) (ap _))
   replace hS:=hS.fS (b6.sub (ap _))
   replace hS:=hS.fS (b8.sub (ap _))
   replace hS:=hS.fS (b9.sub (ap _))
   replace hS:=hS.fS (bb.sub (ap _))
   replace hS:=hS.fS (bl.sub (ap _))
   replace hS:=hS.fS (bq.sub (ap _))
   replace hS:=hS.fS (bs.sub (ap _))
   replace hS:=hS.fM (ak.keep (Kt.refl _ _) (ap _))
   replace hS:=hS.fM (ao.keep (Kt.refl _ _) (ap _))
   refine ai hS fun a hS=>?_
   refine ka hS vA fun f2 gi a w hk hS=>?_
   refine go hS fun a w hS=>?_
   refine aw ?_
   refine ai hS fun a hS=>?_
   rcases cd hM with ⟨d3,hM⟩ | ⟨d3,hM⟩
   ·refine go hS fun a w hS=>?_
    cases hM
    have hr:=hf1 _ rfl
    subst hr
    replace hMo1:=gT hMo1
    have hM:=hMo1
    cases hM
    refine aF hS Tryz.results49 (a8 hS rfl 7 rfl tB rfl (fun h=>by cases h) (ar hS rfl (ar hS rfl aH))) ?_
    exact ⟨F,G,H,I,K,E,rfl,(aB.up trivial (hS.get 12 rfl)),(aB.up trivial (hS.get 13 rfl)),(aB.up trivial (hS.get 14 rfl)),(aB.up trivial (hS.get 15 rfl)),(aB.up trivial (hS.get 16 rfl)),(aB.up trivial (hS.get 11 rfl))⟩
   refine ai hS fun a hS=>?_
   refine aw ?_
   refine ai hS fun a hS=>?_
   rcases cd hM with ⟨d4,hM⟩ | ⟨d4,hM⟩
   ·refine go hS fun a w hS=>?_
    replace hS:=hS.freeze (R:=aq) 4 rfl 10 rfl
    replace hS:=hS.freeze (R:=ad) 4 rfl 10 rfl
    cases hM
    have hr:=hf1 _ rfl
    subst hr
    replace hMo1:=gT hMo1
    have hM:=hMo1
    cases hM
    refine aF hS Tryz.results49 (a8 hS rfl 5 rfl tB rfl (fun h=>by cases h) (ar hS rfl (ar hS rfl aH))) ?_
    exact ⟨d6,dc,di,dl,ds,e0,rfl,(aB.up trivial (hS.get 1 rfl)),(aB.up trivial (hS.get 10 rfl)),(aB.up trivial (hS.get 9 rfl)),(aB.up trivial (hS.get 8 rfl)),(aB.up trivial (hS.get 7 rfl)),(aB.up trivial (hS.get 0 rfl))⟩
   refine go hS fun a w hS=>?_
   replace hS:=hS.freeze (R:=aq) 4 rfl 10 rfl
   exact ⟨_,(Option.some.inj hM).symm,_,_,_,_,_,_,_,_,_,_,_,_,_,_,_,_,_,_,_,_,_,_,_,_,_,_,_,_,rfl,hS.mt [4,5,6,2,3,1] [0,9,8,7,6,10,5,4,3,2,1,24]⟩
  exact fz
 rintro a w ⟨P,Q,S,U,V,W,X,Y,x,L,z,A,B,C,D,hS,hM⟩
 unfold pY at hM
 refine go hS fun a w hS=>?_
 replace hS:=hS.freeze (R:=ad) 0 rfl 5 rfl
 cases hM
 refine aF hS Tryz.results49 (a8 hS rfl 1 rfl tB rfl (fun h=>by cases h) (ar hS rfl (ar hS rfl aH))) ?_
 exact ⟨z,A,B,C,D,x,rfl,(aB.up trivial (hS.get 1 rfl)),(aB.up trivial (hS.get 2 rfl)),(aB.up trivial (hS.get 3 rfl)),(aB.up trivial (hS.get 4 rfl)),(aB.up trivial (hS.get 5 rfl)),(aB.up trivial (hS.get 0 rfl))⟩
end
end
section
set_option maxRecDepth 100000
set_option maxHeartbeats 4000000
open Go.RowKit
noncomputable section
def eo (c:aC) (b:Bool):Option (Bool×aC):=some ((b,c))
def gg (b:aC) (c:Bool) (e:Int) (f:ByteArray) (g:ByteArray) (h:LK) (i:Int) (d:Int) (j:Int) (k:Bool):Option (Bool×aC):=cond c (eo b ((d:Int) == b.B.Revision)) (eo b false)
def cm (c:aC) (e:ae) (d:Bool):Option (Bool×aC):=cond d (some ((true,c))) ((cr c.B.Records e).bind fun b=>gg c b.2 b.1.Key.Kind b.1.Key.Text b.1.Value b.1.Reads b.1.Changed b.1.Verified b.1.Cost b.1.Dirty)
def fV (c:aC) (b:ae):Option (Bool×aC):=(ci b).bind fun d=>cond d (cm c b true) ((some ((bH aA b c.Busy).getD false)).bind fun e=>cond e ((bZ b).bind fun f=>cm c b f) (cm c b false))
theorem qI (T:Nat→Prop) (W0:World) (hT:TW T W0) (b:aC) (U:ae) (e:Nat) (g:Nat) (z:Value) (A:Value) (C:Value) (h:Nat) (r:Array MapEntry) (u:Nat) (k:Nat) (n:Array MapEntry) (p:Nat) (s:Value) (t:Value) (d:Nat) (o:Array MapEntry) (q:Nat) (f:Value) (m:List Value) (hD:vB T W0 [xE e g b.B.Revision s t d f b.E,xS g z b.S.Base.Revision A C h k,om h r u,om k n p,om d o q,au f m]) (cb:aB aq (dT T [xE e g b.B.Revision s t d f b.E,xS g z b.S.Base.Revision A C h k,om h r u,om k n p,om d o q,au f m]) W0 z b.S.Rules) (ch:aB ac (dT T [xE e g b.B.Revision s t d f b.E,xS g z b.S.Base.Revision A C h k,om h r u,om k n p,om d o q,au f m]) W0 A b.S.Base.Inputs) (ck:aB aa (dT T [xE e g b.B.Revision s t d f b.E,xS g z b.S.Base.Revision A C h k,om h r u,om k n p,om d o q,au f m]) W0 C b.S.Base.Records) (b8:bw ad true aR.str false (dT T [xE e g b.B.Revision s t d f b.E,xS g z b.S.Base.Revision A C h k,om h r u,om k n p,om d o q,au f m]) W0 r b.S.Memo) (ca:bw ad true (aR.slice ad) false (dT T [xE e g b.B.Revision s t d f b.E,xS g z b.S.Base.Revision A C h k,om h r u,om k n p,om d o q,au f m]) W0 n b.S.Seen) (c3:aB ac (dT T [xE e g b.B.Revision s t d f b.E,xS g z b.S.Base.Revision A C h k,om h r u,om k n p,om d o q,au f m]) W0 s b.B.Inputs) (c4:aB aa (dT T [xE e g b.B.Revision s t d f b.E,xS g z b.S.Base.Revision A C h k,om h r u,om k n p,om d o q,au f m]) W0 t b.B.Records) (c2:bw ad true aR.bool false (dT T [xE e g b.B.Revision s t d f b.E,xS g z b.S.Base.Revision A C h k,om h r u,om k n p,om d o q,au f m]) W0 o b.Busy) (c5:aD ad (dT T [xE e g b.B.Revision s t d f b.E,xS g z b.S.Base.Revision A C h k,om h r u,om k n p,om d o q,au f m]) W0 m b.Ran) (y:Bool×aC) (hM:fV b U=some y):aY Tryz.prog (MD [xE e g b.B.Revision s t d f b.E,xS g z b.S.Base.Revision A C h k,om h r u,om k n p,om d o q,au f m]) 139 [pt e 0,.agg (aS U).toArray] W0 (fun v w'=>∃ (M:Value) (O:Value) (P:Value) (F:Array MapEntry) (I:Nat) (G:Array MapEntry) (K:Nat) (Q:Value) (R:Value) (H:Array MapEntry) (L:Nat) (x:Value) (D:List Value),v = .bool y.1∧n8 W0 w' [xE e g b.B.Revision s t d f b.E,xS g z b.S.Base.Revision A C h k,om h r u,om k n p,om d o q,au f m] [xE e g y.2.B.Revision Q R d x y.2.E,xS g M y.2.S.Base.Revision O P h k,om h F I,om k G K,om d H L,au x D]∧aB aq (dT T [xE e g y.2.B.Revision Q R d x y.2.E,xS g M y.2.S.Base.Revision O P h k,om h F I,om k G K,om d H L,au x D]) w' M y.2.S.Rules∧aB ac (dT T [xE e g y.2.B.Revision Q R d x y.2.E,xS g M y.2.S.Base.Revision O P h k,om h F I,om k G K,om d H L,au x D]) w' O y.2.S.Base.Inputs∧aB aa (dT T [xE e g y.2.B.Revision Q R d x y.2.E,xS g M y.2.S.Base.Revision O P h k,om h F I,om k G K,om d H L,au x D]) w' P y.2.S.Base.Records∧bw ad true aR.str false (dT T [xE e g y.2.B.Revision Q R d x y.2.E,xS g M y.2.S.Base.Revision O P h k,om h F I,om k G K,om d H L,au x D]) w' F y.2.S.Memo∧bw ad true (aR.slice ad) false (dT T [xE e g y.2.B.Revision Q R d x y.2.E,xS g M y.2.S.Base.Revision O P h k,om h F I,om k G K,om d H L,au x D]) w' G y.2.S.Seen∧aB ac (dT T [xE e g y.2.B.Revision Q R d x y.2.E,xS g M y.2.S.Base.Revision O P h k,om h F I,om k G K,om d H L,au x D]) w' Q y.2.B.Inputs∧aB aa (dT T [xE e g y.2.B.Revision Q R d x y.2.E,xS g M y.2.S.Base.Revision O P h k,om h F I,om k G K,om d H L,au x D]) w' R y.2.B.Records∧bw ad true aR.bool false (dT T [xE e g y.2.B.Revision Q R d x y.2.E,xS g M y.2.S.Base.Revision O P h k,om h F I,om k G K,om d H L,au x D]) w' H y.2.Busy∧aD ad (dT T [xE e g y.2.B.Revision Q R d x y.2.E,xS g M y.2.S.Base.Revision O P h k,om h F I,om k G K,om d H L,au x D]) w' D y.2.Ran):=by
 refine kk (c:=_) Tryz.func139 rfl T 42 Tryz.ntmps139 hT rfl hD fun a hS=>?_
 replace hS:=hS.fS cb
 replace hS:=hS.fS ch
 replace hS:=hS.fS ck
 replace hS:=hS.fM b8
 replace hS:=hS.fM ca
 replace hS:=hS.fS c3
 replace hS:=hS.fS c4
 replace hS:=hS.fM c2
 replace hS:=hS.fR c5
 unfold fV at hM
 refine ai hS fun a hS=>?_
 refine kb hS fun ak cv a w hk hS=>?_
 refine ai hS fun a hS=>?_
 refine aw ?_
 refine aI (J:=fun a w=>∃ (Y:Bool),St W0 (MD [xE e g b.B.Revision s t d f b.E,xS g z b.S.Base.Revision A C h k,om h r u,om k n p,om d o q,au f m]) T 42 [(0,pt e 0),(3,pt ak 0),(20,.bool Y)] [om d o q,au f m,xE e g b.B.Revision s t d f b.E,.box ak (aS U) 35,om h r u,om k n p,xS g z b.S.Base.Revision A C h k] [aJ ac s b.B.Inputs,aJ aa t b.B.Records,rE o b.Busy,am ad m b.Ran,aJ aq z b.S.Rules,aJ ac A b.S.Base.Inputs,aJ aa C b.S.Base.Records,lL r b.S.Memo,oK n b.S.Seen] a w∧cm b U Y=some y) ?_ ?_
 ·skip
  refine dr [] hS fun w hQ hS=>?_
  refine gE [0] hS fun a hS=>?_
  obtain ⟨d1,b0,hM⟩:=bd hM
  refine ec 1 hS uD (dt _ _ hS.dlt U _ b0) fun _ w hR a hk hA=>?_
  obtain rfl:=hR
  have hS:=bM hA
  refine gE [2] hS fun a hS=>?_
  rcases cd hM with ⟨ao,hM⟩ | ⟨ao,hM⟩
  ·refine gE [3,4,5,6,7,8,9,10,11,12,13] hS fun a hS=>?_
   refine eD ?_
   exact ⟨_,hS.mt [5,6,1,0,3,4,2] [3,2,1,0,8,7,6,5,4],hM⟩
  refine gE [3,4,5,6,7] hS fun a hS=>?_
  obtain ⟨c9,b1,hM⟩:=bd hM
  obtain ⟨cl,bb,bi⟩:=jT hS rD dE 5 rfl 1 rfl (c:=(aS U)) (key:=U) rfl Gn (zc:=[.bool false]) rfl rfl b1
  obtain rfl:=bb
  refine we (l:=[]) 8 (v:=.bool c9) rfl (by kernel_rfl) (by kernel_rfl) (by kernel_rfl) (by kernel_rfl) hQ hS (bi rfl rfl bE) rfl rfl rfl ao rfl rfl fun a hS=>?_
  refine gE [9] hS fun a hS=>?_
  rcases cd hM with ⟨av,hM⟩ | ⟨av,hM⟩
  ·refine gE [10] hS fun a hS=>?_
   obtain ⟨d2,b3,hM⟩:=bd hM
   refine bV (i:=11) rfl (by kernel_rfl) hS rfl rfl rfl av (a7 hS s7 rfl rfl (cq _ _ hS.dlt U _ b3) fun _ w hR a hk hA=>⟨fx (hk),?_⟩)
   obtain rfl:=hR
   have hS:=bM hA
   refine gE [12,13] hS fun a hS=>?_
   refine eD ?_
   exact ⟨_,hS.mt [5,6,1,0,3,4,2] [3,2,1,0,8,7,6,5,4],hM⟩
  refine gE [10,11,12,13] hS fun a hS=>?_
  refine eD ?_
  exact ⟨_,hS.mt [5,6,1,0,3,4,2] [3,2,1,0,8,7,6,5,4],hM⟩
 rintro a w ⟨Y,hS,hM⟩
 unfold cm at hM
 rcases cd hM with ⟨bl,hM⟩ | ⟨bl,hM⟩
 ·refine ai hS fun a hS=>?_
  cases hM
  refine aF hS rfl (ar hS rfl aH) ?_
  have hZ:=hS.sl [2,6,4,5,0,1] [4,5,6,7,8,0,1,2,3]
  exact ⟨z,A,C,r,u,n,p,s,t,o,q,f,m,rfl,hZ.dnew,(hZ.get 0 rfl),(hZ.get 1 rfl),(hZ.get 2 rfl),(hZ.get 3 rfl),(hZ.get 4 rfl),(hZ.get 5 rfl),(hZ.get 6 rfl),(hZ.get 7 rfl),(hZ.get 8 rfl)⟩
 refine ai hS fun a hS=>?_
 refine aI (J:=fun a w=>∃ (Z:Bool) (a0:Int) (a1:ByteArray) (a2:ByteArray) (a3:LK) (a4:Int) (a5:Int) (a9:Int) (ab:Bool) (V:Nat) (af:Value) (W:LV),St W0 (MD [xE e g b.B.Revision s t d f b.E,xS g z b.S.Base.Revision A C h k,om h r u,om k n p,om d o q,au f m]) T 42 [(0,pt e 0),(5,pt V 0),(6,.bool Z)] [om d o q,au f m,xE e g b.B.Revision s t d f b.E,au af W,.box V [.int .i64 a0,.string a1,.string a2,af,.int .i64 a4,.int .i64 a5,.int .i64 a9,.bool ab] 77,om h r u,om k n p,xS g z b.S.Base.Revision A C h k] [aJ ac s b.B.Inputs,aJ aa t b.B.Records,rE o b.Busy,am ad m b.Ran,am ad W a3,aJ aq z b.S.Rules,aJ ac A b.S.Base.Inputs,aJ aa C b.S.Base.Records,lL r b.S.Memo,oK n b.S.Seen] a w∧gg b Z a0 a1 a2 a3 a4 a5 a9 ab=some y) ?_ ?_
 ·skip
  obtain ⟨N128,az⟩:∃ N,N=w.heap.size:=⟨_,rfl⟩
  replace hS:=hS.fact (Ak N128) (Nat.le_of_eq az)
  refine dr [(11,.new N128)] hS fun w hQ hS=>?_
  refine gE [0,1,2,3,4,5] hS fun a hS=>?_
  obtain ⟨d0,ag,hM⟩:=bd hM
  refine dU (i:=6) (j:=10) rfl rfl (by kernel_rfl) rfl rfl ?_ ?_
  ·skip
   skip
   refine id (a7 hS kr rfl rfl (bF _ _ hS.dlt b.B.Records U _ (hS.get 2 rfl) _ ag) fun _ w hR a hk hA=>⟨fx (hk),?_⟩)
   obtain ⟨d3,co,he,ax⟩:=hR
   obtain rfl:=he.symm
   have hS:=pd hA ax
   refine gE [7,8,9] hS fun a hS=>?_
   have bq:=(hS.get 1 rfl:N128≤w.heap.size)
   refine e1 10 (cE hS fJ rfl fun b4 bs a w hk hS=>⟨fx (hk),?_⟩)
   refine cN 11 (.blk (some b4)) _ (by kernel_rfl) (my (Nat.le_trans bq bs)) ?_
   refine es 11 hS fun w hS=>?_
   refine gE [12] hS fun a hS=>?_
   refine eD ?_
   exact ⟨_,_,_,_,_,_,_,_,_,_,_,_,hS.mt [2,3,4,1,0,6,7,8] [2,3,4,5,0,6,7,8,9,10],hM⟩
  skip
  have bt:=(hS.get 0 rfl:N128≤w.heap.size)
  refine id (cE hS fJ rfl fun b5 c0 a w hk hS=>⟨fx (hk),?_⟩)
  refine cN 11 (.blk (some b5)) _ (by kernel_rfl) (my (Nat.le_trans bt c0)) ?_
  refine ec 6 hS kr (bF _ _ hS.dlt b.B.Records U _ (hS.get 2 rfl) _ ag) fun _ w hR a hk hA=>?_
  obtain ⟨d4,cs,he,ay⟩:=hR
  obtain rfl:=he.symm
  have hS:=pd hA ay
  refine gE [7,8,9] hS fun a hS=>?_
  refine es 11 hS fun w hS=>?_
  refine gE [12] hS fun a hS=>?_
  refine eD ?_
  exact ⟨_,_,_,_,_,_,_,_,_,_,_,_,hS.mt [2,3,4,0,1,6,7,8] [2,3,4,5,0,6,7,8,9,10],hM⟩
 rintro a w ⟨Z,a0,a1,a2,a3,a4,a5,a9,ab,V,af,W,hS,hM⟩
 unfold gg at hM
 refine aI (J:=fun a w=>∃ (X:Bool),St W0 (MD [xE e g b.B.Revision s t d f b.E,xS g z b.S.Base.Revision A C h k,om h r u,om k n p,om d o q,au f m]) T 42 [(4,.bool X)] [om d o q,au f m,xE e g b.B.Revision s t d f b.E,om h r u,om k n p,xS g z b.S.Base.Revision A C h k] [aJ ac s b.B.Inputs,aJ aa t b.B.Records,rE o b.Busy,am ad m b.Ran,aJ aq z b.S.Rules,aJ ac A b.S.Base.Inputs,aJ aa C b.S.Base.Records,lL r b.S.Memo,oK n b.S.Seen] a w∧eo b X=some y) ?_ ?_
 ·skip
  refine dr [] hS fun w hQ hS=>?_
  refine gE [0,1] hS fun a hS=>?_
  rcases cd hM with ⟨c1,hM⟩ | ⟨c1,hM⟩
  ·refine gE [2,3,4,5,6,7,8,9,10,11] hS fun a hS=>?_
   refine eD ?_
   exact ⟨_,hS.mt [0,1,2,5,6,7] [0,1,2,3,5,6,7,8,9],hM⟩
  refine gE [2,3,4,5,6,7,8,9,10,11] hS fun a hS=>?_
  refine eD ?_
  exact ⟨_,hS.mt [0,1,2,5,6,7] [0,1,2,3,5,6,7,8,9],hM⟩
 rintro a w ⟨X,hS,hM⟩
 unfold eo at hM
 refine ai hS fun a hS=>?_
 cases hM
 refine aF hS rfl (ar hS rfl aH) ?_
 have hZ:=hS.sl [2,5,3,4,0,1] [4,5,6,7,8,0,1,2,3]
 exact ⟨z,A,C,r,u,n,p,s,t,o,q,f,m,rfl,hZ.dnew,(hZ.get 0 rfl),(hZ.get 1 rfl),(hZ.get 2 rfl),(hZ.get 3 rfl),(hZ.get 4 rfl),(hZ.get 5 rfl),(hZ.get 6 rfl),(hZ.get 7 rfl),(hZ.get 8 rfl)⟩
def qO (urec:aC→ae→Option aC):Prop:=∀ (T:Nat→Prop) (W0:World) (hT:∀ k,T k→k < W0.heap.size) (g:aC) (N:ae) (i:Nat) (c:Nat) (K:Value) (L:Value) (M:Value) (d:Nat) (t:Array MapEntry) (z:Nat) (e:Nat) (l:Array MapEntry) (n:Nat) (u:Value) (x:Value) (b:Nat) (m:Array MapEntry) (o:Nat) (f:Value) (j:List Value) (hD:vB T W0 [.box i [.pointer (some ⟨c,0,none⟩),.int .i64 g.B.Revision,u,x,.map (some b),f,.int .i64 g.E] 128,.box c [K,.int .i64 g.S.Base.Revision,L,M,.map (some d),.map (some e)] 146,.obj d (.map t z),.obj e (.map l n),.obj b (.map m o),.own f 35 ad.size j]) (W:aB aq (dT T [.box i [.pointer (some ⟨c,0,none⟩),.int .i64 g.B.Revision,u,x,.map (some b),f,.int .i64 g.E] 128,.box c [K,.int .i64 g.S.Base.Revision,L,M,.map (some d),.map (some e)] 146,.obj d (.map t z),.obj e (.map l n),.obj b (.map m o),.own f 35 ad.size j]) W0 K g.S.Rules) (X:aB ac (dT T [.box i [.pointer (some ⟨c,0,none⟩),.int .i64 g.B.Revision,u,x,.map (some b),f,.int .i64 g.E] 128,.box c [K,.int .i64 g.S.Base.Revision,L,M,.map (some d),.map (some e)] 146,.obj d (.map t z),.obj e (.map l n),.obj b (.map m o),.own f 35 ad.size j]) W0 L g.S.Base.Inputs) (Y:aB aa (dT T [.box i [.pointer (some ⟨c,0,none⟩),.int .i64 g.B.Revision,u,x,.map (some b),f,.int .i64 g.E] 128,.box c [K,.int .i64 g.S.Base.Revision,L,M,.map (some d),.map (some e)] 146,.obj d (.map t z),.obj e (.map l n),.obj b (.map m o),.own f 35 ad.size j]) W0 M g.S.Base.Records) (U:bw ad true aR.str false (dT T [.box i [.pointer (some ⟨c,0,none⟩),.int .i64 g.B.Revision,u,x,.map (some b),f,.int .i64 g.E] 128,.box c [K,.int .i64 g.S.Base.Revision,L,M,.map (some d),.map (some e)] 146,.obj d (.map t z),.obj e (.map l n),.obj b (.map m o),.own f 35 ad.size j]) W0 t g.S.Memo) (V:bw ad true (aR.slice ad) false (dT T [.box i [.pointer (some ⟨c,0,none⟩),.int .i64 g.B.Revision,u,x,.map (some b),f,.int .i64 g.E] 128,.box c [K,.int .i64 g.S.Base.Revision,L,M,.map (some d),.map (some e)] 146,.obj d (.map t z),.obj e (.map l n),.obj b (.map m o),.own f 35 ad.size j]) W0 l g.S.Seen) (P:aB ac (dT T [.box i [.pointer (some ⟨c,0,none⟩),.int .i64 g.B.Revision,u,x,.map (some b),f,.int .i64 g.E] 128,.box c [K,.int .i64 g.S.Base.Revision,L,M,.map (some d),.map (some e)] 146,.obj d (.map t z),.obj e (.map l n),.obj b (.map m o),.own f 35 ad.size j]) W0 u g.B.Inputs) (Q:aB aa (dT T [.box i [.pointer (some ⟨c,0,none⟩),.int .i64 g.B.Revision,u,x,.map (some b),f,.int .i64 g.E] 128,.box c [K,.int .i64 g.S.Base.Revision,L,M,.map (some d),.map (some e)] 146,.obj d (.map t z),.obj e (.map l n),.obj b (.map m o),.own f 35 ad.size j]) W0 x g.B.Records) (O:bw ad true aR.bool false (dT T [.box i [.pointer (some ⟨c,0,none⟩),.int .i64 g.B.Revision,u,x,.map (some b),f,.int .i64 g.E] 128,.box c [K,.int .i64 g.S.Base.Revision,L,M,.map (some d),.map (some e)] 146,.obj d (.map t z),.obj e (.map l n),.obj b (.map m o),.own f 35 ad.size j]) W0 m g.Busy) (R:aD ad (dT T [.box i [.pointer (some ⟨c,0,none⟩),.int .i64 g.B.Revision,u,x,.map (some b),f,.int .i64 g.E] 128,.box c [K,.int .i64 g.S.Base.Revision,L,M,.map (some d),.map (some e)] 146,.obj d (.map t z),.obj e (.map l n),.obj b (.map m o),.own f 35 ad.size j]) W0 j g.Ran) (hLv:c6 (dT T [.box i [.pointer (some ⟨c,0,none⟩),.int .i64 g.B.Revision,u,x,.map (some b),f,.int .i64 g.E] 128,.box c [K,.int .i64 g.S.Base.Revision,L,M,.map (some d),.map (some e)] 146,.obj d (.map t z),.obj e (.map l n),.obj b (.map m o),.own f 35 ad.size j]) W0) (y:aC) (hM:urec g N=some y),aY Tryz.prog (MD [.box i [.pointer (some ⟨c,0,none⟩),.int .i64 g.B.Revision,u,x,.map (some b),f,.int .i64 g.E] 128,.box c [K,.int .i64 g.S.Base.Revision,L,M,.map (some d),.map (some e)] 146,.obj d (.map t z),.obj e (.map l n),.obj b (.map m o),.own f 35 ad.size j]) 85 [.pointer (some ⟨i,0,none⟩),.agg #[.int .i64 N.Kind,.string N.Text]] W0 (fun v w'=>∃ (F:Value) (G:Value) (H:Value) (q:Array MapEntry) (A:Nat) (r:Array MapEntry) (C:Nat) (I:Value) (J:Value) (s:Array MapEntry) (D:Nat) (h:Value) (p:List Value),v = .tuple #[]∧n8 W0 w' [.box i [.pointer (some ⟨c,0,none⟩),.int .i64 g.B.Revision,u,x,.map (some b),f,.int .i64 g.E] 128,.box c [K,.int .i64 g.S.Base.Revision,L,M,.map (some d),.map (some e)] 146,.obj d (.map t z),.obj e (.map l n),.obj b (.map m o),.own f 35 ad.size j] [.box i [.pointer (some ⟨c,0,none⟩),.int .i64 y.B.Revision,I,J,.map (some b),h,.int .i64 y.E] 128,.box c [F,.int .i64 y.S.Base.Revision,G,H,.map (some d),.map (some e)] 146,.obj d (.map q A),.obj e (.map r C),.obj b (.map s D),.own h 35 ad.size p]∧aB aq (dT T [.box i [.pointer (some ⟨c,0,none⟩),.int .i64 y.B.Revision,I,J,.map (some b),h,.int .i64 y.E] 128,.box c [F,.int .i64 y.S.Base.Revision,G,H,.map (some d),.map (some e)] 146,.obj d (.map q A),.obj e (.map r C),.obj b (.map s D),.own h 35 ad.size p]) w' F y.S.Rules∧aB ac (dT T [.box i [.pointer (some ⟨c,0,none⟩),.int .i64 y.B.Revision,I,J,.map (some b),h,.int .i64 y.E] 128,.box c [F,.int .i64 y.S.Base.Revision,G,H,.map (some d),.map (some e)] 146,.obj d (.map q A),.obj e (.map r C),.obj b (.map s D),.own h 35 ad.size p]) w' G y.S.Base.Inputs∧aB aa (dT T [.box i [.pointer (some ⟨c,0,none⟩),.int .i64 y.B.Revision,I,J,.map (some b),h,.int .i64 y.E] 128,.box c [F,.int .i64 y.S.Base.Revision,G,H,.map (some d),.map (some e)] 146,.obj d (.map q A),.obj e (.map r C),.obj b (.map s D),.own h 35 ad.size p]) w' H y.S.Base.Records∧bw ad true aR.str false (dT T [.box i [.pointer (some ⟨c,0,none⟩),.int .i64 y.B.Revision,I,J,.map (some b),h,.int .i64 y.E] 128,.box c [F,.int .i64 y.S.Base.Revision,G,H,.map (some d),.map (some e)] 146,.obj d (.map q A),.obj e (.map r C),.obj b (.map s D),.own h 35 ad.size p]) w' q y.S.Memo∧bw ad true (aR.slice ad) false (dT T [.box i [.pointer (some ⟨c,0,none⟩),.int .i64 y.B.Revision,I,J,.map (some b),h,.int .i64 y.E] 128,.box c [F,.int .i64 y.S.Base.Revision,G,H,.map (some d),.map (some e)] 146,.obj d (.map q A),.obj e (.map r C),.obj b (.map s D),.own h 35 ad.size p]) w' r y.S.Seen∧aB ac (dT T [.box i [.pointer (some ⟨c,0,none⟩),.int .i64 y.B.Revision,I,J,.map (some b),h,.int .i64 y.E] 128,.box c [F,.int .i64 y.S.Base.Revision,G,H,.map (some d),.map (some e)] 146,.obj d (.map q A),.obj e (.map r C),.obj b (.map s D),.own h 35 ad.size p]) w' I y.B.Inputs∧aB aa (dT T [.box i [.pointer (some ⟨c,0,none⟩),.int .i64 y.B.Revision,I,J,.map (some b),h,.int .i64 y.E] 128,.box c [F,.int .i64 y.S.Base.Revision,G,H,.map (some d),.map (some e)] 146,.obj d (.map q A),.obj e (.map r C),.obj b (.map s D),.own h 35 ad.size p]) w' J y.B.Records∧bw ad true aR.bool false (dT T [.box i [.pointer (some ⟨c,0,none⟩),.int .i64 y.B.Revision,I,J,.map (some b),h,.int .i64 y.E] 128,.box c [F,.int .i64 y.S.Base.Revision,G,H,.map (some d),.map (some e)] 146,.obj d (.map q A),.obj e (.map r C),.obj b (.map s D),.own h 35 ad.size p]) w' s y.Busy∧aD ad (dT T [.box i [.pointer (some ⟨c,0,none⟩),.int .i64 y.B.Revision,I,J,.map (some b),h,.int .i64 y.E] 128,.box c [F,.int .i64 y.S.Base.Revision,G,H,.map (some d),.map (some e)] 146,.obj d (.map q A),.obj e (.map r C),.obj b (.map s D),.own h 35 ad.size p]) w' p y.Ran)
def je (h:Int) (i:LI) (j:LR) (k:LO) (l:LK) (m:Int) (b:LU) (c:Int) (d:LI) (e:LR) (f:LB) (g:LL):Option (Bool×aC):=some ((false,(aC.mk (aj.mk b (ah.mk c d e) f g) (ah.mk h i j) k l m)))
def gc (c:(Bool×aC)) (b:(Int×aj)) (d:Int) (e:LI) (f:LR):Option (Fl (Int×Int×LI×LR×LO×LK×Int×LU×Int×LI×LR×LB×LL) (Fl (Int×LI×LR×LO×LK×Int×LU×Int×LI×LR×LB×LL) (Bool×aC))):=some (.out (.out (true,(aC.mk (aj.mk b.2.Rules (ah.mk b.2.Base.Revision b.2.Base.Inputs b.2.Base.Records) b.2.Memo b.2.Seen) (ah.mk d e f) c.2.Busy c.2.Ran c.2.E))))
def ge (vrec:aj→ae→Option (ByteArray×aj)) (j:ae) (e:Int) (h:LK) (f:cy) (b:(Bool×aC)) (k:Int) (l:ByteArray) (m:ByteArray) (n:LK) (o:Int) (g:Int) (p:Int) (q:Bool):Option (Fl (Int×Int×LI×LR×LO×LK×Int×LU×Int×LI×LR×LB×LL) (Fl (Int×LI×LR×LO×LK×Int×LU×Int×LI×LR×LB×LL) (Bool×aC))):=(i7 vrec (aj.mk b.2.S.Rules (ah.mk b.2.S.Base.Revision b.2.S.Base.Inputs b.2.S.Base.Records) b.2.S.Memo b.2.S.Seen) (ah.mk b.2.B.Revision b.2.B.Inputs b.2.B.Records) f.Read).bind fun c=>cond (decide ((g:Int) < c.1)) ((bZ j).bind fun i=>cond i ((jJ (ah.mk b.2.B.Revision b.2.B.Inputs b.2.B.Records) h true).bind fun d=>gc b c d.Revision d.Inputs d.Records) (gc b c b.2.B.Revision b.2.B.Inputs b.2.B.Records)) (some (.go (IntKind.i64.wrap (e + 1),b.2.B.Revision,b.2.B.Inputs,b.2.B.Records,b.2.Busy,b.2.Ran,b.2.E,c.2.Rules,c.2.Base.Revision,c.2.Base.Inputs,c.2.Base.Records,c.2.Memo,c.2.Seen)))
def gf (urec:aC→ae→Option aC) (vrec:aj→ae→Option (ByteArray×aj)) (u:ae) (q:Int) (e:Int) (m:LI) (f:LR) (n:LO) (o:LK) (p:Int) (g:LU) (h:Int) (i:LI) (j:LR) (k:LB) (l:LL) (v:Bool) (A:Int) (C:ByteArray) (D:ByteArray) (F:LK) (G:Int) (x:Int) (H:Int) (y:Bool):Option (Fl (Int×Int×LI×LR×LO×LK×Int×LU×Int×LI×LR×LB×LL) (Fl (Int×LI×LR×LO×LK×Int×LU×Int×LI×LR×LB×LL) (Bool×aC))):=cond (!(v)) (some (.out (.out (true,(aC.mk (aj.mk g (ah.mk h i j) k l) (ah.mk e m f) n o p))))) (cond y (some (.out (.out (true,(aC.mk (aj.mk g (ah.mk h i j) k l) (ah.mk e m f) n o p))))) (cond ((x:Int) == e) (some (.out (.out (false,(aC.mk (aj.mk g (ah.mk h i j) k l) (ah.mk e m f) n o p))))) ((kK f e u).bind fun s=>(gA f s).bind fun t=>cond (decide (((t.length:Int):Int)≤q)) ((jJ (ah.mk e m f) s false).bind fun z=>some (.out (.out (false,(aC.mk (aj.mk g (ah.mk h i j) k l) z n o p))))) ((bm t q).bind fun r=>(fV (aC.mk (aj.mk g (ah.mk h i j) k l) (ah.mk e m f) n o p) r.Read).bind fun b=>cond (!(b.1)) ((urec (aC.mk (aj.mk b.2.S.Rules (ah.mk b.2.S.Base.Revision b.2.S.Base.Inputs b.2.S.Base.Records) b.2.S.Memo b.2.S.Seen) (ah.mk b.2.B.Revision b.2.B.Inputs b.2.B.Records) b.2.Busy b.2.Ran b.2.E) r.Read).bind fun c=>some (.go (q,c.B.Revision,c.B.Inputs,c.B.Records,c.Busy,c.Ran,c.E,c.S.Rules,c.S.Base.Revision,c.S.Base.Inputs,c.S.Base.Records,c.S.Memo,c.S.Seen))) ((cr b.2.B.Records r.Member).bind fun d=>ge vrec u q s r b d.1.Key.Kind d.1.Key.Text d.1.Value d.1.Reads d.1.Changed d.1.Verified d.1.Cost d.1.Dirty)))))
def em (urec:aC→ae→Option aC) (vrec:aj→ae→Option (ByteArray×aj)) (o:ae) (p:Int) (k:Int) (l:LI) (c:LR) (m:LO) (n:LK) (d:Int) (e:LU) (f:Int) (g:LI) (h:LR) (i:LB) (j:LL):Option (Fl (Int×Int×LI×LR×LO×LK×Int×LU×Int×LI×LR×LB×LL) (Fl (Int×LI×LR×LO×LK×Int×LU×Int×LI×LR×LB×LL) (Bool×aC))):=cond ((d:Int) == 0) ((cr c o).bind fun b=>gf urec vrec o p k l c m n d e f g h i j b.2 b.1.Key.Kind b.1.Key.Text b.1.Value b.1.Reads b.1.Changed b.1.Verified b.1.Cost b.1.Dirty) (some (.out (.go (k,l,c,m,n,d,e,f,g,h,i,j))))
def eA (urec:aC→ae→Option aC) (vrec:aj→ae→Option (ByteArray×aj)) (b:aC) (c:ae):Option (Bool×aC):=(loop (fun s:Int×Int×LI×LR×LO×LK×Int×LU×Int×LI×LR×LB×LL=>em urec vrec c s.1 s.2.1 s.2.2.1 s.2.2.2.1 s.2.2.2.2.1 s.2.2.2.2.2.1 s.2.2.2.2.2.2.1 s.2.2.2.2.2.2.2.1 s.2.2.2.2.2.2.2.2.1 s.2.2.2.2.2.2.2.2.2.1 s.2.2.2.2.2.2.2.2.2.2.1 s.2.2.2.2.2.2.2.2.2.2.2.1 s.2.2.2.2.2.2.2.2.2.2.2.2) (0,b.B.Revision,b.B.Inputs,b.B.Records,b.Busy,b.Ran,b.E,b.S.Rules,b.S.Base.Revision,b.S.Base.Inputs,b.S.Base.Records,b.S.Memo,b.S.Seen)).bind fun r=>Fl.el r (fun s=>je s.1 s.2.1 s.2.2.1 s.2.2.2.1 s.2.2.2.2.1 s.2.2.2.2.2.1 s.2.2.2.2.2.2.1 s.2.2.2.2.2.2.2.1 s.2.2.2.2.2.2.2.2.1 s.2.2.2.2.2.2.2.2.2.1 s.2.2.2.2.2.2.2.2.2.2.1 s.2.2.2.2.2.2.2.2.2.2.2) (fun y=>some (y))
theorem qH (T:Nat→Prop) (W0:World) (hT:TW T W0) (urec:aC→ae→Option aC) (hurec:qO urec) (vrec:aj→ae→Option (ByteArray×aj)) (hvrec:lr vrec) (d:aC) (a5:ae) (f:Nat) (m:Nat) (v3:Value) (v4:Value) (t:Value) (n:Nat) (C:Array MapEntry) (F:Nat) (o:Nat) (q:Array MapEntry) (x:Nat) (D:Value) (u:Value) (b:Nat) (r:Array MapEntry) (z:Nat) (g:Value) (p:List Value) (hD:vB T W0 [xE f m d.B.Revision D u b g d.E,xS m v3 d.S.Base.Revision v4 t n o,om n C F,om o q x,om b r z,au g p]) (ok:aB aq (dT T [xE f m d.B.Revision D u b g d.E,xS m v3 d.S.Base.Revision v4 t n o,om n C F,om o q x,om b r z,au g p]) W0 v3 d.S.Rules) (op:aB ac (dT T [xE f m d.B.Revision D u b g d.E,xS m v3 d.S.Base.Revision v4 t n o,om n C F,om o q x,om b r z,au g p]) W0 v4 d.S.Base.Inputs) (jc:aB aa (dT T [xE f m d.B.Revision D u b g d.E,xS m v3 d.S.Base.Revision v4 t n o,om n C F,om o q x,om b r z,au g p]) W0 t d.S.Base.Records) (of:bw ad true aR.str false (dT T [xE f m d.B.Revision D u b g d.E,xS m v3 d.S.Base.Revision v4 t n o,om n C F,om o q x,om b r z,au g p]) W0 C d.S.Memo) (oi:bw ad true (aR.slice ad) false (dT T [xE f m d.B.Revision D u b g d.E,xS m v3 d.S.Base.Revision v4 t n o,om n C F,om o q x,om b r z,au g p]) W0 q d.S.Seen) (nl:aB ac (dT T [xE f m d.B.Revision D u b g d.E,xS m v3 d.S.Base.Revision v4 t n o,om n C F,om o q x,om b r z,au g p]) W0 D d.B.Inputs) (js:aB aa (dT T [xE f m d.B.Revision D u b g d.E,xS m v3 d.S.Base.Revision v4 t n o,om n C F,om o q x,om b r z,au g p]) W0 u d.B.Records) (ng:bw ad true aR.bool false (dT T [xE f m d.B.Revision D u b g d.E,xS m v3 d.S.Base.Revision v4 t n o,om n C F,om o q x,om b r z,au g p]) W0 r d.Busy) (k0:aD ad (dT T [xE f m d.B.Revision D u b g d.E,xS m v3 d.S.Base.Revision v4 t n o,om n C F,om o q x,om b r z,au g p]) W0 p d.Ran) (hLv:c6 (dT T [xE f m d.B.Revision D u b g d.E,xS m v3 d.S.Base.Revision v4 t n o,om n C F,om o q x,om b r z,au g p]) W0) (y:Bool×aC) (hM:eA urec vrec d a5=some y):aY Tryz.prog (MD [xE f m d.B.Revision D u b g d.E,xS m v3 d.S.Base.Revision v4 t n o,om n C F,om o q x,om b r z,au g p]) 116 [pt f 0,.agg (aS a5).toArray] W0 (fun v w'=>∃ (M:Value) (ak:Value) (ao:Value) (I:Array MapEntry) (O:Nat) (K:Array MapEntry) (P:Nat) (av:Value) (ax:Value) (L:Array MapEntry) (Q:Nat) (A:Value) (H:List Value),v = .bool y.1∧n8 W0 w' [xE f m d.B.Revision D u b g d.E,xS m v3 d.S.Base.Revision v4 t n o,om n C F,om o q x,om b r z,au g p] [xE f m y.2.B.Revision av ax b A y.2.E,xS m M y.2.S.Base.Revision ak ao n o,om n I O,om o K P,om b L Q,au A H]∧aB aq (dT T [xE f m y.2.B.Revision av ax b A y.2.E,xS m M y.2.S.Base.Revision ak ao n o,om n I O,om o K P,om b L Q,au A H]) w' M y.2.S.Rules∧aB ac (dT T [xE f m y.2.B.Revision av ax b A y.2.E,xS m M y.2.S.Base.Revision ak ao n o,om n I O,om o K P,om b L Q,au A H]) w' ak y.2.S.Base.Inputs∧aB aa (dT T [xE f m y.2.B.Revision av ax b A y.2.E,xS m M y.2.S.Base.Revision ak ao n o,om n I O,om o K P,om b L Q,au A H]) w' ao y.2.S.Base.Records∧bw ad true aR.str false (dT T [xE f m y.2.B.Revision av ax b A y.2.E,xS m M y.2.S.Base.Revision ak ao n o,om n I O,om o K P,om b L Q,au A H]) w' I y.2.S.Memo∧bw ad true (aR.slice ad) false (dT T [xE f m y.2.B.Revision av ax b A y.2.E,xS m M y.2.S.Base.Revision ak ao n o,om n I O,om o K P,om b L Q,au A H]) w' K y.2.S.Seen∧aB ac (dT T [xE f m y.2.B.Revision av ax b A y.2.E,xS m M y.2.S.Base.Revision ak ao n o,om n I O,om o K P,om b L Q,au A H]) w' av y.2.B.Inputs∧aB aa (dT T [xE f m y.2.B.Revision av ax b A y.2.E,xS m M y.2.S.Base.Revision ak ao n o,om n I O,om o K P,om b L Q,au A H]) w' ax y.2.B.Records∧bw ad true aR.bool false (dT T [xE f m y.2.B.Revision av ax b A y.2.E,xS m M y.2.S.Base.Revision ak ao n o,om n I O,om o K P,om b L Q,au A H]) w' L y.2.Busy∧aD ad (dT T [xE f m y.2.B.Revision av ax b A y.2.E,xS m M y.2.S.Base.Revision ak ao n o,om n I O,om o K P,om b L Q,au A H]) w' H y.2.Ran):=by
 refine kk (c:=_) Tryz.func116 rfl T 125 Tryz.ntmps116 hT rfl hD fun a hS=>?_
 replace hS:=hS.fact bu hLv
 replace hS:=hS.fS ok
 replace hS:=hS.fS op
 replace hS:=hS.fS jc
 replace hS:=hS.fM of
 replace hS:=hS.fM oi
 replace hS:=hS.fS nl
 replace hS:=hS.fS js
 replace hS:=hS.fM ng
 replace hS:=hS.fR k0
 unfold eA at hM
 refine ai hS fun a hS=>?_
 refine kb hS fun c0 q1 a w hk hS=>?_
 refine ai hS fun a hS=>?_
 refine aI (J:=fun a w=>∃ (g2:Int) (g3:LI) (g4:LR) (g5:LO) (g6:LK) (g7:Int) (e3:LU) (e4:Int) (e5:LI) (e8:LR) (ea:LB) (ed:LL) (ca:AM) (d6:Nat) (ck:Value) (c9:LV) (cb:AM) (dc:Nat) (ch:AM) (di:Nat) (cl:Value) (co:Value) (cs:Value) (cv:Value) (d0:Value),St W0 (MD [xE f m d.B.Revision D u b g d.E,xS m v3 d.S.Base.Revision v4 t n o,om n C F,om o q x,om b r z,au g p]) T 125 [] [om b ca d6,au ck c9,xE f m g2 cl co b ck g7,om n cb dc,om o ch di,xS m cs e4 cv d0 n o] [aJ ac cl g3,aJ aa co g4,rE ca g5,am ad c9 g6,aJ aq cs e3,aJ ac cv e5,aJ aa d0 e8,lL cb ea,oK ch ed,bu] a w∧je g2 g3 g4 g5 g6 g7 e3 e4 e5 e8 ea ed=some y) ?_ ?_
 ·skip
  refine ai hS fun a hS=>?_
  obtain ⟨r1,oj,hMo1⟩:=bd hM
  refine bB _ (fun s a w=>∃ (a9:Int) (a4:Int) (ay:LI) (G:LR) (bq:LO) (bs:LK) (bt:Int) (b3:LU) (b4:Int) (b5:LI) (b8:LR) (bb:LB) (bi:LL) (V:AM) (az:Nat) (Y:Value) (U:LV) (W:AM) (b0:Nat) (X:AM) (b1:Nat) (af:Value) (ag:Value) (Z:Value) (a0:Value) (a1:Value),(a9,a4,ay,G,bq,bs,bt,b3,b4,b5,b8,bb,bi)=s∧St W0 (MD [xE f m d.B.Revision D u b g d.E,xS m v3 d.S.Base.Revision v4 t n o,om n C F,om o q x,om b r z,au g p]) T 125 [(0,pt f 0),(3,pt c0 0),(5,.int .i64 a9)] [om b V az,au Y U,xE f m a4 af ag b Y bt,.box c0 (aS a5) 35,om n W b0,om o X b1,xS m Z b4 a0 a1 n o] [aJ ac af ay,aJ aa ag G,rE V bq,am ad U bs,aJ aq Z b3,aJ ac a0 b5,aJ aa a1 b8,lL W bb,oK X bi,bu] a w) oj ⟨_,_,_,_,_,_,_,_,_,_,_,_,_,_,_,_,_,_,_,_,_,_,_,_,_,_,rfl,hS.mt [5,6,1,0,3,4,2] [3,2,1,0,8,7,6,5,4,9]⟩ ?_
  rintro s a w f1 ⟨a9,a4,ay,G,bq,bs,bt,b3,b4,b5,b8,bb,bi,V,az,Y,U,W,b0,X,b1,af,ag,Z,a0,a1,rfl,hS⟩ hM hf1
  have hM:em urec vrec a5 a9 a4 ay G bq bs bt b3 b4 b5 b8 bb bi=some f1:=hM
  unfold em at hM
  refine aw ?_
  refine ai hS fun a hS=>?_
  rcases cd hM with ⟨kx,hM⟩ | ⟨kx,hM⟩
  ·refine ai hS fun a hS=>?_
   refine aI (J:=fun a w=>∃ (eT:Bool) (eX:Int) (f2:ByteArray) (f3:ByteArray) (f4:LK) (f5:Int) (f6:Int) (fd:Int) (fl:Bool) (d3:Nat) (fn:Value) (dl:LV),St W0 (MD [xE f m d.B.Revision D u b g d.E,xS m v3 d.S.Base.Revision v4 t n o,om n C F,om o q x,om b r z,au g p]) T 125 [(0,pt f 0),(3,pt c0 0),(5,.int .i64 a9),(6,pt d3 0),(7,.bool eT)] [om b V az,au Y U,xE f m a4 af ag b Y bt,.box c0 (aS a5) 35,au fn dl,.box d3 [.int .i64 eX,.string f2,.string f3,fn,.int .i64 f5,.int .i64 f6,.int .i64 fd,.bool fl] 77,om n W b0,om o X b1,xS m Z b4 a0 a1 n o] [aJ ac af ay,aJ aa ag G,rE V bq,am ad U bs,am ad dl f4,aJ aq Z b3,aJ ac a0 b5,aJ aa a1 b8,lL W bb,oK X bi,bu] a w∧gf urec vrec a5 a9 a4 ay G bq bs bt b3 b4 b5 b8 bb bi eT eX f2 f3 f4 f5 f6 fd fl=some f1) ?_ ?_
   ·skip
    obtain ⟨N197,i0⟩:∃ N,N=w.heap.size:=⟨_,rfl⟩
    replace hS:=hS.fact (Ak N197) (Nat.le_of_eq i0)
    refine dr [(11,.new N197)] hS fun w hQ hS=>?_
    refine gE [0,1,2,3,4,5] hS fun a hS=>?_
    obtain ⟨ra,gs,hM⟩:=bd hM
    refine dU (i:=6) (j:=10) rfl rfl (by kernel_rfl) rfl rfl ?_ ?_
    ·skip
     skip
     refine id (a7 hS kr rfl rfl (bF _ _ hS.dlt G a5 _ (hS.get 2 rfl) _ gs) fun _ w hR a hk hA=>⟨fx (hk),?_⟩)
     obtain ⟨rd,oP,he,hj⟩:=hR
     obtain rfl:=he.symm
     have hS:=pd hA hj
     refine gE [7,8,9] hS fun a hS=>?_
     have l0:=(hS.get 1 rfl:N197≤w.heap.size)
     refine e1 10 (cE hS fJ rfl fun k1 l1 a w hk hS=>⟨fx (hk),?_⟩)
     refine cN 11 (.blk (some k1)) _ (by kernel_rfl) (my (Nat.le_trans l0 l1)) ?_
     refine es 11 hS fun w hS=>?_
     refine gE [12] hS fun a hS=>?_
     refine eD ?_
     exact ⟨_,_,_,_,_,_,_,_,_,_,_,_,hS.mt [2,3,4,5,1,0,6,7,8] [2,3,4,5,0,6,7,8,9,10,11],hM⟩
    skip
    have l2:=(hS.get 0 rfl:N197≤w.heap.size)
    refine id (cE hS fJ rfl fun k2 la a w hk hS=>⟨fx (hk),?_⟩)
    refine cN 11 (.blk (some k2)) _ (by kernel_rfl) (my (Nat.le_trans l2 la)) ?_
    refine ec 6 hS kr (bF _ _ hS.dlt G a5 _ (hS.get 2 rfl) _ gs) fun _ w hR a hk hA=>?_
    obtain ⟨rg,p0,he,hl⟩:=hR
    obtain rfl:=he.symm
    have hS:=pd hA hl
    refine gE [7,8,9] hS fun a hS=>?_
    refine es 11 hS fun w hS=>?_
    refine gE [12] hS fun a hS=>?_
    refine eD ?_
    exact ⟨_,_,_,_,_,_,_,_,_,_,_,_,hS.mt [2,3,4,5,0,1,6,7,8] [2,3,4,5,0,6,7,8,9,10,11],hM⟩
   rintro a w ⟨eT,eX,f2,f3,f4,f5,f6,fd,fl,d3,fn,dl,hS,hM⟩
   unfold gf at hM
   refine aw ?_
   refine jO ?_
   refine ai hS fun a hS=>?_
   rcases cd hM with ⟨lb,hM⟩ | ⟨lb,hM⟩
   ·refine ai hS fun a hS=>?_
    cases hM
    have hr:=hf1 _ rfl
    subst hr
    replace hMo1:=gT hMo1
    have hM:=hMo1
    cases hM
    refine aF hS rfl (ar hS rfl aH) ?_
    have hZ:=hS.sl [2,8,6,7,0,1] [5,6,7,8,9,0,1,2,3]
    exact ⟨Z,a0,a1,W,b0,X,b1,af,ag,V,az,Y,U,rfl,hZ.dnew,(hZ.get 0 rfl),(hZ.get 1 rfl),(hZ.get 2 rfl),(hZ.get 3 rfl),(hZ.get 4 rfl),(hZ.get 5 rfl),(hZ.get 6 rfl),(hZ.get 7 rfl),(hZ.get 8 rfl)⟩
   refine ai hS fun a hS=>?_
   rcases cd hM with ⟨le,hM⟩ | ⟨le,hM⟩
   ·refine ai hS fun a hS=>?_
    cases hM
    have hr:=hf1 _ rfl
    subst hr
    replace hMo1:=gT hMo1
    have hM:=hMo1
    cases hM
    refine aF hS rfl (ar hS rfl aH) ?_
    have hZ:=hS.sl [2,8,6,7,0,1] [5,6,7,8,9,0,1,2,3]
    exact ⟨Z,a0,a1,W,b0,X,b1,af,ag,V,az,Y,U,rfl,hZ.dnew,(hZ.get 0 rfl),(hZ.get 1 rfl),(hZ.get 2 rfl),(hZ.get 3 rfl),(hZ.get 4 rfl),(hZ.get 5 rfl),(hZ.get 6 rfl),(hZ.get 7 rfl),(hZ.get 8 rfl)⟩
   refine ai hS fun a hS=>?_
   refine aw ?_
   refine aw ?_
   refine dr [] hS fun w hQ hS=>?_
   refine gE [0,1,2,3,4,5,6,7] hS fun a hS=>?_
   refine eD ?_
   refine ai hS fun a hS=>?_
   rcases cd hM with ⟨ll,hM⟩ | ⟨ll,hM⟩
   ·refine ai hS fun a hS=>?_
    cases hM
    have hr:=hf1 _ rfl
    subst hr
    replace hMo1:=gT hMo1
    have hM:=hMo1
    cases hM
    refine aF hS rfl (ar hS rfl aH) ?_
    have hZ:=hS.sl [2,8,6,7,0,1] [5,6,7,8,9,0,1,2,3]
    exact ⟨Z,a0,a1,W,b0,X,b1,af,ag,V,az,Y,U,rfl,hZ.dnew,(hZ.get 0 rfl),(hZ.get 1 rfl),(hZ.get 2 rfl),(hZ.get 3 rfl),(hZ.get 4 rfl),(hZ.get 5 rfl),(hZ.get 6 rfl),(hZ.get 7 rfl),(hZ.get 8 rfl)⟩
   refine ai hS fun a hS=>?_
   refine aw ?_
   refine dr [] hS fun w hQ hS=>?_
   refine gE [0,1,2,3,4,5,6,7,8,9,10] hS fun a hS=>?_
   obtain ⟨c4,i9,hM⟩:=bd hM
   refine ec 11 hS zG (pV _ _ hS.dlt (hS.get 10 rfl) G a4 a5 _ (hS.get 1 rfl) _ i9) fun _ w hR a hk hA=>?_
   obtain ⟨hN,h0,he,hm⟩:=hR
   obtain rfl:=he.symm
   have hS:=pd hA hm
   refine gE [12] hS fun a hS=>?_
   refine eD ?_
   refine ai hS fun a hS=>?_
   have hL:=hS
   replace hL:=hL.freeze (R:=ad) 0 rfl 0 rfl
   obtain ⟨q7,ii,hM⟩:=bd hM
   refine kc hS zF (mc _ _ hL.dlt G c4 _ _ (hL.get 3 rfl) (hL.get 0 rfl) _ ii) fun _ w hR a hk hA=>?_
   obtain ⟨nm,ks,he,⟨h7,h6,hn⟩⟩:=hR
   obtain rfl:=he.symm
   have hS:=hA [kT nm ks] (gS ⟨h7,by decide⟩ h6) (s4 _)
   replace hS:=hS.fR hn
   refine ai hS fun a hS=>?_
   refine aw ?_
   refine ai hS fun a hS=>?_
   rcases cd hM with ⟨ls,hM⟩ | ⟨ls,hM⟩
   ·refine ai hS fun a hS=>?_
    replace hS:=hS.freeze (R:=ad) 1 rfl 1 rfl
    obtain ⟨r0,it,hM⟩:=bd hM
    refine kc hS zH (nW _ _ hS.dlt (ah.mk a4 ay G) c4 false _ _ _ (hS.get 3 rfl) (hS.get 4 rfl) (hS.get 0 rfl) _ it) fun _ w hR a hk hA=>?_
    obtain ⟨no,p1,np,p2,he,ho,hp,h5⟩:=hR
    obtain rfl:=he.symm
    have hS:=sZ hA ho hp h5
    refine go hS fun a w hS=>?_
    replace hS:=hS.freeze (R:=ac) 0 rfl 1 rfl
    replace hS:=hS.freeze (R:=aa) 0 rfl 1 rfl
    cases hM
    have hr:=hf1 _ rfl
    subst hr
    replace hMo1:=gT hMo1
    have hM:=hMo1
    cases hM
    refine aF hS rfl (ar hS rfl aH) ?_
    have hZ:=hS.sl [3,9,7,8,1,2] [12,13,14,15,16,1,0,9,10]
    exact ⟨Z,a0,a1,W,b0,X,b1,no,np,V,az,Y,U,rfl,hZ.dnew,(hZ.get 0 rfl),(hZ.get 1 rfl),(hZ.get 2 rfl),(hZ.get 3 rfl),(hZ.get 4 rfl),(hZ.get 5 rfl),(hZ.get 6 rfl),(hZ.get 7 rfl),(hZ.get 8 rfl)⟩
   refine ai hS fun a hS=>?_
   obtain ⟨ab,i3,hM⟩:=bd hM
   refine wl rfl (dI (R:=fb) hS Cp yz rfl rfl 0 rfl 0 rfl i3 rfl fun os q3 q4 p3 lt lv lV a hS=>?_)
   obtain rfl:=lt
   refine qy hS (cg (k:=0) hS yz 0 rfl lv lV rfl id (us:=(yX ab)) rfl rfl (fun h=>by cases h)) fun a hS=>?_
   refine ka hS Ag fun gu q2 a w hk hS=>?_
   refine go hS fun a w hS=>?_
   refine aw ?_
   refine ai hS fun a hS=>?_
   obtain ⟨e,i4,hM⟩:=bd hM
   replace hS:=hS.re [5,11,9,10,3,4] [0,1,2,6,7,8]
   refine wl rfl (cF hS GM rfl rfl (qI _ _ hS.dltD (aC.mk (aj.mk b3 (ah.mk b4 b5 b8) bb bi) (ah.mk a4 ay G) bq bs bt) ab.Read _ _ _ _ _ _ _ _ _ _ _ _ _ _ _ _ _ _ hS.dok (hS.getD 7 rfl) (hS.getD 8 rfl) (hS.getD 9 rfl) (hS.getD 10 rfl) (hS.getD 11 rfl) (hS.getD 2 rfl) (hS.getD 3 rfl) (hS.getD 4 rfl) (hS.getD 5 rfl) _ i4) fun _ w hR a hk hA=>?_)
   obtain ⟨hO,hP,hV,h3,kt,h4,kv,hW,hX,c2,dn,c5,c1,he,m0,hq,hs,ht,ha,hb,hu,hv,hc,h8⟩:=hR
   obtain rfl:=he.symm
   have hS:=hA _ m0
   replace hS:=hS.fS (hq.sub (ap _))
   replace hS:=hS.fS (hs.sub (ap _))
   replace hS:=hS.fS (ht.sub (ap _))
   replace hS:=hS.fM (ha.keep (Kt.refl _ _) (ap _))
   replace hS:=hS.fM (hb.keep (Kt.refl _ _) (ap _))
   replace hS:=hS.fS (hu.sub (ap _))
   replace hS:=hS.fS (hv.sub (ap _))
   replace hS:=hS.fM (hc.keep (Kt.refl _ _) (ap _))
   replace hS:=hS.fR (h8.keep (Kt.refl _ _) (ap _))
   refine ai hS fun a hS=>?_
   rcases cd hM with ⟨m1,hM⟩ | ⟨m1,hM⟩
   ·refine ai hS fun a hS=>?_
    obtain ⟨r2,jb,hM⟩:=bd hM
    replace hS:=hS.re [0,1,2,3,4,5] [6,7,8,9,10,11]
    refine wl rfl (cF hS EU rfl rfl (hurec _ _ hS.dltD (aC.mk (aj.mk e.2.S.Rules (ah.mk e.2.S.Base.Revision e.2.S.Base.Inputs e.2.S.Base.Records) e.2.S.Memo e.2.S.Seen) (ah.mk e.2.B.Revision e.2.B.Inputs e.2.B.Records) e.2.Busy e.2.Ran e.2.E) ab.Read _ _ _ _ _ _ _ _ _ _ _ _ _ _ _ _ _ _ hS.dok (hS.getD 8 rfl) (hS.getD 7 rfl) (hS.getD 6 rfl) (hS.getD 5 rfl) (hS.getD 4 rfl) (hS.getD 3 rfl) (hS.getD 2 rfl) (hS.getD 1 rfl) (hS.getD 0 rfl) (hS.getD 21 rfl) _ jb) fun _ w hR a hk hA=>?_)
    obtain ⟨rl,rm,rs,ps,p4,pw,p5,rt,rv,q0,p6,rO,p7,he,m2,hw,hx,hy,hd,hf,hz,hB,hg,h9⟩:=hR
    obtain rfl:=he.symm
    have hS:=hA _ m2
    replace hS:=hS.fS (hw.sub (ap _))
    replace hS:=hS.fS (hx.sub (ap _))
    replace hS:=hS.fS (hy.sub (ap _))
    replace hS:=hS.fM (hd.keep (Kt.refl _ _) (ap _))
    replace hS:=hS.fM (hf.keep (Kt.refl _ _) (ap _))
    replace hS:=hS.fS (hz.sub (ap _))
    replace hS:=hS.fS (hB.sub (ap _))
    replace hS:=hS.fM (hg.keep (Kt.refl _ _) (ap _))
    replace hS:=hS.fR (h9.keep (Kt.refl _ _) (ap _))
    refine ai hS fun a hS=>?_
    exact ⟨_,(Option.some.inj hM).symm,_,_,_,_,_,_,_,_,_,_,_,_,_,_,_,_,_,_,_,_,_,_,_,_,_,_,rfl,hS.mt [4,5,0,9,2,3,1] [3,2,1,0,8,7,6,5,4,30]⟩
   refine ai hS fun a hS=>?_
   refine aI (J:=fun a w=>∃ (el:Int) (eq:ByteArray) (er:ByteArray) (et:LK) (ex:Int) (c3:Int) (ey:Int) (ez:Bool) (d4:Nat) (fr:Value) (ds:LV),St W0 (MD [xE f m d.B.Revision D u b g d.E,xS m v3 d.S.Base.Revision v4 t n o,om n C F,om o q x,om b r z,au g p]) T 125 [(0,pt f 0),(3,pt c0 0),(5,.int .i64 a9),(8,hN),(10,pt gu 0),(11,pt d4 0)] [au hN h0,om b c2 dn,au c5 c1,xE f m e.2.B.Revision hW hX b c5 e.2.E,.box c0 (aS a5) 35,.box gu (yX ab) 181,au fr ds,.box d4 [.int .i64 el,.string eq,.string er,fr,.int .i64 ex,.int .i64 c3,.int .i64 ey,.bool ez] 77,om n h3 kt,om o h4 kv,xS m hO e.2.S.Base.Revision hP hV n o] [am ad h0 c4,aJ ac hW e.2.B.Inputs,aJ aa hX e.2.B.Records,rE c2 e.2.Busy,am ad c1 e.2.Ran,am ad ds et,aJ aq hO e.2.S.Rules,aJ ac hP e.2.S.Base.Inputs,aJ aa hV e.2.S.Base.Records,lL h3 e.2.S.Memo,oK h4 e.2.S.Seen,bu] a w∧ge vrec a5 a9 c4 ab e el eq er et ex c3 ey ez=some f1) ?_ ?_
   ·skip
    obtain ⟨N261,i2⟩:∃ N,N=w.heap.size:=⟨_,rfl⟩
    replace hS:=hS.fact (Ak N261) (Nat.le_of_eq i2)
    refine dr [(12,.new N261)] hS fun w hQ hS=>?_
    refine gE [0,1,2,3,4,5,6] hS fun a hS=>?_
    obtain ⟨r3,gp,hM⟩:=bd hM
    refine dU (i:=7) (j:=11) rfl rfl (by kernel_rfl) rfl rfl ?_ ?_
    ·skip
     skip
     refine id (a7 hS kr rfl rfl (bF _ _ hS.dlt e.2.B.Records ab.Member _ (hS.get 3 rfl) _ gp) fun _ w hR a hk hA=>⟨fx (hk),?_⟩)
     obtain ⟨s0,pe,he,hC⟩:=hR
     obtain rfl:=he.symm
     have hS:=pd hA hC
     refine gE [8,9,10] hS fun a hS=>?_
     have md:=(hS.get 1 rfl:N261≤w.heap.size)
     refine e1 11 (cE hS fJ rfl fun k3 ms a w hk hS=>⟨fx (hk),?_⟩)
     refine cN 12 (.blk (some k3)) _ (by kernel_rfl) (my (Nat.le_trans md ms)) ?_
     refine es 12 hS fun w hS=>?_
     refine gE [13] hS fun a hS=>?_
     refine eD ?_
     exact ⟨_,_,_,_,_,_,_,_,_,_,_,hS.mt [10,6,7,2,11,8,1,0,4,5,3] [12,5,4,3,2,0,10,9,8,7,6,23],hM⟩
    skip
    have mv:=(hS.get 0 rfl:N261≤w.heap.size)
    refine id (cE hS fJ rfl fun k4 n0 a w hk hS=>⟨fx (hk),?_⟩)
    refine cN 12 (.blk (some k4)) _ (by kernel_rfl) (my (Nat.le_trans mv n0)) ?_
    refine ec 7 hS kr (bF _ _ hS.dlt e.2.B.Records ab.Member _ (hS.get 3 rfl) _ gp) fun _ w hR a hk hA=>?_
    obtain ⟨s1,pf,he,hE⟩:=hR
    obtain rfl:=he.symm
    have hS:=pd hA hE
    refine gE [8,9,10] hS fun a hS=>?_
    refine es 12 hS fun w hS=>?_
    refine gE [13] hS fun a hS=>?_
    refine eD ?_
    exact ⟨_,_,_,_,_,_,_,_,_,_,_,hS.mt [10,6,7,2,11,8,0,1,4,5,3] [12,5,4,3,2,0,10,9,8,7,6,23],hM⟩
   rintro a w ⟨el,eq,er,et,ex,c3,ey,ez,d4,fr,ds,hS,hM⟩
   unfold ge at hM
   refine aw ?_
   refine aw ?_
   refine dr [(10,.bks [some m,some n,some o])] hS fun w hQ hS=>?_
   refine gE [0,1,2,3,4,5,6,7,8,9,11] hS fun a hS=>?_
   refine dy (l:=[.bks [some m,some n,some o]]) 12 (v:=.int .i64 c3) rfl (by kernel_rfl) (by kernel_rfl) (by kernel_rfl) (by kernel_rfl) hQ hS (dV hS rfl wI 7 rfl (uN hS 7 rfl rfl [10,8,9] rfl rfl bE) (us:=[.int .i64 c3]) rfl rfl (fun _=>rfl)) rfl rfl rfl fun a hS=>?_
   obtain ⟨bl,i5,hM⟩:=bd hM
   replace hS:=hS.re [10,8,9] [0,1,2,3,4,5,6,7]
   refine e1 10 (cF hS Ef rfl rfl (qd _ _ hS.dltD vrec hvrec (aj.mk e.2.S.Rules (ah.mk e.2.S.Base.Revision e.2.S.Base.Inputs e.2.S.Base.Records) e.2.S.Memo e.2.S.Seen) (ah.mk e.2.B.Revision e.2.B.Inputs e.2.B.Records) ab.Read _ _ _ _ _ _ _ _ _ _ _ _ hS.dok (hS.getD 6 rfl) (hS.getD 7 rfl) (hS.getD 8 rfl) (hS.getD 9 rfl) (hS.getD 10 rfl) (hS.getD 1 rfl) (hS.getD 2 rfl) (hS.getD 11 rfl) _ i5) fun _ w hR a hk hA=>⟨kp rfl hk (xW rfl rfl),?_⟩)
   obtain ⟨fs,g0,g1,e0,h1,e2,h2,he,n1,hF,hG,hH,hh,hi⟩:=hR
   obtain rfl:=he.symm
   have hS:=hA _ n1
   replace hS:=hS.fS (hF.sub (ap _))
   replace hS:=hS.fS (hG.sub (ap _))
   replace hS:=hS.fS (hH.sub (ap _))
   replace hS:=hS.fM (hh.keep (Kt.refl _ _) (ap _))
   replace hS:=hS.fM (hi.keep (Kt.refl _ _) (ap _))
   refine gE [13] hS fun a hS=>?_
   refine eD ?_
   refine ai hS fun a hS=>?_
   rcases cd hM with ⟨n2,hM⟩ | ⟨n2,hM⟩
   ·refine ai hS fun a hS=>?_
    refine aI (J:=fun a w=>∃ (g8:Int) (gb:LI) (gi:LR) (d1:Value) (d2:Value),St W0 (MD [xE f m d.B.Revision D u b g d.E,xS m v3 d.S.Base.Revision v4 t n o,om n C F,om o q x,om b r z,au g p]) T 125 [] [om b c2 dn,au c5 c1,xE f m g8 d1 d2 b c5 e.2.E,om n e0 h1,om o e2 h2,xS m fs bl.2.Base.Revision g0 g1 n o] [aJ ac d1 gb,aJ aa d2 gi,rE c2 e.2.Busy,am ad c1 e.2.Ran,aJ aq fs bl.2.Rules,aJ ac g0 bl.2.Base.Inputs,aJ aa g1 bl.2.Base.Records,lL e0 bl.2.Memo,oK e2 bl.2.Seen,bu] a w∧gc e bl g8 gb gi=some f1) ?_ ?_
    ·skip
     refine ai hS fun a hS=>?_
     obtain ⟨q5,ib,hM⟩:=bd hM
     refine kc hS s7 (cq _ _ hS.dlt a5 _ ib) fun _ w hR a hk hA=>?_
     obtain rfl:=hR
     have hS:=bM hA
     refine ai hS fun a hS=>?_
     rcases cd hM with ⟨nd,hM⟩ | ⟨nd,hM⟩
     ·refine ai hS fun a hS=>?_
      replace hS:=hS.freeze (R:=ad) 3 rfl 5 rfl
      obtain ⟨q6,ih,hM⟩:=bd hM
      refine kc hS zH (nW _ _ hS.dlt (ah.mk e.2.B.Revision e.2.B.Inputs e.2.B.Records) c4 true _ _ _ (hS.get 7 rfl) (hS.get 8 rfl) (hS.get 0 rfl) _ ih) fun _ w hR a hk hA=>?_
      obtain ⟨s2,pk,sb,pl,he,hI,hK,h5⟩:=hR
      obtain rfl:=he.symm
      have hS:=sZ hA hI hK h5
      refine go hS fun a w hS=>?_
      replace hS:=hS.freeze (R:=ac) 0 rfl 1 rfl
      replace hS:=hS.freeze (R:=aa) 0 rfl 1 rfl
      exact ⟨_,_,_,_,_,hS.mt [3,4,5,1,2,0] [1,0,13,14,9,8,7,6,5,21],hM⟩
     exact fz
    rintro a w ⟨g8,gb,gi,d1,d2,hS,hM⟩
    unfold gc at hM
    refine ai hS fun a hS=>?_
    cases hM
    have hr:=hf1 _ rfl
    subst hr
    replace hMo1:=gT hMo1
    have hM:=hMo1
    cases hM
    refine aF hS rfl (ar hS rfl aH) ?_
    have hZ:=hS.sl [2,5,3,4,0,1] [4,5,6,7,8,0,1,2,3]
    exact ⟨fs,g0,g1,e0,h1,e2,h2,d1,d2,c2,dn,c5,c1,rfl,hZ.dnew,(hZ.get 0 rfl),(hZ.get 1 rfl),(hZ.get 2 rfl),(hZ.get 3 rfl),(hZ.get 4 rfl),(hZ.get 5 rfl),(hZ.get 6 rfl),(hZ.get 7 rfl),(hZ.get 8 rfl)⟩
   refine ai hS fun a hS=>?_
   exact ⟨_,(Option.some.inj hM).symm,_,_,_,_,_,_,_,_,_,_,_,_,_,_,_,_,_,_,_,_,_,_,_,_,_,_,rfl,hS.mt [4,5,6,7,1,2,0] [6,7,8,9,4,3,2,1,0,16]⟩
  exact fz
 rintro a w ⟨g2,g3,g4,g5,g6,g7,e3,e4,e5,e8,ea,ed,ca,d6,ck,c9,cb,dc,ch,di,cl,co,cs,cv,d0,hS,hM⟩
 unfold je at hM
 refine ai hS fun a hS=>?_
 cases hM
 refine aF hS rfl (ar hS rfl aH) ?_
 have hZ:=hS.sl [2,5,3,4,0,1] [4,5,6,7,8,0,1,2,3]
 exact ⟨cs,cv,d0,cb,dc,ch,di,cl,co,ca,d6,ck,c9,rfl,hZ.dnew,(hZ.get 0 rfl),(hZ.get 1 rfl),(hZ.get 2 rfl),(hZ.get 3 rfl),(hZ.get 4 rfl),(hZ.get 5 rfl),(hZ.get 6 rfl),(hZ.get 7 rfl),(hZ.get 8 rfl)⟩
def gO (h:Int) (i:LI) (j:LR) (k:LO) (l:LK) (m:Int) (b:LU) (c:Int) (d:LI) (e:LR) (f:LB) (g:LL):Option aC:=some ((aC.mk (aj.mk b (ah.mk c d e) f g) (ah.mk h i j) k l m))
def dX (l:ae) (o:LK) (b:Int) (c:LI) (d:LR) (m:LO) (e:LK) (s:Int) (f:LU) (g:Int) (h:LI) (i:LR) (j:LB) (k:LL) (p:ByteArray) (n:Bool):Option (Fl (LK×LY×Int×LI×LR×LO×LK×Int×LU×Int×LI×LR×LB×LL) (Fl (Int×LI×LR×LO×LK×Int×LU×Int×LI×LR×LB×LL) aC)):=cond n (some (.out (.out (aC.mk (aj.mk f (ah.mk g h i) j k) (ah.mk b c d) m e 45)))) ((mO (ah.mk b c d) l p o).bind fun q=>(jZ d q).bind fun r=>gd (bG (e.length + ([l]).length)) <| some (.out (.out (aC.mk (aj.mk f (ah.mk g h i) j k) (ah.mk b c r) m (e ++ ([l])) s))))
def gP (p:ae) (i:LK) (k:Int) (l:LI) (b:LR) (m:LO) (n:LK) (o:Int) (c:LU) (d:Int) (e:LI) (f:LR) (g:LB) (h:LL) (j:ByteArray) (q:Bool):Option (Fl (LK×LY×Int×LI×LR×LO×LK×Int×LU×Int×LI×LR×LB×LL) (Fl (Int×LI×LR×LO×LK×Int×LU×Int×LI×LR×LB×LL) aC)):=cond (!(q)) (dX p i k l b m n o c d e f g h j (decide ((4000:Int)≤(b.length:Int)))) (dX p i k l b m n o c d e f g h j false)
def gQ (urec:aC→ae→Option aC) (vrec:aj→ae→Option (ByteArray×aj)) (t:ae) (d:LK) (g:LY) (o:Int) (p:LI) (h:LR) (q:LO) (r:LK) (s:Int) (i:LU) (j:Int) (k:LI) (l:LR) (m:LB) (n:LL) (v:Bool) (u:ByteArray) (e:Int) (f:ByteArray):Option (Fl (LK×LY×Int×LI×LR×LO×LK×Int×LU×Int×LI×LR×LB×LL) (Fl (Int×LI×LR×LO×LK×Int×LU×Int×LI×LR×LB×LL) aC)):=cond v ((cr h t).bind fun x=>gP t d o p h q r s i j k l m n u x.2) ((urec (aC.mk (aj.mk i (ah.mk j k l) m n) (ah.mk o p h) q r s) (ae.mk e f)).bind fun b=>cond ((b.E:Int) == 0) (gd (bG (d.length + ([(ae.mk e f)]).length)) <| (kd vrec b.S b.B (ae.mk e f)).bind fun c=>gd (bG (g.length + ([c.1]).length)) <| some (.go ((d ++ ([(ae.mk e f)])),(g ++ ([c.1])),b.B.Revision,b.B.Inputs,b.B.Records,b.Busy,b.Ran,b.E,c.2.Rules,c.2.Base.Revision,c.2.Base.Inputs,c.2.Base.Records,c.2.Memo,c.2.Seen))) (some (.go (d,g,b.B.Revision,b.B.Inputs,b.B.Records,b.Busy,b.Ran,b.E,b.S.Rules,b.S.Base.Revision,b.S.Base.Inputs,b.S.Base.Records,b.S.Memo,b.S.Seen))))
def ff (urec:aC→ae→Option aC) (vrec:aj→ae→Option (ByteArray×aj)) (p:ae) (q:LK) (e:LY) (k:Int) (l:LI) (m:LR) (n:LO) (o:LK) (d:Int) (c:LU) (f:Int) (g:LI) (h:LR) (i:LB) (j:LL):Option (Fl (LK×LY×Int×LI×LR×LO×LK×Int×LU×Int×LI×LR×LB×LL) (Fl (Int×LI×LR×LO×LK×Int×LU×Int×LI×LR×LB×LL) aC)):=cond ((d:Int) == 0) ((dz c p e).bind fun b=>gQ urec vrec p q e k l m n o d c f g h i j b.Done b.Value b.Ask.Kind b.Ask.Text) (some (.out (.go (k,l,m,n,o,d,c,f,g,h,i,j))))
def fE (urec:aC→ae→Option aC) (vrec:aj→ae→Option (ByteArray×aj)) (b:aC) (c:ae):Option aC:=(loop (fun s:LK×LY×Int×LI×LR×LO×LK×Int×LU×Int×LI×LR×LB×LL=>ff urec vrec c s.1 s.2.1 s.2.2.1 s.2.2.2.1 s.2.2.2.2.1 s.2.2.2.2.2.1 s.2.2.2.2.2.2.1 s.2.2.2.2.2.2.2.1 s.2.2.2.2.2.2.2.2.1 s.2.2.2.2.2.2.2.2.2.1 s.2.2.2.2.2.2.2.2.2.2.1 s.2.2.2.2.2.2.2.2.2.2.2.1 s.2.2.2.2.2.2.2.2.2.2.2.2.1 s.2.2.2.2.2.2.2.2.2.2.2.2.2) (([]:List ae),([]:List ByteArray),b.B.Revision,b.B.Inputs,b.B.Records,b.Busy,b.Ran,b.E,b.S.Rules,b.S.Base.Revision,b.S.Base.Inputs,b.S.Base.Records,b.S.Memo,b.S.Seen)).bind fun r=>Fl.el r (fun s=>gO s.1 s.2.1 s.2.2.1 s.2.2.2.1 s.2.2.2.2.1 s.2.2.2.2.2.1 s.2.2.2.2.2.2.1 s.2.2.2.2.2.2.2.1 s.2.2.2.2.2.2.2.2.1 s.2.2.2.2.2.2.2.2.2.1 s.2.2.2.2.2.2.2.2.2.2.1 s.2.2.2.2.2.2.2.2.2.2.2) (fun y=>some (y))
theorem rW (T:Nat→Prop) (W0:World) (hT:TW T W0) (urec:aC→ae→Option aC) (hurec:qO urec) (vrec:aj→ae→Option (ByteArray×aj)) (hvrec:lr vrec) (d:aC) (C:ae) (e:Nat) (g:Nat) (v3:Value) (v4:Value) (q:Value) (k:Nat) (H:Array MapEntry) (L:Nat) (m:Nat) (o:Array MapEntry) (u:Nat) (K:Value) (t:Value) (b:Nat) (p:Array MapEntry) (z:Nat) (f:Value) (n:List Value) (hD:vB T W0 [xE e g d.B.Revision K t b f d.E,xS g v3 d.S.Base.Revision v4 q k m,om k H L,om m o u,om b p z,au f n]) (hB:aB aq (dT T [xE e g d.B.Revision K t b f d.E,xS g v3 d.S.Base.Revision v4 q k m,om k H L,om m o u,om b p z,au f n]) W0 v3 d.S.Rules) (hC:aB ac (dT T [xE e g d.B.Revision K t b f d.E,xS g v3 d.S.Base.Revision v4 q k m,om k H L,om m o u,om b p z,au f n]) W0 v4 d.S.Base.Inputs) (h0:aB aa (dT T [xE e g d.B.Revision K t b f d.E,xS g v3 d.S.Base.Revision v4 q k m,om k H L,om m o u,om b p z,au f n]) W0 q d.S.Base.Records) (hx:bw ad true aR.str false (dT T [xE e g d.B.Revision K t b f d.E,xS g v3 d.S.Base.Revision v4 q k m,om k H L,om m o u,om b p z,au f n]) W0 H d.S.Memo) (hy:bw ad true (aR.slice ad) false (dT T [xE e g d.B.Revision K t b f d.E,xS g v3 d.S.Base.Revision v4 q k m,om k H L,om m o u,om b p z,au f n]) W0 o d.S.Seen) (ht:aB ac (dT T [xE e g d.B.Revision K t b f d.E,xS g v3 d.S.Base.Revision v4 q k m,om k H L,om m o u,om b p z,au f n]) W0 K d.B.Inputs) (h1:aB aa (dT T [xE e g d.B.Revision K t b f d.E,xS g v3 d.S.Base.Revision v4 q k m,om k H L,om m o u,om b p z,au f n]) W0 t d.B.Records) (hs:bw ad true aR.bool false (dT T [xE e g d.B.Revision K t b f d.E,xS g v3 d.S.Base.Revision v4 q k m,om k H L,om m o u,om b p z,au f n]) W0 p d.Busy) (h2:aD ad (dT T [xE e g d.B.Revision K t b f d.E,xS g v3 d.S.Base.Revision v4 q k m,om k H L,om m o u,om b p z,au f n]) W0 n d.Ran) (hLv:c6 (dT T [xE e g d.B.Revision K t b f d.E,xS g v3 d.S.Base.Revision v4 q k m,om k H L,om m o u,om b p z,au f n]) W0) (y:aC) (hM:fE urec vrec d C=some y):aY Tryz.prog (MD [xE e g d.B.Revision K t b f d.E,xS g v3 d.S.Base.Revision v4 q k m,om k H L,om m o u,om b p z,au f n]) 117 [pt e 0,.agg (aS C).toArray] W0 (fun v w'=>∃ (ag:Value) (bs:Value) (bt:Value) (a3:Array MapEntry) (az:Nat) (ab:Array MapEntry) (b1:Nat) (c0:Value) (c1:Value) (af:Array MapEntry) (b3:Nat) (G:Value) (a2:List Value),v = .tuple #[]∧n8 W0 w' [xE e g d.B.Revision K t b f d.E,xS g v3 d.S.Base.Revision v4 q k m,om k H L,om m o u,om b p z,au f n] [xE e g y.B.Revision c0 c1 b G y.E,xS g ag y.S.Base.Revision bs bt k m,om k a3 az,om m ab b1,om b af b3,au G a2]∧aB aq (dT T [xE e g y.B.Revision c0 c1 b G y.E,xS g ag y.S.Base.Revision bs bt k m,om k a3 az,om m ab b1,om b af b3,au G a2]) w' ag y.S.Rules∧aB ac (dT T [xE e g y.B.Revision c0 c1 b G y.E,xS g ag y.S.Base.Revision bs bt k m,om k a3 az,om m ab b1,om b af b3,au G a2]) w' bs y.S.Base.Inputs∧aB aa (dT T [xE e g y.B.Revision c0 c1 b G y.E,xS g ag y.S.Base.Revision bs bt k m,om k a3 az,om m ab b1,om b af b3,au G a2]) w' bt y.S.Base.Records∧bw ad true aR.str false (dT T [xE e g y.B.Revision c0 c1 b G y.E,xS g ag y.S.Base.Revision bs bt k m,om k a3 az,om m ab b1,om b af b3,au G a2]) w' a3 y.S.Memo∧bw ad true (aR.slice ad) false (dT T [xE e g y.B.Revision c0 c1 b G y.E,xS g ag y.S.Base.Revision bs bt k m,om k a3 az,om m ab b1,om b af b3,au G a2]) w' ab y.S.Seen∧aB ac (dT T [xE e g y.B.Revision c0 c1 b G y.E,xS g ag y.S.Base.Revision bs bt k m,om k a3 az,om m ab b1,om b af b3,au G a2]) w' c0 y.B.Inputs∧aB aa (dT T [xE e g y.B.Revision c0 c1 b G y.E,xS g ag y.S.Base.Revision bs bt k m,om k a3 az,om m ab b1,om b af b3,au G a2]) w' c1 y.B.Records∧bw ad true aR.bool false (dT T [xE e g y.B.Revision c0 c1 b G y.E,xS g ag y.S.Base.Revision bs bt k m,om k a3 az,om m ab b1,om b af b3,au G a2]) w' af y.Busy∧aD ad (dT T [xE e g y.B.Revision c0 c1 b G y.E,xS g ag y.S.Base.Revision bs bt k m,om k a3 az,om m ab b1,om b af b3,au G a2]) w' a2 y.Ran):=by
 refine kk (c:=_) Tryz.func117 rfl T 107 Tryz.ntmps117 hT rfl hD fun a hS=>?_
 replace hS:=hS.fact bu hLv
 replace hS:=hS.fS hB
 replace hS:=hS.fS hC
 replace hS:=hS.fS h0
 replace hS:=hS.fM hx
 replace hS:=hS.fM hy
 replace hS:=hS.fS ht
 replace hS:=hS.fS h1
 replace hS:=hS.fM hs
 replace hS:=hS.fR h2
 unfold fE at hM
 refine ai hS fun a hS=>?_
 refine kb hS fun bl ib a w hk hS=>?_
 refine Hd hS fun a hS=>?_
 refine jO ?_
 refine Hd hS fun a hS=>?_
 refine jO ?_
 refine Hd hS fun a hS=>?_
 refine Cw (J:=fun a w=>∃ (ea:Int) (ed:LI) (el:LR) (eq:LO) (er:LK) (et:Int) (dn:LU) (ds:Int) (e0:LI) (e2:LR) (e3:LB) (e4:LL) (cl:AM) (dc:Nat) (d0:Value) (ck:LV) (co:AM) (di:Nat) (cs:AM) (dl:Nat) (d1:Value) (d2:Value) (d3:Value) (d4:Value) (d6:Value),St W0 (MD [xE e g d.B.Revision K t b f d.E,xS g v3 d.S.Base.Revision v4 q k m,om k H L,om m o u,om b p z,au f n]) T 107 [] [om b cl dc,au d0 ck,xE e g ea d1 d2 b d0 et,om k co di,om m cs dl,xS g d3 ds d4 d6 k m] [aJ ac d1 ed,aJ aa d2 el,rE cl eq,am ad ck er,aJ aq d3 dn,aJ ac d4 e0,aJ aa d6 e2,lL co e3,oK cs e4,bu] a w∧gO ea ed el eq er et dn ds e0 e2 e3 e4=some y) ?_ ?_
 ·skip
  refine ai hS fun a hS=>?_
  replace hS:=hS.nilRow ad 35 (by decide)
  replace hS:=hS.nilRow aR.str 9 (by decide)
  obtain ⟨r1,hz,hMo1⟩:=bd hM
  refine bB _ (fun s a w=>∃ (Z:LK) (b5:LY) (O:Int) (P:LI) (A:LR) (a0:LO) (Q:LK) (a1:Int) (I:LU) (U:Int) (V:LI) (W:LR) (X:LB) (Y:LL) (M:Value) (b8:LV) (ca:Value) (cb:LV) (a4:AM) (c3:Nat) (ak:Value) (b0:LV) (a5:AM) (c4:Nat) (a9:AM) (c5:Nat) (ao:Value) (b4:Value) (av:Value) (ax:Value) (ay:Value),(Z,b5,O,P,A,a0,Q,a1,I,U,V,W,X,Y)=s∧St W0 (MD [xE e g d.B.Revision K t b f d.E,xS g v3 d.S.Base.Revision v4 q k m,om k H L,om m o u,om b p z,au f n]) T 107 [(0,pt e 0),(3,pt bl 0),(4,M),(5,ca)] [au M b8,.own ca 9 aR.str.size cb,om b a4 c3,au ak b0,xE e g O ao b4 b ak a1,.box bl (aS C) 35,om k a5 c4,om m a9 c5,xS g av U ax ay k m] [am ad b8 Z,am aR.str cb b5,aJ ac ao P,aJ aa b4 A,rE a4 a0,am ad b0 Q,aJ aq av I,aJ ac ax V,aJ aa ay W,lL a5 X,oK a9 Y,bu] a w) hz ⟨_,_,_,_,_,_,_,_,_,_,_,_,_,_,_,_,_,_,_,_,_,_,_,_,_,_,_,_,_,_,_,rfl,hS.mt [1,0,7,8,3,2,5,6,4] [1,0,5,4,3,2,10,9,8,7,6,11]⟩ ?_
  rintro s a w f1 ⟨Z,b5,O,P,A,a0,Q,a1,I,U,V,W,X,Y,M,b8,ca,cb,a4,c3,ak,b0,a5,c4,a9,c5,ao,b4,av,ax,ay,rfl,hS⟩ hM hf1
  have hM:ff urec vrec C Z b5 O P A a0 Q a1 I U V W X Y=some f1:=hM
  unfold ff at hM
  refine aw ?_
  refine ai hS fun a hS=>?_
  rcases cd hM with ⟨h8,hM⟩ | ⟨h8,hM⟩
  ·refine ai hS fun a hS=>?_
   refine aI (J:=fun a w=>∃ (ch:Bool) (bq:ByteArray) (D:Int) (F:ByteArray) (c2:Nat),St W0 (MD [xE e g d.B.Revision K t b f d.E,xS g v3 d.S.Base.Revision v4 q k m,om k H L,om m o u,om b p z,au f n]) T 107 [(0,pt e 0),(3,pt bl 0),(4,M),(5,ca),(6,pt c2 0)] [au M b8,.own ca 9 aR.str.size cb,om b a4 c3,au ak b0,xE e g O ao b4 b ak a1,.box bl (aS C) 35,.box c2 [.bool ch,.string bq,.int .i64 D,.string F] 173,om k a5 c4,om m a9 c5,xS g av U ax ay k m] [am ad b8 Z,am aR.str cb b5,aJ ac ao P,aJ aa b4 A,rE a4 a0,am ad b0 Q,aJ aq av I,aJ ac ax V,aJ aa ay W,lL a5 X,oK a9 Y,bu] a w∧gQ urec vrec C Z b5 O P A a0 Q a1 I U V W X Y ch bq D F=some f1) ?_ ?_
   ·skip
    obtain ⟨N181,g8⟩:∃ N,N=w.heap.size:=⟨_,rfl⟩
    replace hS:=hS.fact (Ak N181) (Nat.le_of_eq g8)
    refine dr [(11,.new N181)] hS fun w hQ hS=>?_
    refine gE [0,1,2,3,4,5,6,7,8] hS fun a hS=>?_
    have hL:=hS
    replace hL:=hL.freeze (R:=aR.str) 1 rfl 2 rfl
    obtain ⟨it,ey,hM⟩:=bd hM
    refine dU (i:=9) (j:=10) rfl rfl (by kernel_rfl) rfl rfl ?_ ?_
    ·skip
     skip
     have hL:=hS
     replace hL:=hL.freeze (R:=aR.str) 1 rfl 2 rfl
     refine id (a7 hS sg rfl rfl (fq _ _ hL.dlt (hL.get 13 rfl) I C b5 _ _ (hL.get 8 rfl) (hL.get 0 rfl) _ ey) fun _ w hR a hk hA=>⟨fx (hk),?_⟩)
     obtain rfl:=hR
     have hS:=bM hA
     have h9:=(hS.get 0 rfl:N181≤w.heap.size)
     refine e1 10 (cE hS mw rfl fun h3 ha a w hk hS=>⟨fx (hk),?_⟩)
     refine cN 11 (.blk (some h3)) _ (by kernel_rfl) (my (Nat.le_trans h9 ha)) ?_
     refine es 11 hS fun w hS=>?_
     refine eD ?_
     exact ⟨_,_,_,_,_,hS.mt [1,2,3,4,5,6,0,7,8,9] [1,2,3,4,5,6,7,8,9,10,11,12],hM⟩
    skip
    have hb:=(hS.get 0 rfl:N181≤w.heap.size)
    refine id (cE hS mw rfl fun h4 hc a w hk hS=>⟨fx (hk),?_⟩)
    refine cN 11 (.blk (some h4)) _ (by kernel_rfl) (my (Nat.le_trans hb hc)) ?_
    have hL:=hS
    replace hL:=hL.freeze (R:=aR.str) 2 rfl 2 rfl
    refine ec 9 hS sg (fq _ _ hL.dlt (hL.get 13 rfl) I C b5 _ _ (hL.get 8 rfl) (hL.get 0 rfl) _ ey) fun _ w hR a hk hA=>?_
    obtain rfl:=hR
    have hS:=bM hA
    refine es 11 hS fun w hS=>?_
    refine eD ?_
    exact ⟨_,_,_,_,_,hS.mt [1,2,3,4,5,6,0,7,8,9] [1,2,3,4,5,6,7,8,9,10,11,12],hM⟩
   rintro a w ⟨ch,bq,D,F,c2,hS,hM⟩
   unfold gQ at hM
   refine aw ?_
   refine ai hS fun a hS=>?_
   rcases cd hM with ⟨hd,hM⟩ | ⟨hd,hM⟩
   ·refine ai hS fun a hS=>?_
    refine aw ?_
    refine aI (J:=fun a w=>∃ (e8:Bool),St W0 (MD [xE e g d.B.Revision K t b f d.E,xS g v3 d.S.Base.Revision v4 q k m,om k H L,om m o u,om b p z,au f n]) T 107 [(0,pt e 0),(3,pt bl 0),(4,M),(6,pt c2 0),(8,.bool e8)] [au M b8,om b a4 c3,au ak b0,xE e g O ao b4 b ak a1,.box bl (aS C) 35,.box c2 [.bool ch,.string bq,.int .i64 D,.string F] 173,om k a5 c4,om m a9 c5,xS g av U ax ay k m] [am ad b8 Z,aJ ac ao P,aJ aa b4 A,rE a4 a0,am ad b0 Q,aJ aq av I,aJ ac ax V,aJ aa ay W,lL a5 X,oK a9 Y,bu] a w∧gP C Z O P A a0 Q a1 I U V W X Y bq e8=some f1) ?_ ?_
    ·skip
     obtain ⟨N189,gb⟩:∃ N,N=w.heap.size:=⟨_,rfl⟩
     replace hS:=hS.fact (Ak N189) (Nat.le_of_eq gb)
     refine dr [(11,.new N189)] hS fun w hQ hS=>?_
     refine gE [0,1,2,3,4,5] hS fun a hS=>?_
     obtain ⟨ii,ex,hM⟩:=bd hM
     refine dU (i:=6) (j:=10) rfl rfl (by kernel_rfl) rfl rfl ?_ ?_
     ·skip
      skip
      refine id (a7 hS kr rfl rfl (bF _ _ hS.dlt A C _ (hS.get 4 rfl) _ ex) fun _ w hR a hk hA=>⟨fx (hk),?_⟩)
      obtain ⟨jb,hH,he,f5⟩:=hR
      obtain rfl:=he.symm
      have hS:=pd hA f5
      refine gE [7,8,9] hS fun a hS=>?_
      have hf:=(hS.get 1 rfl:N189≤w.heap.size)
      refine e1 10 (cE hS fJ rfl fun h5 hg a w hk hS=>⟨fx (hk),?_⟩)
      refine cN 11 (.blk (some h5)) _ (by kernel_rfl) (my (Nat.le_trans hf hg)) ?_
      refine es 11 hS fun w hS=>?_
      refine gE [12] hS fun a hS=>?_
      refine eD ?_
      exact ⟨_,hS.mt [2,4,5,6,7,8,9,10,11] [2,4,5,6,7,8,9,10,11,12,13],hM⟩
     skip
     have hh:=(hS.get 0 rfl:N189≤w.heap.size)
     refine id (cE hS fJ rfl fun h6 hi a w hk hS=>⟨fx (hk),?_⟩)
     refine cN 11 (.blk (some h6)) _ (by kernel_rfl) (my (Nat.le_trans hh hi)) ?_
     refine ec 6 hS kr (bF _ _ hS.dlt A C _ (hS.get 4 rfl) _ ex) fun _ w hR a hk hA=>?_
     obtain ⟨jc,hI,he,f6⟩:=hR
     obtain rfl:=he.symm
     have hS:=pd hA f6
     refine gE [7,8,9] hS fun a hS=>?_
     refine es 11 hS fun w hS=>?_
     refine gE [12] hS fun a hS=>?_
     refine eD ?_
     exact ⟨_,hS.mt [2,4,5,6,7,8,9,10,11] [2,4,5,6,7,8,9,10,11,12,13],hM⟩
    rintro a w ⟨e8,hS,hM⟩
    unfold gP at hM
    refine aI (J:=fun a w=>∃ (e5:Bool),St W0 (MD [xE e g d.B.Revision K t b f d.E,xS g v3 d.S.Base.Revision v4 q k m,om k H L,om m o u,om b p z,au f n]) T 107 [(0,pt e 0),(3,pt bl 0),(4,M),(6,pt c2 0),(46,.bool e5)] [au M b8,om b a4 c3,au ak b0,xE e g O ao b4 b ak a1,.box bl (aS C) 35,.box c2 [.bool ch,.string bq,.int .i64 D,.string F] 173,om k a5 c4,om m a9 c5,xS g av U ax ay k m] [am ad b8 Z,aJ ac ao P,aJ aa b4 A,rE a4 a0,am ad b0 Q,aJ aq av I,aJ ac ax V,aJ aa ay W,lL a5 X,oK a9 Y,bu] a w∧dX C Z O P A a0 Q a1 I U V W X Y bq e5=some f1) ?_ ?_
    ·exact fz
    rintro a w ⟨e5,hS,hM⟩
    unfold dX at hM
    rcases cd hM with ⟨hj,hM⟩ | ⟨hj,hM⟩
    ·refine go hS fun a w hS=>?_
     cases hM
     have hr:=hf1 _ rfl
     subst hr
     replace hMo1:=gT hMo1
     have hM:=hMo1
     cases hM
     refine aF hS Tryz.results117 aH ?_
     have hZ:=hS.sl [3,8,6,7,1,2] [5,6,7,8,9,1,2,3,4]
     exact ⟨av,ax,ay,a5,c4,a9,c5,ao,b4,a4,c3,ak,b0,rfl,hZ.dnew,(hZ.get 0 rfl),(hZ.get 1 rfl),(hZ.get 2 rfl),(hZ.get 3 rfl),(hZ.get 4 rfl),(hZ.get 5 rfl),(hZ.get 6 rfl),(hZ.get 7 rfl),(hZ.get 8 rfl)⟩
    refine ai hS fun a hS=>?_
    refine aw ?_
    refine dr [(19,.blk (some e))] hS fun w hQ hS=>?_
    refine gE [0,1,2,3,4,5,6,7,8,9,10,11,12,13] hS fun a hS=>?_
    replace hS:=hS.freeze (R:=ad) 0 rfl 0 rfl
    obtain ⟨hu,gi,hM⟩:=bd hM
    refine ec 14 hS Ec (sI _ _ hS.dlt (ah.mk O P A) C bq Z _ _ _ (hS.get 2 rfl) (hS.get 3 rfl) (hS.get 0 rfl) _ gi) fun _ w hR a hk hA=>?_
    obtain ⟨js,he,fd⟩:=hR
    obtain rfl:=he.symm
    have hS:=hA [] (fun r hr=>by cases hr) List.Pairwise.nil
    replace hS:=hS.fS (fd.sub (jk _))
    obtain ⟨ih,gp,hM⟩:=bd hM
    refine ec 15 hS Eb (tQ _ _ hS.dlt (hS.get 12 rfl) A hu _ _ (hS.get 4 rfl) (hS.get 0 rfl) _ gp) fun _ w hR a hk hA=>?_
    obtain ⟨hv,hK,he,fl⟩:=hR
    obtain rfl:=he.symm
    have hS:=pd hA fl
    refine gE [16,17,18] hS fun a hS=>?_
    refine es 19 hS fun w hS=>?_
    refine eD ?_
    refine ai hS fun a hS=>?_
    refine aw ?_
    refine dr [(7,.blk (Value.ownBlock ak)),(10,.blk (some e))] hS fun w hQ hS=>?_
    refine gE [0,1,2,3,4,5] hS fun a hS=>?_
    refine e1 6 (aZ (ps:=[(0,.tmp 74)]) hS iq gM (zl:=[.int .i64 0,.string (ByteArray.mk #[])]) (by kernel_rfl) rfl (us:=[(aS C)]) ⟨rfl,trivial⟩ (ws:=(aS C)) rfl rfl rfl rfl fun hE a w hk hS=>⟨fx (hk),?_⟩)
    replace hS:=hS.lit (R:=ad) (us:=(aS C)) (xs:=[C]) 0 rfl (by decide) (aD.one_ (R:=ad) (x:=C) rfl) rfl rfl
    replace hS:=hS.freeze (R:=ad) 0 rfl 0 rfl
    obtain ⟨hl,hM⟩:=ba hM
    refine e1 7 (bC (R:=ad) (xs:=Q) (ys:=[C]) hS iq (by decide) (by decide) rfl rfl 2 rfl 9 rfl 0 rfl hl rfl fun hw h7 a w hk hS=>⟨kp rfl hk lw,?_⟩)
    refine gE [8,9] hS fun a hS=>?_
    refine es 10 hS fun w hS=>?_
    refine eD ?_
    refine ai hS fun a hS=>?_
    replace hS:=hS.freeze (R:=aa) 0 rfl 3 rfl
    cases hM
    have hr:=hf1 _ rfl
    subst hr
    replace hMo1:=gT hMo1
    have hM:=hMo1
    cases hM
    refine aF hS Tryz.results117 aH ?_
    have hZ:=hS.sl [2,7,5,6,0,1] [12,13,14,15,16,8,0,10,1]
    exact ⟨av,ax,ay,a5,c4,a9,c5,ao,hv,a4,c3,hw,h7,rfl,hZ.dnew,(hZ.get 0 rfl),(hZ.get 1 rfl),(hZ.get 2 rfl),(hZ.get 3 rfl),(hZ.get 4 rfl),(hZ.get 5 rfl),(hZ.get 6 rfl),(hZ.get 7 rfl),(hZ.get 8 rfl)⟩
   refine ai hS fun a hS=>?_
   obtain ⟨cv,gs,hM⟩:=bd hM
   replace hS:=hS.re [4,9,7,8,2,3] [0,1,5,6]
   refine wl rfl (cF hS EU rfl rfl (hurec _ _ hS.dltD (aC.mk (aj.mk I (ah.mk U V W) X Y) (ah.mk O P A) a0 Q a1) (ae.mk D F) _ _ _ _ _ _ _ _ _ _ _ _ _ _ _ _ _ _ hS.dok (hS.getD 6 rfl) (hS.getD 7 rfl) (hS.getD 8 rfl) (hS.getD 9 rfl) (hS.getD 10 rfl) (hS.getD 2 rfl) (hS.getD 3 rfl) (hS.getD 4 rfl) (hS.getD 5 rfl) (hS.getD 11 rfl) _ gs) fun _ w hR a hk hA=>?_)
   obtain ⟨k0,k1,k2,i2,hN,i3,hO,g5,g6,i4,hP,k3,hV,he,hm,fn,fr,fs,eT,eX,g0,g1,f2,ez⟩:=hR
   obtain rfl:=he.symm
   have hS:=hA _ hm
   replace hS:=hS.fS (fn.sub (ap _))
   replace hS:=hS.fS (fr.sub (ap _))
   replace hS:=hS.fS (fs.sub (ap _))
   replace hS:=hS.fM (eT.keep (Kt.refl _ _) (ap _))
   replace hS:=hS.fM (eX.keep (Kt.refl _ _) (ap _))
   replace hS:=hS.fS (g0.sub (ap _))
   replace hS:=hS.fS (g1.sub (ap _))
   replace hS:=hS.fM (f2.keep (Kt.refl _ _) (ap _))
   replace hS:=hS.fR (ez.keep (Kt.refl _ _) (ap _))
   refine ai hS fun a hS=>?_
   rcases cd hM with ⟨hn,hM⟩ | ⟨hn,hM⟩
   ·refine ai hS fun a hS=>?_
    refine dr [(4,.blk (Value.ownBlock M)),(16,.bks [some g,some k,some m]),(18,.blk (Value.ownBlock ca))] hS fun w hQ hS=>?_
    refine gE [0,1,2,5,6,7,8] hS fun a hS=>?_
    refine dy (l:=[.blk (Value.ownBlock M)]) 9 (v:=pt g 0) rfl (by kernel_rfl) (by kernel_rfl) (by kernel_rfl) (by kernel_rfl) hQ hS (dV hS rfl Ew 0 rfl (iv hS 0 rfl rfl 6 rfl rfl (by decide) bE) (us:=[pt g 0]) rfl rfl (fun _=>rfl)) rfl rfl rfl fun a hS=>?_
    refine gE [10,11,12] hS fun a hS=>?_
    refine dy (l:=[.blk (Value.ownBlock M)]) 13 (v:=.agg (aO cv.B g5 g6).toArray) rfl (by kernel_rfl) (by kernel_rfl) (by kernel_rfl) (by kernel_rfl) hQ hS (dV hS rfl fG 0 rfl (iv hS 0 rfl rfl 6 rfl rfl (by decide) bE) (us:=(aO cv.B g5 g6)) rfl rfl (fun h=>by cases h)) rfl rfl rfl fun a hS=>?_
    refine gE [14] hS fun a hS=>?_
    refine dy (l:=[.blk (Value.ownBlock M)]) 15 (v:=.agg #[.int .i64 D,.string F]) rfl (by kernel_rfl) (by kernel_rfl) (by kernel_rfl) (by kernel_rfl) hQ hS (dV hS rfl fY 9 rfl (iv hS 9 rfl rfl 6 rfl rfl (by decide) bE) (us:=[.int .i64 D,.string F]) rfl rfl (fun h=>by cases h)) rfl rfl rfl fun a hS=>?_
    refine e1 3 (aZ (ps:=[(0,.tmp 90)]) hS iq gM (zl:=[.int .i64 0,.string (ByteArray.mk #[])]) (by kernel_rfl) rfl (us:=[[.int .i64 D,.string F]]) ⟨rfl,trivial⟩ (ws:=[.int .i64 D,.string F]) rfl rfl rfl rfl fun hF a w hk hS=>⟨fx (hk),?_⟩)
    replace hS:=hS.lit (R:=ad) (us:=[.int .i64 D,.string F]) (xs:=[(ae.mk D F)]) 0 rfl (by decide) (aD.one_ (R:=ad) (x:=(ae.mk D F)) rfl) rfl rfl
    replace hS:=hS.freeze (R:=ad) 0 rfl 0 rfl
    obtain ⟨ho,hM⟩:=ba hM
    refine e1 4 (bC (R:=ad) (xs:=Z) (ys:=[(ae.mk D F)]) hS iq (by decide) (by decide) rfl rfl 6 rfl 11 rfl 0 rfl ho rfl fun k4 hW a w hk hS=>⟨kp rfl hk lw,?_⟩)
    obtain ⟨c9,gu,hM⟩:=bd hM
    replace hS:=hS.re [1,2,3] [0,4,5,6,7,8,9]
    refine e1 16 (cF hS Ee rfl rfl (qG _ _ hS.dltD vrec hvrec cv.S cv.B (ae.mk D F) _ _ _ _ _ _ _ _ _ _ _ _ hS.dok (hS.getD 11 rfl) (hS.getD 10 rfl) (hS.getD 9 rfl) (hS.getD 8 rfl) (hS.getD 7 rfl) (hS.getD 6 rfl) (hS.getD 5 rfl) (hS.getD 23 rfl) _ gu) fun _ w hR a hk hA=>⟨kp rfl hk (xW rfl rfl),?_⟩)
    obtain ⟨ks,kt,kv,i5,hX,i9,hY,he,hp,g2,g3,g4,f3,f4⟩:=hR
    obtain rfl:=he.symm
    have hS:=hA _ hp
    replace hS:=hS.fS (g2.sub (ap _))
    replace hS:=hS.fS (g3.sub (ap _))
    replace hS:=hS.fS (g4.sub (ap _))
    replace hS:=hS.fM (f3.keep (Kt.refl _ _) (ap _))
    replace hS:=hS.fM (f4.keep (Kt.refl _ _) (ap _))
    refine e1 17 (aZ (ps:=[(0,.tmp 104)]) hS uM HP (zl:=[.string (ByteArray.mk #[])]) (by kernel_rfl) rfl (us:=[[.string c9.1]]) ⟨rfl,trivial⟩ (ws:=[.string c9.1]) rfl rfl rfl rfl fun hG a w hk hS=>⟨fx (hk),?_⟩)
    replace hS:=hS.lit (R:=aR.str) (us:=[.string c9.1]) (xs:=[c9.1]) 0 rfl (by decide) (aD.one_ (R:=aR.str) (x:=c9.1) rfl) rfl rfl
    replace hS:=hS.freeze (R:=aR.str) 0 rfl 0 rfl
    obtain ⟨hq,hM⟩:=ba hM
    refine e1 18 (bC (R:=aR.str) (xs:=b5) (ys:=[c9.1]) hS uM (by decide) (by decide) rfl rfl 7 rfl 20 rfl 0 rfl hq rfl fun kx i0 a w hk hS=>⟨kp rfl hk lw,?_⟩)
    refine gE [19,20] hS fun a hS=>?_
    refine eD ?_
    exact ⟨_,(Option.some.inj hM).symm,_,_,_,_,_,_,_,_,_,_,_,_,_,_,_,_,_,_,_,_,_,_,_,_,_,_,_,_,_,_,_,rfl,hS.mt [6,7,4,5,3,8,1,2,0] [8,0,14,13,12,11,7,6,5,4,3,31]⟩
   exact fz
  refine ai hS fun a hS=>?_
  cases hM
  have hr:=hf1 _ rfl
  subst hr
  replace hMo1:=G8 hMo1
  have hM:gO O P A a0 Q a1 I U V W X Y=some y:=hMo1
  exact ⟨_,_,_,_,_,_,_,_,_,_,_,_,_,_,_,_,_,_,_,_,_,_,_,_,_,hS.mt [2,3,4,6,7,8] [2,3,4,5,6,7,8,9,10,11],hM⟩
 rintro a w ⟨ea,ed,el,eq,er,et,dn,ds,e0,e2,e3,e4,cl,dc,d0,ck,co,di,cs,dl,d1,d2,d3,d4,d6,hS,hM⟩
 unfold gO at hM
 refine EY ?_
 cases hM
 refine aF hS Tryz.results117 aH ?_
 have hZ:=hS.sl [2,5,3,4,0,1] [4,5,6,7,8,0,1,2,3]
 exact ⟨d3,d4,d6,co,di,cs,dl,d1,d2,cl,dc,d0,ck,rfl,hZ.dnew,(hZ.get 0 rfl),(hZ.get 1 rfl),(hZ.get 2 rfl),(hZ.get 3 rfl),(hZ.get 4 rfl),(hZ.get 5 rfl),(hZ.get 6 rfl),(hZ.get 7 rfl),(hZ.get 8 rfl)⟩
def iA (b:aC) (c:Int):Option aC:=some ((aC.mk b.S b.B b.Busy b.Ran c))
def eB (n:ae) (h:Int) (i:LI) (j:LR) (k:LO) (l:LK) (m:Int) (b:LU) (c:Int) (d:LI) (e:LR) (f:LB) (g:LL):Option aC:=some ((aC.mk (aj.mk b (ah.mk c d e) f g) (ah.mk h i j) (oZ aA n k) l m))
def eC (urec:aC→ae→Option aC) (vrec:aj→ae→Option (ByteArray×aj)) (d:aC) (e:ae) (f:Bool):Option aC:=cond f (some (d)) ((some ((bH aA e d.Busy).getD false)).bind fun g=>cond g ((bZ e).bind fun h=>cond (!(h)) (iA d 43) (iA d d.E)) ((eA urec vrec (aC.mk d.S d.B (cX aA e true d.Busy) d.Ran d.E) e).bind fun b=>cond b.1 ((fE urec vrec (aC.mk (aj.mk b.2.S.Rules (ah.mk b.2.S.Base.Revision b.2.S.Base.Inputs b.2.S.Base.Records) b.2.S.Memo b.2.S.Seen) (ah.mk b.2.B.Revision b.2.B.Inputs b.2.B.Records) b.2.Busy b.2.Ran b.2.E) e).bind fun c=>eB e c.B.Revision c.B.Inputs c.B.Records c.Busy c.Ran c.E c.S.Rules c.S.Base.Revision c.S.Base.Inputs c.S.Base.Records c.S.Memo c.S.Seen) (eB e b.2.B.Revision b.2.B.Inputs b.2.B.Records b.2.Busy b.2.Ran b.2.E b.2.S.Rules b.2.S.Base.Revision b.2.S.Base.Inputs b.2.S.Base.Records b.2.S.Memo b.2.S.Seen)))
def iB (urec:aC→ae→Option aC) (vrec:aj→ae→Option (ByteArray×aj)) (b:aC) (c:ae) (d:Bool) (f:Int) (g:ByteArray) (h:ByteArray) (i:LK) (j:Int) (e:Int) (k:Int) (l:Bool):Option aC:=cond d (eC urec vrec b c ((e:Int) == b.B.Revision)) (eC urec vrec b c false)
def iO (urec:aC→ae→Option aC) (vrec:aj→ae→Option (ByteArray×aj)) (c:aC) (d:ae):Option aC:=cond ((c.E:Int) != 0) (some (c)) ((ci d).bind fun e=>cond e (some (c)) ((cr c.B.Records d).bind fun b=>iB urec vrec c d b.2 b.1.Key.Kind b.1.Key.Text b.1.Value b.1.Reads b.1.Changed b.1.Verified b.1.Cost b.1.Dirty))
theorem sJ (T:Nat→Prop) (W0:World) (hT:TW T W0) (urec:aC→ae→Option aC) (hurec:qO urec) (vrec:aj→ae→Option (ByteArray×aj)) (hvrec:lr vrec) (b:aC) (x:ae) (e:Nat) (g:Nat) (A:Value) (C:Value) (D:Value) (h:Nat) (r:Array MapEntry) (u:Nat) (k:Nat) (n:Array MapEntry) (p:Nat) (s:Value) (t:Value) (d:Nat) (o:Array MapEntry) (q:Nat) (f:Value) (m:List Value) (hD:vB T W0 [xE e g b.B.Revision s t d f b.E,xS g A b.S.Base.Revision C D h k,om h r u,om k n p,om d o q,au f m]) (g7:aB aq (dT T [xE e g b.B.Revision s t d f b.E,xS g A b.S.Base.Revision C D h k,om h r u,om k n p,om d o q,au f m]) W0 A b.S.Rules) (g8:aB ac (dT T [xE e g b.B.Revision s t d f b.E,xS g A b.S.Base.Revision C D h k,om h r u,om k n p,om d o q,au f m]) W0 C b.S.Base.Inputs) (gb:aB aa (dT T [xE e g b.B.Revision s t d f b.E,xS g A b.S.Base.Revision C D h k,om h r u,om k n p,om d o q,au f m]) W0 D b.S.Base.Records) (g5:bw ad true aR.str false (dT T [xE e g b.B.Revision s t d f b.E,xS g A b.S.Base.Revision C D h k,om h r u,om k n p,om d o q,au f m]) W0 r b.S.Memo) (g6:bw ad true (aR.slice ad) false (dT T [xE e g b.B.Revision s t d f b.E,xS g A b.S.Base.Revision C D h k,om h r u,om k n p,om d o q,au f m]) W0 n b.S.Seen) (g1:aB ac (dT T [xE e g b.B.Revision s t d f b.E,xS g A b.S.Base.Revision C D h k,om h r u,om k n p,om d o q,au f m]) W0 s b.B.Inputs) (g2:aB aa (dT T [xE e g b.B.Revision s t d f b.E,xS g A b.S.Base.Revision C D h k,om h r u,om k n p,om d o q,au f m]) W0 t b.B.Records) (ea:bw ad true aR.bool false (dT T [xE e g b.B.Revision s t d f b.E,xS g A b.S.Base.Revision C D h k,om h r u,om k n p,om d o q,au f m]) W0 o b.Busy) (g3:aD ad (dT T [xE e g b.B.Revision s t d f b.E,xS g A b.S.Base.Revision C D h k,om h r u,om k n p,om d o q,au f m]) W0 m b.Ran) (hLv:c6 (dT T [xE e g b.B.Revision s t d f b.E,xS g A b.S.Base.Revision C D h k,om h r u,om k n p,om d o q,au f m]) W0) (y:aC) (hM:iO urec vrec b x=some y):aY Tryz.prog (MD [xE e g b.B.Revision s t d f b.E,xS g A b.S.Base.Revision C D h k,om h r u,om k n p,om d o q,au f m]) 85 [pt e 0,.agg (aS x).toArray] W0 (fun v w'=>∃ (P:Value) (Q:Value) (R:Value) (H:Array MapEntry) (L:Nat) (I:Array MapEntry) (M:Nat) (U:Value) (V:Value) (K:Array MapEntry) (O:Nat) (z:Value) (G:List Value),v = .tuple #[]∧n8 W0 w' [xE e g b.B.Revision s t d f b.E,xS g A b.S.Base.Revision C D h k,om h r u,om k n p,om d o q,au f m] [xE e g y.B.Revision U V d z y.E,xS g P y.S.Base.Revision Q R h k,om h H L,om k I M,om d K O,au z G]∧aB aq (dT T [xE e g y.B.Revision U V d z y.E,xS g P y.S.Base.Revision Q R h k,om h H L,om k I M,om d K O,au z G]) w' P y.S.Rules∧aB ac (dT T [xE e g y.B.Revision U V d z y.E,xS g P y.S.Base.Revision Q R h k,om h H L,om k I M,om d K O,au z G]) w' Q y.S.Base.Inputs∧aB aa (dT T [xE e g y.B.Revision U V d z y.E,xS g P y.S.Base.Revision Q R h k,om h H L,om k I M,om d K O,au z G]) w' R y.S.Base.Records∧bw ad true aR.str false (dT T [xE e g y.B.Revision U V d z y.E,xS g P y.S.Base.Revision Q R h k,om h H L,om k I M,om d K O,au z G]) w' H y.S.Memo∧bw ad true (aR.slice ad) false (dT T [xE e g y.B.Revision U V d z y.E,xS g P y.S.Base.Revision Q R h k,om h H L,om k I M,om d K O,au z G]) w' I y.S.Seen∧aB ac (dT T [xE e g y.B.Revision U V d z y.E,xS g P y.S.Base.Revision Q R h k,om h H L,om k I M,om d K O,au z G]) w' U y.B.Inputs∧aB aa (dT T [xE e g y.B.Revision U V d z y.E,xS g P y.S.Base.Revision Q R h k,om h H L,om k I M,om d K O,au z G]) w' V y.B.Records∧bw ad true aR.bool false (dT T [xE e g y.B.Revision U V d z y.E,xS g P y.S.Base.Revision Q R h k,om h H L,om k I M,om d K O,au z G]) w' K y.Busy∧aD ad (dT T [xE e g y.B.Revision U V d z y.E,xS g P y.S.Base.Revision Q R h k,om h H L,om k I M,om d K O,au z G]) w' G y.Ran):=by
 refine kk (c:=_) Tryz.func85 rfl T 64 Tryz.ntmps85 hT rfl hD fun a hS=>?_
 replace hS:=hS.fact bu hLv
 replace hS:=hS.fS g7
 replace hS:=hS.fS g8
 replace hS:=hS.fS gb
 replace hS:=hS.fM g5
 replace hS:=hS.fM g6
 replace hS:=hS.fS g1
 replace hS:=hS.fS g2
 replace hS:=hS.fM ea
 replace hS:=hS.fR g3
 unfold iO at hM
 refine ai hS fun a hS=>?_
 refine kb hS fun W hg a w hk hS=>?_
 refine ai hS fun a hS=>?_
 refine aw ?_
 refine jO ?_
 refine ai hS fun a hS=>?_
 rcases cd hM with ⟨ch,hM⟩ | ⟨ch,hM⟩
 ·refine ai hS fun a hS=>?_
  cases hM
  refine aF hS Tryz.results85 aH ?_
  have hZ:=hS.sl [1,2,3,4,5,6] [8,7,6,5,4,3,2,1,0]
  exact ⟨A,C,D,r,u,n,p,s,t,o,q,f,m,rfl,hZ.dnew,(hZ.get 0 rfl),(hZ.get 1 rfl),(hZ.get 2 rfl),(hZ.get 3 rfl),(hZ.get 4 rfl),(hZ.get 5 rfl),(hZ.get 6 rfl),(hZ.get 7 rfl),(hZ.get 8 rfl)⟩
 refine ai hS fun a hS=>?_
 obtain ⟨hj,et,hM⟩:=bd hM
 refine wg hS rfl rfl rfl ch (a7 hS uD rfl rfl (dt _ _ hS.dlt x _ et) fun _ w hR a hk hA=>?_)
 obtain rfl:=hR
 have hS:=bM hA
 refine ai hS fun a hS=>?_
 rcases cd hM with ⟨eX,hM⟩ | ⟨eX,hM⟩
 ·refine ai hS fun a hS=>?_
  cases hM
  refine aF hS Tryz.results85 aH ?_
  have hZ:=hS.sl [1,2,3,4,5,6] [8,7,6,5,4,3,2,1,0]
  exact ⟨A,C,D,r,u,n,p,s,t,o,q,f,m,rfl,hZ.dnew,(hZ.get 0 rfl),(hZ.get 1 rfl),(hZ.get 2 rfl),(hZ.get 3 rfl),(hZ.get 4 rfl),(hZ.get 5 rfl),(hZ.get 6 rfl),(hZ.get 7 rfl),(hZ.get 8 rfl)⟩
 refine ai hS fun a hS=>?_
 refine aw ?_
 refine aI (J:=fun a w=>∃ (b3:Bool) (b4:Int) (b5:ByteArray) (b8:ByteArray) (bb:LK) (bi:Int) (bl:Int) (bq:Int) (bs:Bool) (a9:Nat) (bt:Value) (ab:LV),St W0 (MD [xE e g b.B.Revision s t d f b.E,xS g A b.S.Base.Revision C D h k,om h r u,om k n p,om d o q,au f m]) T 64 [(0,pt e 0),(3,pt W 0),(4,pt a9 0),(5,.bool b3)] [om d o q,au f m,xE e g b.B.Revision s t d f b.E,.box W (aS x) 35,au bt ab,.box a9 [.int .i64 b4,.string b5,.string b8,bt,.int .i64 bi,.int .i64 bl,.int .i64 bq,.bool bs] 77,om h r u,om k n p,xS g A b.S.Base.Revision C D h k] [aJ ac s b.B.Inputs,aJ aa t b.B.Records,rE o b.Busy,am ad m b.Ran,am ad ab bb,aJ aq A b.S.Rules,aJ ac C b.S.Base.Inputs,aJ aa D b.S.Base.Records,lL r b.S.Memo,oK n b.S.Seen,bu] a w∧iB urec vrec b x b3 b4 b5 b8 bb bi bl bq bs=some y) ?_ ?_
 ·skip
  obtain ⟨N138,e8⟩:∃ N,N=w.heap.size:=⟨_,rfl⟩
  replace hS:=hS.fact (Ak N138) (Nat.le_of_eq e8)
  refine dr [(11,.new N138)] hS fun w hQ hS=>?_
  refine gE [0,1,2,3,4,5] hS fun a hS=>?_
  obtain ⟨hl,ca,hM⟩:=bd hM
  refine dU (i:=6) (j:=10) rfl rfl (by kernel_rfl) rfl rfl ?_ ?_
  ·skip
   skip
   refine id (a7 hS kr rfl rfl (bF _ _ hS.dlt b.B.Records x _ (hS.get 3 rfl) _ ca) fun _ w hR a hk hA=>⟨fx (hk),?_⟩)
   obtain ⟨hm,gi,he,d4⟩:=hR
   obtain rfl:=he.symm
   have hS:=pd hA d4
   refine gE [7,8,9] hS fun a hS=>?_
   have f1:=(hS.get 1 rfl:N138≤w.heap.size)
   refine e1 10 (cE hS fJ rfl fun ex f2 a w hk hS=>⟨fx (hk),?_⟩)
   refine cN 11 (.blk (some ex)) _ (by kernel_rfl) (my (Nat.le_trans f1 f2)) ?_
   refine es 11 hS fun w hS=>?_
   refine gE [12] hS fun a hS=>?_
   refine eD ?_
   exact ⟨_,_,_,_,_,_,_,_,_,_,_,_,hS.mt [7,8,3,2,1,0,5,6,4] [5,4,3,2,0,10,9,8,7,6,11],hM⟩
  skip
  have f3:=(hS.get 0 rfl:N138≤w.heap.size)
  refine id (cE hS fJ rfl fun ey f4 a w hk hS=>⟨fx (hk),?_⟩)
  refine cN 11 (.blk (some ey)) _ (by kernel_rfl) (my (Nat.le_trans f3 f4)) ?_
  refine ec 6 hS kr (bF _ _ hS.dlt b.B.Records x _ (hS.get 3 rfl) _ ca) fun _ w hR a hk hA=>?_
  obtain ⟨hn,gp,he,d6⟩:=hR
  obtain rfl:=he.symm
  have hS:=pd hA d6
  refine gE [7,8,9] hS fun a hS=>?_
  refine es 11 hS fun w hS=>?_
  refine gE [12] hS fun a hS=>?_
  refine eD ?_
  exact ⟨_,_,_,_,_,_,_,_,_,_,_,_,hS.mt [7,8,3,2,0,1,5,6,4] [5,4,3,2,0,10,9,8,7,6,11],hM⟩
 rintro a w ⟨b3,b4,b5,b8,bb,bi,bl,bq,bs,a9,bt,ab,hS,hM⟩
 unfold iB at hM
 refine aI (J:=fun a w=>∃ (b1:Bool),St W0 (MD [xE e g b.B.Revision s t d f b.E,xS g A b.S.Base.Revision C D h k,om h r u,om k n p,om d o q,au f m]) T 64 [(0,pt e 0),(3,pt W 0),(35,.bool b1)] [om d o q,au f m,xE e g b.B.Revision s t d f b.E,.box W (aS x) 35,om h r u,om k n p,xS g A b.S.Base.Revision C D h k] [aJ ac s b.B.Inputs,aJ aa t b.B.Records,rE o b.Busy,am ad m b.Ran,aJ aq A b.S.Rules,aJ ac C b.S.Base.Inputs,aJ aa D b.S.Base.Records,lL r b.S.Memo,oK n b.S.Seen,bu] a w∧eC urec vrec b x b1=some y) ?_ ?_
 ·skip
  refine dr [] hS fun w hQ hS=>?_
  refine gE [0,1] hS fun a hS=>?_
  rcases cd hM with ⟨f5,hM⟩ | ⟨f5,hM⟩
  ·refine gE [2,3,4,5,6,7,8,9,10] hS fun a hS=>?_
   refine eD ?_
   exact ⟨_,hS.mt [0,1,2,3,6,7,8] [0,1,2,3,5,6,7,8,9,10],hM⟩
  refine gE [2,3,4,5,6,7,8,9,10] hS fun a hS=>?_
  refine eD ?_
  exact ⟨_,hS.mt [0,1,2,3,6,7,8] [0,1,2,3,5,6,7,8,9,10],hM⟩
 rintro a w ⟨b1,hS,hM⟩
 unfold eC at hM
 rcases cd hM with ⟨f6,hM⟩ | ⟨f6,hM⟩
 ·refine ai hS fun a hS=>?_
  cases hM
  refine aF hS Tryz.results85 aH ?_
  have hZ:=hS.sl [2,6,4,5,0,1] [4,5,6,7,8,0,1,2,3]
  exact ⟨A,C,D,r,u,n,p,s,t,o,q,f,m,rfl,hZ.dnew,(hZ.get 0 rfl),(hZ.get 1 rfl),(hZ.get 2 rfl),(hZ.get 3 rfl),(hZ.get 4 rfl),(hZ.get 5 rfl),(hZ.get 6 rfl),(hZ.get 7 rfl),(hZ.get 8 rfl)⟩
 refine ai hS fun a hS=>?_
 refine aw ?_
 refine aw ?_
 refine dr [] hS fun w hQ hS=>?_
 refine gE [0,1,2,3,4] hS fun a hS=>?_
 obtain ⟨g4,ed,hM⟩:=bd hM
 obtain ⟨gs,fd,fl⟩:=jT hS rD dE 0 rfl 2 rfl (c:=(aS x)) (key:=x) rfl Gn (zc:=[.bool false]) rfl rfl ed
 obtain rfl:=fd
 refine dy (l:=[]) 5 (v:=.bool g4) rfl (by kernel_rfl) (by kernel_rfl) (by kernel_rfl) (by kernel_rfl) hQ hS (fl rfl rfl bE) rfl rfl rfl fun a hS=>?_
 refine eD ?_
 refine ai hS fun a hS=>?_
 rcases cd hM with ⟨fn,hM⟩ | ⟨fn,hM⟩
 ·refine ai hS fun a hS=>?_
  refine aI (J:=fun a w=>∃ (c0:Int),St W0 (MD [xE e g b.B.Revision s t d f b.E,xS g A b.S.Base.Revision C D h k,om h r u,om k n p,om d o q,au f m]) T 64 [] [om d o q,au f m,xE e g b.B.Revision s t d f c0,om h r u,om k n p,xS g A b.S.Base.Revision C D h k] [aJ ac s b.B.Inputs,aJ aa t b.B.Records,rE o b.Busy,am ad m b.Ran,aJ aq A b.S.Rules,aJ ac C b.S.Base.Inputs,aJ aa D b.S.Base.Records,lL r b.S.Memo,oK n b.S.Seen,bu] a w∧iA b c0=some y) ?_ ?_
  ·skip
   refine ai hS fun a hS=>?_
   obtain ⟨hh,el,hM⟩:=bd hM
   refine kc hS s7 (cq _ _ hS.dlt x _ el) fun _ w hR a hk hA=>?_
   obtain rfl:=hR
   have hS:=bM hA
   exact fz
  rintro a w ⟨c0,hS,hM⟩
  unfold iA at hM
  refine ai hS fun a hS=>?_
  cases hM
  refine aF hS Tryz.results85 aH ?_
  have hZ:=hS.sl [2,5,3,4,0,1] [4,5,6,7,8,0,1,2,3]
  exact ⟨A,C,D,r,u,n,p,s,t,o,q,f,m,rfl,hZ.dnew,(hZ.get 0 rfl),(hZ.get 1 rfl),(hZ.get 2 rfl),(hZ.get 3 rfl),(hZ.get 4 rfl),(hZ.get 5 rfl),(hZ.get 6 rfl),(hZ.get 7 rfl),(hZ.get 8 rfl)⟩
 refine ai hS fun a hS=>?_
 refine aw ?_
 refine dr [(5,.blk (some d))] hS fun w hQ hS=>?_
 refine gE [0,1,2,3,4] hS fun a hS=>?_
 refine e1 5 (uW hS rD dE 0 rfl 2 rfl (c:=(aS x)) (cv:=[.bool true]) (key:=x) (val:=true) rfl rfl rfl rfl rfl fun h8 gu w hk hS=>⟨kp rfl hk iE,?_⟩)
 refine eD ?_
 refine ai hS fun a hS=>?_
 refine aI (J:=fun a w=>∃ (c1:Int) (c2:LI) (c3:LR) (c4:LO) (c5:LK) (c9:Int) (ao:LU) (av:Int) (ax:LI) (ay:LR) (az:LB) (b0:LL) (ak:AM) (cb:Nat) (a0:Value) (X:LV) (Y:AM) (af:Nat) (Z:AM) (ag:Nat) (a1:Value) (a2:Value) (a3:Value) (a4:Value) (a5:Value),St W0 (MD [xE e g b.B.Revision s t d f b.E,xS g A b.S.Base.Revision C D h k,om h r u,om k n p,om d o q,au f m]) T 64 [(0,pt e 0),(3,pt W 0)] [om d ak cb,au a0 X,xE e g c1 a1 a2 d a0 c9,.box W (aS x) 35,om h Y af,om k Z ag,xS g a3 av a4 a5 h k] [aJ ac a1 c2,aJ aa a2 c3,rE ak c4,am ad X c5,aJ aq a3 ao,aJ ac a4 ax,aJ aa a5 ay,lL Y az,oK Z b0,bu] a w∧eB x c1 c2 c3 c4 c5 c9 ao av ax ay az b0=some y) ?_ ?_
 ·skip
  refine ai hS fun a hS=>?_
  obtain ⟨F,eq,hM⟩:=bd hM
  replace hS:=hS.re [2,6,4,5,0,1] [3]
  refine wl rfl (cF hS GF rfl rfl (qH _ _ hS.dltD urec hurec vrec hvrec (aC.mk b.S b.B (cX aA x true b.Busy) b.Ran b.E) x _ _ _ _ _ _ _ _ _ _ _ _ _ _ _ _ _ _ hS.dok (hS.getD 5 rfl) (hS.getD 6 rfl) (hS.getD 7 rfl) (hS.getD 8 rfl) (hS.getD 9 rfl) (hS.getD 1 rfl) (hS.getD 2 rfl) (hS.getD 0 rfl) (hS.getD 4 rfl) (hS.getD 10 rfl) _ eq) fun _ w hR a hk hA=>?_)
  obtain ⟨ho,hp,hq,h9,h0,ha,h1,hr,hs,hb,h2,ht,h3,he,fr,dc,di,dl,co,cs,dn,ds,d0,ck⟩:=hR
  obtain rfl:=he.symm
  have hS:=hA _ fr
  replace hS:=hS.fS (dc.sub (ap _))
  replace hS:=hS.fS (di.sub (ap _))
  replace hS:=hS.fS (dl.sub (ap _))
  replace hS:=hS.fM (co.keep (Kt.refl _ _) (ap _))
  replace hS:=hS.fM (cs.keep (Kt.refl _ _) (ap _))
  replace hS:=hS.fS (dn.sub (ap _))
  replace hS:=hS.fS (ds.sub (ap _))
  replace hS:=hS.fM (d0.keep (Kt.refl _ _) (ap _))
  replace hS:=hS.fR (ck.keep (Kt.refl _ _) (ap _))
  refine ai hS fun a hS=>?_
  rcases cd hM with ⟨fs,hM⟩ | ⟨fs,hM⟩
  ·refine ai hS fun a hS=>?_
   obtain ⟨hi,er,hM⟩:=bd hM
   replace hS:=hS.re [0,1,2,3,4,5] [6]
   refine wl rfl (cF hS GG rfl rfl (rW _ _ hS.dltD urec hurec vrec hvrec (aC.mk (aj.mk F.2.S.Rules (ah.mk F.2.S.Base.Revision F.2.S.Base.Inputs F.2.S.Base.Records) F.2.S.Memo F.2.S.Seen) (ah.mk F.2.B.Revision F.2.B.Inputs F.2.B.Records) F.2.Busy F.2.Ran F.2.E) x _ _ _ _ _ _ _ _ _ _ _ _ _ _ _ _ _ _ hS.dok (hS.getD 8 rfl) (hS.getD 7 rfl) (hS.getD 6 rfl) (hS.getD 5 rfl) (hS.getD 4 rfl) (hS.getD 3 rfl) (hS.getD 2 rfl) (hS.getD 1 rfl) (hS.getD 0 rfl) (hS.getD 19 rfl) _ er) fun _ w hR a hk hA=>?_)
   obtain ⟨hu,hv,hw,hc,h4,hd,h5,hx,hy,hf,h6,hz,h7,he,g0,e0,e2,e3,d1,d2,e4,e5,d3,cl⟩:=hR
   obtain rfl:=he.symm
   have hS:=hA _ g0
   replace hS:=hS.fS (e0.sub (ap _))
   replace hS:=hS.fS (e2.sub (ap _))
   replace hS:=hS.fS (e3.sub (ap _))
   replace hS:=hS.fM (d1.keep (Kt.refl _ _) (ap _))
   replace hS:=hS.fM (d2.keep (Kt.refl _ _) (ap _))
   replace hS:=hS.fS (e4.sub (ap _))
   replace hS:=hS.fS (e5.sub (ap _))
   replace hS:=hS.fM (d3.keep (Kt.refl _ _) (ap _))
   replace hS:=hS.fR (cl.keep (Kt.refl _ _) (ap _))
   exact fz
  exact fz
 rintro a w ⟨c1,c2,c3,c4,c5,c9,ao,av,ax,ay,az,b0,ak,cb,a0,X,Y,af,Z,ag,a1,a2,a3,a4,a5,hS,hM⟩
 unfold eB at hM
 refine dr [(5,.blk (some d))] hS fun w hQ hS=>?_
 refine gE [0,1,2,3,4] hS fun a hS=>?_
 refine e1 5 (FW hS rD dE 0 rfl 2 rfl (c:=(aS x)) (key:=x) rfl rfl rfl fun eT ez w hk hS=>⟨kp rfl hk iE,?_⟩)
 refine eD ?_
 refine EY ?_
 cases hM
 refine aF hS Tryz.results85 aH ?_
 have hZ:=hS.sl [2,6,4,5,0,1] [5,6,7,8,9,1,2,0,4]
 exact ⟨a3,a4,a5,Y,af,Z,ag,a1,a2,eT,ez,a0,X,rfl,hZ.dnew,(hZ.get 0 rfl),(hZ.get 1 rfl),(hZ.get 2 rfl),(hZ.get 3 rfl),(hZ.get 4 rfl),(hZ.get 5 rfl),(hZ.get 6 rfl),(hZ.get 7 rfl),(hZ.get 8 rfl)⟩
def ie (g:ah) (c:Int) (d:LI) (e:LR) (i:LO) (f:LK) (b:Int) (j:LU) (k:Int) (l:LI) (m:LR) (n:LB) (o:LL):Option (ah×LK×Int):=cond ((b:Int) != 0) (some ((g,[],b))) ((iz f).bind fun h=>some (((ah.mk c d e),h,0)))
def kf (urec:aC→ae→Option aC) (c:LK) (d:Int) (e:Int) (f:LI) (g:LR) (h:LO) (i:LK) (j:Int) (k:LU) (l:Int) (m:LI) (n:LR) (o:LB) (p:LL):Option (Fl (Int×Int×LI×LR×LO×LK×Int×LU×Int×LI×LR×LB×LL) (Int×LI×LR×LO×LK×Int×LU×Int×LI×LR×LB×LL)):=cond (decide ((d:Int) < (c.length:Int))) ((bm c d).bind fun q=>(urec (aC.mk (aj.mk k (ah.mk l m n) o p) (ah.mk e f g) h i j) q).bind fun b=>some (.go (IntKind.i64.wrap (d + 1),b.B.Revision,b.B.Inputs,b.B.Records,b.Busy,b.Ran,b.E,b.S.Rules,b.S.Base.Revision,b.S.Base.Inputs,b.S.Base.Records,b.S.Memo,b.S.Seen))) (some (.out (e,f,g,h,i,j,k,l,m,n,o,p)))
def ke (urec:aC→ae→Option aC) (b:LK) (m:ah) (c:Int) (d:LI) (e:LR) (f:LO) (g:LU) (h:Int) (i:LI) (j:LR) (k:LB) (l:LL):Option (ah×LK×Int):=(loop (fun s:Int×Int×LI×LR×LO×LK×Int×LU×Int×LI×LR×LB×LL=>kf urec b s.1 s.2.1 s.2.2.1 s.2.2.2.1 s.2.2.2.2.1 s.2.2.2.2.2.1 s.2.2.2.2.2.2.1 s.2.2.2.2.2.2.2.1 s.2.2.2.2.2.2.2.2.1 s.2.2.2.2.2.2.2.2.2.1 s.2.2.2.2.2.2.2.2.2.2.1 s.2.2.2.2.2.2.2.2.2.2.2.1 s.2.2.2.2.2.2.2.2.2.2.2.2) (0,c,d,e,f,([]:List ae),0,g,h,i,j,k,l)).bind fun r=>ie m r.1 r.2.1 r.2.2.1 r.2.2.2.1 r.2.2.2.2.1 r.2.2.2.2.2.1 r.2.2.2.2.2.2.1 r.2.2.2.2.2.2.2.1 r.2.2.2.2.2.2.2.2.1 r.2.2.2.2.2.2.2.2.2.1 r.2.2.2.2.2.2.2.2.2.2.1 r.2.2.2.2.2.2.2.2.2.2.2
def kP (urec:aC→ae→Option aC) (e:LU) (h:ah) (d:LK):Option (ah×LK×Int):=(ew h).bind fun c=>(jH e c d).bind fun g=>cond ((g:Int) != 0) (some ((c,[],g))) ((qZ e c).bind fun b=>(ew c).bind fun f=>ke urec d c f.Revision f.Inputs f.Records ([]:LO) b.Rules b.Base.Revision b.Base.Inputs b.Base.Records b.Memo b.Seen)
theorem tX (T:Nat→Prop) (W0:World) (hT:TW T W0) (hLv:c6 T W0) (urec:aC→ae→Option aC) (hurec:qO urec) (n:LU) (a3:ah) (c:LK) (v1:Value) (v2:Value) (v3:Value) (v4:Value) (hh:aB aq T W0 v1 n) (hi:aB ac T W0 v2 a3.Inputs) (hj:aB aa T W0 v3 a3.Records) (hl:aB ad T W0 v4 c) (y:ah×LK×Int) (hM:kP urec n a3 c=some y):aY Tryz.prog No 52 [v1,.agg (aO a3 v2 v3).toArray,v4] W0 (fun v w'=>∃ (v5:Value) (v6:Value) (v7:Value) (s3:List Value),v = .tuple #[.agg (aO y.1 v5 v6).toArray,v7,.int .i64 y.2.2]∧aB ac (dT T [au v7 s3]) w' v5 y.1.Inputs∧aB aa (dT T [au v7 s3]) w' v6 y.1.Records∧iy ad T W0 w' [au v7 s3] 35 v7 s3 y.2.1):=by
 refine en Tryz.func52 Tryz.ntmps52 hT fun a hS=>?_
 replace hS:=hS.fact bu (c6.dn hLv)
 replace hS:=hS.fS (aB.dn hh)
 replace hS:=hS.fS (aB.dn hi)
 replace hS:=hS.fS (aB.dn hj)
 replace hS:=hS.fS (aB.dn hl)
 unfold kP at hM
 refine ai hS fun a hS=>?_
 refine kb hS fun x i4 a w hk hS=>?_
 refine ka hS jP fun f i5 a w hk hS=>?_
 refine ai hS fun a hS=>?_
 obtain ⟨b,h0,hM⟩:=bd hM
 refine kc hS uC (dQ _ _ hS.dlt a3 _ _ (hS.get 2 rfl) (hS.get 1 rfl) _ h0) fun _ w hR a hk hA=>?_
 obtain ⟨d,hy,e,hz,he,fd,fl,N⟩:=hR
 obtain rfl:=he.symm
 have hS:=sZ hA fd fl N
 refine go hS fun a w hS=>?_
 refine aw ?_
 refine ai hS fun a hS=>?_
 have hL:=hS
 replace hL:=hL.freeze (R:=ac) 0 rfl 1 rfl
 replace hL:=hL.freeze (R:=aa) 0 rfl 1 rfl
 obtain ⟨js,h3,hM⟩:=bd hM
 refine kc hS ER (o7 _ _ hL.dlt (hL.get 8 rfl) n b c _ _ _ _ (hL.get 7 rfl) (hL.get 1 rfl) (hL.get 0 rfl) (hL.get 4 rfl) _ h3) fun _ w hR a hk hA=>?_
 obtain rfl:=hR
 have hS:=bM hA
 refine ai hS fun a hS=>?_
 rcases cd hM with ⟨h8,hM⟩ | ⟨h8,hM⟩
 ·refine go hS fun a w hS=>?_
  replace hS:=hS.freeze (R:=ac) 0 rfl 1 rfl
  replace hS:=hS.freeze (R:=aa) 0 rfl 1 rfl
  cases hM
  refine aF hS Tryz.results52 (a8 hS rfl 0 rfl fG rfl (fun h=>by cases h) (ar hS rfl (ar hS rfl aH))) ?_
  exact ⟨d,e,.slice none 0 0,[],rfl,(aB.up ⟨.inl rfl,trivial⟩ (hS.get 1 rfl)),(aB.up ⟨.inl rfl,trivial⟩ (hS.get 0 rfl)),q8 _ _ _ _ _ _⟩
 refine ai hS fun a hS=>?_
 refine aI (J:=fun a w=>∃ (bl:Int) (bq:LI) (bs:LR) (bt:LO) (c0:LU) (c1:Int) (c2:LI) (c3:LR) (c4:LB) (c5:LL) (p:Nat) (q:Nat) (c9:Value) (a4:LV) (ca:Value) (a5:LV) (r:Nat) (af:AM) (e2:Nat) (t:Nat) (ag:AM) (e3:Nat) (u:Nat) (ak:AM) (e4:Nat) (cb:Value) (ch:Value) (ck:Value),St W0 No T 60 [(2,v4),(4,pt x 0),(6,pt f 0),(10,pt p 0)] [.box x (aO b d e) 31,.box f [.int .i64 0,.slice none 0 0,.slice none 0 0] 31,aP c9 a4,aE ca a5,om r af e2,.box p [pt q 0,.int .i64 bl,c9,ca,.map (some r),.slice none 0 0,.int .i64 0] 128,om t ag e3,om u ak e4,xS q cb c1 ch ck t u] [aJ ad v4 c,aJ ac d b.Inputs,aJ aa e b.Records,am ac a4 bq,am aa a5 bs,rE af bt,aJ aq cb c0,aJ ac ch c2,aJ aa ck c3,lL ag c4,oK ak c5,bu] a w∧ke urec c b bl bq bs bt c0 c1 c2 c3 c4 c5=some y) ?_ ?_
 ·skip
  refine dr [(2,.bks [])] hS fun w hQ hS=>?_
  refine gE [0,1] hS fun a hS=>?_
  refine dy (l:=[.bks []]) 3 (v:=.agg (aO b d e).toArray) rfl (by kernel_rfl) (by kernel_rfl) (by kernel_rfl) (by kernel_rfl) hQ hS (dV hS rfl fG 3 rfl (uN hS 3 rfl rfl [] rfl rfl bE) (us:=(aO b d e)) rfl rfl (fun h=>by cases h)) rfl rfl rfl fun a hS=>?_
  replace hS:=hS.freeze (R:=ac) 0 rfl 1 rfl
  replace hS:=hS.freeze (R:=aa) 0 rfl 1 rfl
  obtain ⟨k0,di,hM⟩:=bd hM
  refine dU (i:=2) (j:=5) rfl rfl (by kernel_rfl) rfl rfl ?_ ?_
  ·skip
   skip
   replace hS:=hS.re [] [0,1]
   refine id (cF hS ET rfl rfl (qD _ _ hS.dltD n b _ _ _ hS.dok (hS.getD 7 rfl) (hS.getD 1 rfl) (hS.getD 0 rfl) _ di) fun _ w hR a hk hA=>⟨kp rfl hk ta,?_⟩)
   obtain ⟨m,k1,k2,k3,hs,hP,hB,ht,hV,hC,he,fn,fr,fs,eT,eX,h9⟩:=hR
   obtain rfl:=he.symm
   have hS:=hA _ h9
   replace hS:=hS.fS (fn.sub (ap _))
   replace hS:=hS.fS (fr.sub (ap _))
   replace hS:=hS.fS (fs.sub (ap _))
   replace hS:=hS.fM (eT.keep (Kt.refl _ _) (ap _))
   replace hS:=hS.fM (eX.keep (Kt.refl _ _) (ap _))
   obtain ⟨o,dl,hM⟩:=bd hM
   refine dU (i:=4) (j:=5) rfl rfl (by kernel_rfl) rfl rfl ?_ ?_
   ·skip
    skip
    refine id (a7 hS uC rfl rfl (dQ _ _ hS.dlt b _ _ (hS.get 6 rfl) (hS.get 5 rfl) _ dl) fun _ w hR a hk hA=>⟨fx (hk),?_⟩)
    obtain ⟨Z,hD,a0,hE,he,g0,g1,N⟩:=hR
    obtain rfl:=he.symm
    have hS:=sZ hA g0 g1 N
    refine e1 5 (oN ad true aR.bool false hS rfl fun Q i9 a w hk hS=>⟨fx (hk),?_⟩)
    refine dy 6 (v:=.agg #[pt m 0,.int .i64 o.Revision,Z,a0,.map (some Q),.slice none 0 0,.int .i64 0]) rfl (by kernel_rfl) (by kernel_rfl) (by kernel_rfl) rfl hQ hS (br (ps:=[(0,.tmp 25),(1,.tmp 27),(2,.tmp 28)]) hS B4 CG rfl (us:=[[pt m 0],(aO o Z a0),[.map (some Q)]]) ⟨rfl,⟨rfl,⟨rfl,trivial⟩⟩⟩ (ws:=[pt m 0,.int .i64 o.Revision,Z,a0,.map (some Q),.slice none 0 0,.int .i64 0]) rfl) rfl rfl rfl fun a hS=>?_
    refine e1 7 (zM hS rfl (cs:=[pt m 0,.int .i64 o.Revision,Z,a0,.map (some Q),.slice none 0 0,.int .i64 0]) rfl rfl fun e0 et a w hk hS=>⟨fx (hk),?_⟩)
    refine gE [8] hS fun a hS=>?_
    refine eD ?_
    exact ⟨_,_,_,_,_,_,_,_,_,_,_,_,_,_,_,_,_,_,_,_,_,_,_,_,_,_,_,_,hS.mt [8,7,2,3,1,0,5,6,4] [12,9,8,2,1,0,7,6,5,4,3,16],hM⟩
   skip
   refine id (oN ad true aR.bool false hS rfl fun S ib a w hk hS=>⟨fx (hk),?_⟩)
   refine ec 4 hS uC (dQ _ _ hS.dlt b _ _ (hS.get 7 rfl) (hS.get 6 rfl) _ dl) fun _ w hR a hk hA=>?_
   obtain ⟨g,h5,k,h6,he,O,P,N⟩:=hR
   obtain rfl:=he.symm
   have hS:=sZ hA O P N
   refine dy 6 (v:=.agg #[pt m 0,.int .i64 o.Revision,g,k,.map (some S),.slice none 0 0,.int .i64 0]) rfl (by kernel_rfl) (by kernel_rfl) (by kernel_rfl) rfl hQ hS (br (ps:=[(0,.tmp 25),(1,.tmp 27),(2,.tmp 28)]) hS B4 CG rfl (us:=[[pt m 0],(aO o g k),[.map (some S)]]) ⟨rfl,⟨rfl,⟨rfl,trivial⟩⟩⟩ (ws:=[pt m 0,.int .i64 o.Revision,g,k,.map (some S),.slice none 0 0,.int .i64 0]) rfl) rfl rfl rfl fun a hS=>?_
   refine e1 7 (zM hS rfl (cs:=[pt m 0,.int .i64 o.Revision,g,k,.map (some S),.slice none 0 0,.int .i64 0]) rfl rfl fun e0 et a w hk hS=>⟨fx (hk),?_⟩)
   refine gE [8] hS fun a hS=>?_
   refine eD ?_
   exact ⟨_,_,_,_,_,_,_,_,_,_,_,_,_,_,_,_,_,_,_,_,_,_,_,_,_,_,_,_,hS.mt [8,7,1,2,3,0,5,6,4] [12,9,8,1,0,2,7,6,5,4,3,16],hM⟩
  skip
  refine id (oN ad true aR.bool false hS rfl fun U ih a w hk hS=>⟨fx (hk),?_⟩)
  replace hS:=hS.re [] [0,1,2]
  refine e1 2 (cF hS ET rfl rfl (qD _ _ hS.dltD n b _ _ _ hS.dok (hS.getD 8 rfl) (hS.getD 2 rfl) (hS.getD 1 rfl) _ di) fun _ w hR a hk hA=>⟨kp rfl hk ta,?_⟩)
  obtain ⟨V,k4,ks,kt,hu,hW,hF,hv,hX,hG,he,g2,g3,g4,f2,f3,ha⟩:=hR
  obtain rfl:=he.symm
  have hS:=hA _ ha
  replace hS:=hS.fS (g2.sub (ap _))
  replace hS:=hS.fS (g3.sub (ap _))
  replace hS:=hS.fS (g4.sub (ap _))
  replace hS:=hS.fM (f2.keep (Kt.refl _ _) (ap _))
  replace hS:=hS.fM (f3.keep (Kt.refl _ _) (ap _))
  obtain ⟨Y,h4,hM⟩:=bd hM
  refine ec 4 hS uC (dQ _ _ hS.dlt b _ _ (hS.get 7 rfl) (hS.get 6 rfl) _ h4) fun _ w hR a hk hA=>?_
  obtain ⟨g,h5,k,h6,he,O,P,N⟩:=hR
  obtain rfl:=he.symm
  have hS:=sZ hA O P N
  refine dy 6 (v:=.agg #[pt V 0,.int .i64 Y.Revision,g,k,.map (some U),.slice none 0 0,.int .i64 0]) rfl (by kernel_rfl) (by kernel_rfl) (by kernel_rfl) rfl hQ hS (br (ps:=[(0,.tmp 25),(1,.tmp 27),(2,.tmp 28)]) hS B4 CG rfl (us:=[[pt V 0],(aO Y g k),[.map (some U)]]) ⟨rfl,⟨rfl,⟨rfl,trivial⟩⟩⟩ (ws:=[pt V 0,.int .i64 Y.Revision,g,k,.map (some U),.slice none 0 0,.int .i64 0]) rfl) rfl rfl rfl fun a hS=>?_
  refine e1 7 (zM hS rfl (cs:=[pt V 0,.int .i64 Y.Revision,g,k,.map (some U),.slice none 0 0,.int .i64 0]) rfl rfl fun e0 et a w hk hS=>⟨fx (hk),?_⟩)
  refine gE [8] hS fun a hS=>?_
  refine eD ?_
  exact ⟨_,_,_,_,_,_,_,_,_,_,_,_,_,_,_,_,_,_,_,_,_,_,_,_,_,_,_,_,hS.mt [8,7,1,2,6,0,4,5,3] [12,9,8,1,0,7,6,5,4,3,2,16],hM⟩
 rintro a w ⟨bl,bq,bs,bt,c0,c1,c2,c3,c4,c5,p,q,c9,a4,ca,a5,r,af,e2,t,ag,e3,u,ak,e4,cb,ch,ck,hS,hM⟩
 unfold ke at hM
 refine aI (J:=fun a w=>∃ (b1:Int) (b2:LI) (b3:LR) (b4:LO) (W:LK) (M:Int) (b5:LU) (b6:Int) (b8:LI) (b9:LR) (bb:LB) (bi:LL) (ao:AM) (e5:Nat) (cl:Value) (a9:LV) (av:AM) (e8:Nat) (ax:AM) (ea:Nat) (a1:Value) (a2:Value) (co:Value) (cv:Value) (d0:Value),St W0 No T 60 [(4,pt x 0),(6,pt f 0),(10,pt p 0)] [.box x (aO b d e) 31,.box f [.int .i64 0,.slice none 0 0,.slice none 0 0] 31,om r ao e5,au cl a9,xE p q b1 a1 a2 r cl M,om t av e8,om u ax ea,xS q co b6 cv d0 t u] [aJ ac d b.Inputs,aJ aa e b.Records,aJ ac a1 b2,aJ aa a2 b3,rE ao b4,am ad a9 W,aJ aq co b5,aJ ac cv b8,aJ aa d0 b9,lL av bb,oK ax bi,bu] a w∧ie b b1 b2 b3 b4 W M b5 b6 b8 b9 bb bi=some y) ?_ ?_
 ·skip
  refine ai hS fun a hS=>?_
  replace hS:=hS.freeze (R:=ac) 2 rfl 3 rfl
  replace hS:=hS.freeze (R:=aa) 2 rfl 5 rfl
  replace hS:=hS.nilRow ad 35 (by decide)
  obtain ⟨r1,hg,hMo1⟩:=bd hM
  refine bB _ (fun s a w=>∃ (X:Int) (z:Int) (A:LI) (B:LR) (C:LO) (D:LK) (E:Int) (F:LU) (G:Int) (H:LI) (I:LR) (K:LB) (L:LL) (ay:AM) (ed:Nat) (d1:Value) (ab:LV) (az:AM) (el:Nat) (b0:AM) (eq:Nat) (d2:Value) (d3:Value) (d4:Value) (d6:Value) (dc:Value),(X,z,A,B,C,D,E,F,G,H,I,K,L)=s∧St W0 No T 60 [(4,pt x 0),(6,pt f 0),(10,pt p 0),(31,v4),(32,.int .i64 (c.length:Int)),(33,.int .i64 X)] [.box x (aO b d e) 31,.box f [.int .i64 0,.slice none 0 0,.slice none 0 0] 31,om r ay ed,au d1 ab,xE p q z d2 d3 r d1 E,om t az el,om u b0 eq,xS q d4 G d6 dc t u] [aJ ad v4 c,aJ ac d b.Inputs,aJ aa e b.Records,aJ ac d2 A,aJ aa d3 B,rE ay C,am ad ab D,aJ aq d4 F,aJ ac d6 H,aJ aa dc I,lL az K,oK b0 L,bu] a w) hg ⟨_,_,_,_,_,_,_,_,_,_,_,_,_,_,_,_,_,_,_,_,_,_,_,_,_,_,rfl,hS.mt [1,2,3,0,4,5,6,7] [3,4,5,2,1,8,0,9,10,11,12,13,14]⟩ ?_
  rintro s a w f1 ⟨X,z,A,B,C,D,E,F,G,H,I,K,L,ay,ed,d1,ab,az,el,b0,eq,d2,d3,d4,d6,dc,rfl,hS⟩ hM hf1
  have hM:kf urec c X z A B C D E F G H I K L=some f1:=hM
  unfold kf at hM
  refine ai hS fun a hS=>?_
  refine aw ?_
  rcases cd hM with ⟨hb,hM⟩ | ⟨hb,hM⟩
  ·refine ai hS fun a hS=>?_
   refine aw ?_
   refine ai hS fun a hS=>?_
   obtain ⟨h7,gu,hM⟩:=bd hM
   refine wl rfl (bf (R:=ad) hS nI fY rfl rfl 0 rfl gu rfl fun hw it hH hc a hS=>?_)
   obtain rfl:=hc
   refine ai hS fun a hS=>?_
   refine ka hS gM fun hx ii a w hk hS=>?_
   refine go hS fun a w hS=>?_
   obtain ⟨jc,h2,hM⟩:=bd hM
   replace hS:=hS.re [5,8,6,7,3,4] [0,1,2]
   refine wl rfl (cF hS EU rfl rfl (hurec _ _ hS.dltD (aC.mk (aj.mk F (ah.mk G H I) K L) (ah.mk z A B) C D E) h7 _ _ _ _ _ _ _ _ _ _ _ _ _ _ _ _ _ _ hS.dok (hS.getD 8 rfl) (hS.getD 9 rfl) (hS.getD 10 rfl) (hS.getD 11 rfl) (hS.getD 12 rfl) (hS.getD 4 rfl) (hS.getD 5 rfl) (hS.getD 6 rfl) (hS.getD 7 rfl) (hS.getD 13 rfl) _ h2) fun _ w hR a hk hA=>?_)
   obtain ⟨kv,kx,l0,hY,hI,i0,hK,l1,l2,i2,hN,la,hO,he,hd,g5,g6,g7,f4,f5,g8,gb,f6,ez⟩:=hR
   obtain rfl:=he.symm
   have hS:=hA _ hd
   replace hS:=hS.fS (g5.sub (ap _))
   replace hS:=hS.fS (g6.sub (ap _))
   replace hS:=hS.fS (g7.sub (ap _))
   replace hS:=hS.fM (f4.keep (Kt.refl _ _) (ap _))
   replace hS:=hS.fM (f5.keep (Kt.refl _ _) (ap _))
   replace hS:=hS.fS (g8.sub (ap _))
   replace hS:=hS.fS (gb.sub (ap _))
   replace hS:=hS.fM (f6.keep (Kt.refl _ _) (ap _))
   replace hS:=hS.fR (ez.keep (Kt.refl _ _) (ap _))
   exact fz
  refine ai hS fun a hS=>?_
  cases hM
  have hr:=hf1 _ rfl
  subst hr
  have hM:ie b z A B C D E F G H I K L=some y:=hMo1
  exact ⟨_,_,_,_,_,_,_,_,_,_,_,_,_,_,_,_,_,_,_,_,_,_,_,_,_,hS.mt [0,1,2,3,4,5,6,7] [1,2,3,4,5,6,7,8,9,10,11,12],hM⟩
 rintro a w ⟨b1,b2,b3,b4,W,M,b5,b6,b8,b9,bb,bi,ao,e5,cl,a9,av,e8,ax,ea,a1,a2,co,cv,d0,hS,hM⟩
 unfold ie at hM
 refine aw ?_
 refine ai hS fun a hS=>?_
 rcases cd hM with ⟨hf,hM⟩ | ⟨hf,hM⟩
 ·refine ai hS fun a hS=>?_
  refine aw ?_
  refine dr [(5,.blk (some f))] hS fun w hQ hS=>?_
  refine gE [0,1,2,3] hS fun a hS=>?_
  refine dy (l:=[.blk (some f)]) 4 (v:=.int .i64 M) rfl (by kernel_rfl) (by kernel_rfl) (by kernel_rfl) (by kernel_rfl) hQ hS (dV hS rfl HE 4 rfl (iv hS 4 rfl rfl 1 rfl rfl (by decide) bE) (us:=[.int .i64 M]) rfl rfl (fun _=>rfl)) rfl rfl rfl fun a hS=>?_
  refine es 5 hS fun w hS=>?_
  refine gE [6,7] hS fun a hS=>?_
  refine eD ?_
  refine ai hS fun a hS=>?_
  cases hM
  refine aF hS Tryz.results52 (a8 hS rfl 1 rfl fG rfl (fun h=>by cases h) (ar hS rfl (ar hS rfl aH))) ?_
  exact ⟨d,e,.slice none 0 0,[],rfl,(aB.up ⟨.inl rfl,trivial⟩ (hS.get 0 rfl)),(aB.up ⟨.inl rfl,trivial⟩ (hS.get 1 rfl)),q8 _ _ _ _ _ _⟩
 refine ai hS fun a hS=>?_
 refine aw ?_
 refine dr [(9,.blk (some f))] hS fun w hQ hS=>?_
 refine gE [0,1,2,3,4,5,6,7] hS fun a hS=>?_
 have hL:=hS
 replace hL:=hL.freeze (R:=ad) 3 rfl 5 rfl
 obtain ⟨jb,h1,hM⟩:=bd hM
 refine ec 8 hS G4 (qB _ _ hL.dlt (hL.get 12 rfl) W _ (hL.get 0 rfl) _ h1) fun _ w hR a hk hA=>?_
 obtain ⟨gp,er,he,⟨ey,ex,gi⟩⟩:=hR
 obtain rfl:=he.symm
 have hS:=hA [au gp er] (gS ⟨ey,by decide⟩ ex) (s4 _)
 replace hS:=hS.fR gi
 refine es 9 hS fun w hS=>?_
 refine gE [10,11] hS fun a hS=>?_
 refine eD ?_
 refine ai hS fun a hS=>?_
 cases hM
 refine aF hS Tryz.results52 (a8 hS rfl 2 rfl fG rfl (fun h=>by cases h) (ar hS rfl (ar hS rfl aH))) ?_
 exact ⟨a1,a2,gp,er,rfl,(aB.up ⟨.inr (List.mem_of_getElem? (i:=0) rfl),trivial⟩ (hS.get 3 rfl)),(aB.up ⟨.inr (List.mem_of_getElem? (i:=0) rfl),trivial⟩ (hS.get 4 rfl)),hS.retOwn ⟨.inr (List.mem_of_getElem? (i:=0) rfl),trivial⟩ 0 rfl 0 rfl⟩
end
end
section
open Go.RowKit
noncomputable def DO:Nat→aj→ae→Option (ByteArray×aj)
  | 0=>fun _ _=>none
  | f + 1=>dx (DO f)
theorem Ad:∀ f,lr (DO f)
  | 0=>by
    unfold lr
    intros
    rename_i hM
    cases hM
  | f + 1=>by
    have ih:=Ad f
    unfold lr
    intros
    apply qE <;> first | assumption | exact ih
noncomputable def vv:aj→ae→Option (ByteArray×aj):=DO 40
theorem Je:lr vv:=Ad 40
noncomputable def A0:Nat→aC→ae→Option aC
  | 0=>fun _ _=>none
  | f + 1=>iO (A0 f) vv
theorem Ac:∀ f,qO (A0 f)
  | 0=>by
    unfold qO
    intros
    rename_i hM
    cases hM
  | f + 1=>by
    have ih:=Ac f
    unfold qO
    intros
    apply sJ <;> first | assumption | exact ih | exact Je
noncomputable def uu:aC→ae→Option aC:=A0 40
theorem Jv:qO uu:=Ac 40
end
section
set_option maxRecDepth 100000
set_option maxHeartbeats 4000000
open Go.RowKit
noncomputable section
def m7 (b:LR):Option LR:=some (b)
def kF (b:Int) (c:LR):Option (Fl (LR×Int) (LR)):=some (.go (c,IntKind.i64.wrap (b + 1)))
def kG (f:LR) (e:ae) (d:LR) (c:Int):Option (Fl (LR×Int) (LR)):=cond (decide ((c:Int) < (f.length:Int))) ((bm f c).bind fun b=>cond (!((b.Key.Kind:Int) == e.Kind && b.Key.Text.toList == e.Text.toList)) (gd (bG (d.length + ([b]).length)) <| kF c (d ++ ([b]))) (kF c d)) (some (.out d))
def mJ (c:LR) (b:ae):Option LR:=(loop (fun s:LR×Int=>kG c b s.1 s.2) (([]:List al),0)).bind fun r=>m7 r
theorem sE (T:Nat→Prop) (W0:World) (hT:TW T W0) (e:LR) (d:ae) (r:Value) (G:aB aa T W0 r e) (y:LR) (hM:mJ e d=some y):aY Tryz.prog No 82 [r,.agg (aS d).toArray] W0 (fun v w'=>∃ (D:Value) (oW:List Value),v=D∧iy aa T W0 w' [aE D oW] 77 D oW y):=by
 refine en Tryz.func82 Tryz.ntmps82 hT fun a hS=>?_
 replace hS:=hS.fS (aB.dn G)
 unfold mJ at hM
 refine ai hS fun a hS=>?_
 refine kb hS fun g N a w hk hS=>?_
 refine ai hS fun a hS=>?_
 refine aI (J:=fun a w=>∃ (m:LR) (j:Value) (h:LV),St W0 No T 24 [(5,j)] [aE j h] [am aa h m] a w∧m7 m=some y) ?_ ?_
 ·skip
  refine ai hS fun a hS=>?_
  replace hS:=hS.nilRow aa 77 (by decide)
  obtain ⟨S,F,hMo1⟩:=bd hM
  refine bB _ (fun s a w=>∃ (f:LR) (c:Int) (o:Value) (k:LV),(f,c)=s∧St W0 No T 24 [(3,pt g 0),(5,o),(8,r),(9,.int .i64 (e.length:Int)),(10,.int .i64 c)] [aE o k,.box g (aS d) 35] [am aa k f,aJ aa r e] a w) F ⟨_,_,_,_,rfl,hS.mt [0,1] [0,1]⟩ ?_
  rintro s a w E ⟨f,c,o,k,rfl,hS⟩ hM hf1
  have hM:kG e d f c=some E:=hM
  unfold kG at hM
  refine ai hS fun a hS=>?_
  refine aw ?_
  rcases cd hM with ⟨z,hM⟩ | ⟨z,hM⟩
  ·refine ai hS fun a hS=>?_
   refine aI (J:=fun a w=>∃ (n:LR) (p:Value) (l:LV),St W0 No T 24 [(3,pt g 0),(5,p),(8,r),(9,.int .i64 (e.length:Int)),(10,.int .i64 c)] [aE p l,.box g (aS d) 35] [am aa l n,aJ aa r e] a w∧kF c n=some E) ?_ ?_
   ·skip
    refine ai hS fun a hS=>?_
    obtain ⟨b,t,hM⟩:=bd hM
    refine wl rfl (bf (R:=aa) hS nH kQ rfl rfl 1 rfl t rfl fun H P L A a hS=>?_)
    obtain ⟨q,rfl,u⟩:=A
    replace hS:=hS.fS u
    refine ai hS fun a hS=>?_
    refine ka hS fJ fun I O a w hk hS=>?_
    refine go hS fun a w hS=>?_
    refine wl rfl (ky (v:=.bool (!((b.Key.Kind:Int) == d.Kind && b.Key.Text.toList == d.Text.toList))) hS (wh hS rfl rfl) rfl rfl fun a hS=>?_)
    refine ai hS fun a hS=>?_
    rcases cd hM with ⟨B,hM⟩ | ⟨B,hM⟩
    ·refine ai hS fun a hS=>?_
     refine wl rfl (aZ (ps:=[(0,.tmp 19)]) hS pp fJ (zl:=[.int .i64 0,.string (ByteArray.mk #[]),.string (ByteArray.mk #[]),.slice none 0 0,.int .i64 0,.int .i64 0,.int .i64 0,.bool false]) (by kernel_rfl) rfl (us:=[(aX b q)]) ⟨rfl,trivial⟩ (ws:=(aX b q)) rfl rfl rfl rfl fun K a w hk hS=>?_)
     replace hS:=hS.lit (R:=aa) (us:=(aX b q)) (xs:=[b]) 0 rfl (by decide) (aD.one_ (R:=aa) (x:=b) (⟨_,rfl,(hS.get 0 rfl)⟩)) rfl rfl
     replace hS:=hS.freeze (R:=aa) 0 rfl 0 rfl
     obtain ⟨C,hM⟩:=ba hM
     refine wl rfl (bC (R:=aa) (xs:=f) (ys:=[b]) hS pp (by decide) (by decide) rfl rfl 1 rfl 4 rfl 0 rfl C rfl fun Q M a w hk hS=>?_)
     exact fz
    exact fz
   rintro a w ⟨n,p,l,hS,hM⟩
   unfold kF at hM
   exact fz
  exact fz
 rintro a w ⟨m,j,h,hS,hM⟩
 unfold m7 at hM
 refine ai hS fun a hS=>?_
 cases hM
 refine aF hS rfl (ar hS rfl aH) ?_
 exact ⟨j,h,rfl,hS.retOwn ⟨.inr (List.mem_of_getElem? (i:=0) rfl),trivial⟩ 0 rfl 0 rfl⟩
def nO (b:ah) (c:LR):Option ah:=some ((ah.mk b.Revision b.Inputs c))
def k5 (c:Int) (b:LR):Option (Fl (Int×LR) (LR)):=some (.go (IntKind.i64.wrap (c + 1),b))
def k6 (e:cJ) (b:Int) (c:LR):Option (Fl (Int×LR) (LR)):=cond (decide ((b:Int) < (e.Stack.length:Int))) ((bm e.Stack b).bind fun d=>(bZ d.Key).bind fun f=>cond f ((mJ c d.Key).bind fun g=>k5 b g) (k5 b c)) (some (.out c))
def mf (c:cJ):Option ah:=(ew c.Base).bind fun b=>(loop (fun s:Int×LR=>k6 c s.1 s.2) (0,b.Records)).bind fun r=>nO b r
theorem u9 (T:Nat→Prop) (W0:World) (hT:TW T W0) (b:cJ) (Z:Value) (v2:Value) (v3:Value) (v4:Value) (u:Value) (v6:Value) (S:aB aq T W0 Z b.Rules) (U:aB ac T W0 v2 b.Base.Inputs) (V:aB aa T W0 v3 b.Base.Records) (W:aB ad T W0 v4 b.Goals) (X:aB an T W0 u b.Stack) (Y:aB ad T W0 v6 b.Ran) (y:ah) (hM:mf b=some y):aY Tryz.prog No 50 [.agg (rx b Z v2 v3 v4 u v6).toArray] W0 (fun v w'=>∃ (C:Value) (s3:List Value) (D:Value) (oa:List Value),v = .agg (aO y C D).toArray∧iy ac T W0 w' [aP C s3,aE D oa] 61 C s3 y.Inputs∧iy aa T W0 w' [aP C s3,aE D oa] 77 D oa y.Records∧(∀ k,C.ownBlock=some k→D.ownBlock ≠ some k)):=by
 refine en Tryz.func50 Tryz.ntmps50 hT fun a hS=>?_
 replace hS:=hS.fS (aB.dn S)
 replace hS:=hS.fS (aB.dn U)
 replace hS:=hS.fS (aB.dn V)
 replace hS:=hS.fS (aB.dn W)
 replace hS:=hS.fS (aB.dn X)
 replace hS:=hS.fS (aB.dn Y)
 unfold mf at hM
 refine ai hS fun a hS=>?_
 refine kb hS fun a4 ak a w hk hS=>?_
 refine ka hS jP fun f ao a w hk hS=>?_
 refine ai hS fun a hS=>?_
 obtain ⟨d,F,hM⟩:=bd hM
 refine kc hS uC (dQ _ _ hS.dlt b.Base _ _ (hS.get 4 rfl) (hS.get 3 rfl) _ F) fun _ w hR a hk hA=>?_
 obtain ⟨e,c,b1,ab,he,z,A,P⟩:=hR
 obtain rfl:=he.symm
 have hS:=sZ hA z A P
 refine ka hS jP fun g av a w hk hS=>?_
 refine go hS fun a w hS=>?_
 refine aI (J:=fun a w=>∃ (n:LR) (m:Value) (l:LV),St W0 No T 27 [(2,pt f 0),(3,pt g 0)] [.box f [.int .i64 0,.slice none 0 0,.slice none 0 0] 31,aP e c,aE m l,.box g (aO d e m) 31] [am ac c d.Inputs,am aa l n] a w∧nO d n=some y) ?_ ?_
 ·skip
  refine ai hS fun a hS=>?_
  obtain ⟨r1,Q,hMo1⟩:=bd hM
  refine bB _ (fun s a w=>∃ (h:Int) (j:LR) (r:Value) (p:LV),(h,j)=s∧St W0 No T 27 [(2,pt f 0),(3,pt g 0),(10,u),(11,.int .i64 (b.Stack.length:Int)),(12,.int .i64 h)] [.box f [.int .i64 0,.slice none 0 0,.slice none 0 0] 31,aP e c,aE r p,.box g (aO d e r) 31] [aJ an u b.Stack,am ac c d.Inputs,am aa p j] a w) Q ⟨_,_,_,_,rfl,hS.mt [3,1,2,0] [3,1,0]⟩ ?_
  rintro s a w O ⟨h,j,r,p,rfl,hS⟩ hM hf1
  have hM:k6 b h j=some O:=hM
  unfold k6 at hM
  refine ai hS fun a hS=>?_
  refine aw ?_
  rcases cd hM with ⟨L,hM⟩ | ⟨L,hM⟩
  ·refine ai hS fun a hS=>?_
   refine aI (J:=fun a w=>∃ (o:LR) (t:Value) (q:LV),St W0 No T 27 [(2,pt f 0),(3,pt g 0),(10,u),(11,.int .i64 (b.Stack.length:Int)),(12,.int .i64 h)] [.box f [.int .i64 0,.slice none 0 0,.slice none 0 0] 31,aP e c,aE t q,.box g (aO d e t) 31] [aJ an u b.Stack,am ac c d.Inputs,am aa q o] a w∧k5 h o=some O) ?_ ?_
   ·skip
    refine ai hS fun a hS=>?_
    obtain ⟨x,E,hM⟩:=bd hM
    refine wl rfl (bf (R:=an) hS vn qM rfl rfl 0 rfl E rfl fun a5 ay af M a hS=>?_)
    obtain ⟨b2,b3,rfl,I,K⟩:=M
    replace hS:=hS.fS I
    replace hS:=hS.fS K
    refine ai hS fun a hS=>?_
    refine ka hS pE fun a9 ax a w hk hS=>?_
    refine go hS fun a w hS=>?_
    obtain ⟨az,G,hM⟩:=bd hM
    refine kc hS s7 (cq _ _ hS.dlt x.Key _ G) fun _ w hR a hk hA=>?_
    obtain rfl:=hR
    have hS:=bM hA
    refine ai hS fun a hS=>?_
    rcases cd hM with ⟨N,hM⟩ | ⟨N,hM⟩
    ·refine ai hS fun a hS=>?_
     replace hS:=hS.freeze (R:=aa) 3 rfl 5 rfl
     obtain ⟨b0,H,hM⟩:=bd hM
     refine kc hS G3 (sE _ _ hS.dlt j x.Key _ (hS.get 0 rfl) _ H) fun _ w hR a hk hA=>?_
     obtain ⟨b4,ag,he,B⟩:=hR
     obtain rfl:=he.symm
     have hS:=pd hA B
     exact fz
    exact fz
   rintro a w ⟨o,t,q,hS,hM⟩
   unfold k5 at hM
   exact fz
  exact fz
 rintro a w ⟨n,m,l,hS,hM⟩
 unfold nO at hM
 refine go hS fun a w hS=>?_
 cases hM
 refine aF hS rfl (rC 0 hS) ?_
 exact ⟨e,c,m,l,rfl,hS.retOwn ⟨.inr (List.mem_of_getElem? (i:=1) rfl),⟨.inr (List.mem_of_getElem? (i:=2) rfl),trivial⟩⟩ 1 rfl 0 rfl,hS.retOwn ⟨.inr (List.mem_of_getElem? (i:=1) rfl),⟨.inr (List.mem_of_getElem? (i:=2) rfl),trivial⟩⟩ 2 rfl 1 rfl,(hS.apart2 1 rfl 2 rfl (by decide))⟩
def mK (b:al):Option Int:=some (IntKind.i64.wrap ((IntKind.i64.wrap ((IntKind.i64.wrap (16 + (b.Key.Text.size:Int))) + (b.Value.size:Int))) + (IntKind.i64.wrap (8 * (b.Reads.length:Int)))))
theorem pT (T:Nat→Prop) (W0:World) (hT:TW T W0) (b:al) (d:Value) (c:aB ad T W0 d b.Reads) (y:Int) (hM:mK b=some y):aY Tryz.prog No 114 [.agg (aX b d).toArray] W0 (fun v w'=>v = .int .i64 y):=by
 refine en Tryz.func114 Tryz.ntmps114 hT fun a hS=>?_
 replace hS:=hS.fS (aB.dn c)
 unfold mK at hM
 refine ai hS fun a hS=>?_
 refine kb hS fun e f a w hk hS=>?_
 exact fz
def mm (d:al) (e:al):Option Bool:=(mK d).bind fun b=>(mK e).bind fun c=>cond ((IntKind.i64.wrap (d.Cost * c):Int) != (IntKind.i64.wrap (e.Cost * b))) (some (decide ((IntKind.i64.wrap (d.Cost * c):Int) < (IntKind.i64.wrap (e.Cost * b))))) (cond ((b:Int) != c) (some (decide ((c:Int) < b))) ((iW d.Key e.Key).bind fun f=>some (decide ((f:Int) < 0))))
theorem ve (T:Nat→Prop) (W0:World) (hT:TW T W0) (hLv:c6 T W0) (b:al) (c:al) (k:Value) (l:Value) (i:aB ad T W0 k b.Reads) (j:aB ad T W0 l c.Reads) (y:Bool) (hM:mm b c=some y):aY Tryz.prog No 113 [.agg (aX b k).toArray,.agg (aX c l).toArray] W0 (fun v w'=>v = .bool y):=by
 refine en Tryz.func113 Tryz.ntmps113 hT fun a hS=>?_
 replace hS:=hS.fact bu (c6.dn hLv)
 replace hS:=hS.fS (aB.dn i)
 replace hS:=hS.fS (aB.dn j)
 unfold mm at hM
 refine ai hS fun a hS=>?_
 refine kb hS fun m o a w hk hS=>?_
 refine kb hS fun n p a w hk hS=>?_
 refine ai hS fun a hS=>?_
 refine aw ?_
 refine dr [] hS fun w hQ hS=>?_
 refine gE [0,2] hS fun a hS=>?_
 obtain ⟨q,d,hM⟩:=bd hM
 refine ec 1 hS Bj (pT _ _ hS.dlt b _ (hS.get 1 rfl) _ d) fun _ w hR a hk hA=>?_
 obtain rfl:=hR
 have hS:=bM hA
 obtain ⟨r,e,hM⟩:=bd hM
 refine ec 3 hS Bj (pT _ _ hS.dlt c _ (hS.get 0 rfl) _ e) fun _ w hR a hk hA=>?_
 obtain rfl:=hR
 have hS:=bM hA
 refine gE [4,5] hS fun a hS=>?_
 refine eD ?_
 refine ai hS fun a hS=>?_
 refine aw ?_
 refine ai hS fun a hS=>?_
 rcases cd hM with ⟨g,hM⟩ | ⟨g,hM⟩
 ·exact fz
 refine ai hS fun a hS=>?_
 rcases cd hM with ⟨h,hM⟩ | ⟨h,hM⟩
 ·exact fz
 refine ai hS fun a hS=>?_
 obtain ⟨s,f,hM⟩:=bd hM
 refine kc hS As (lz _ _ hS.dlt (hS.get 2 rfl) b.Key c.Key _ f) fun _ w hR a hk hA=>?_
 obtain rfl:=hR
 have hS:=bM hA
 exact fz
def oG (b:LR):Option LR:=some (b)
def mn (b:Int) (c:LR):Option (Fl (LR×Int) (LR)):=some (.go (c,IntKind.i64.wrap (b + 1)))
def mo (d:LR) (g:Int) (c:al) (e:Int):Option (Fl (LR×Int) (LR)):=(ql d 0 e).bind fun b=>(ql d e d.length).bind fun f=>gd (bG (([]:List al).length + b.length)) <| gd (bG ((([]:List al) ++ b).length + ([c]).length)) <| gd (bG (((([]:List al) ++ b) ++ ([c])).length + f.length)) <| mn g (((([]:List al) ++ b) ++ ([c])) ++ f)
def mp (c:LR) (d:al) (b:Int):Option (Fl (Int) (Int)):=cond (decide ((b:Int) < (c.length:Int))) ((bm c b).bind fun e=>(mm e d).bind fun f=>cond f (some (.go (IntKind.i64.wrap (b + 1)))) (some (.out b))) (some (.out b))
def mq (e:LR) (c:LR) (b:Int):Option (Fl (LR×Int) (LR)):=cond (decide ((b:Int) < (e.length:Int))) ((bm e b).bind fun d=>(loop (fun s:Int=>mp c d s) 0).bind fun r=>mo c b d r) (some (.out c))
def nE (b:LR):Option LR:=(loop (fun s:LR×Int=>mq b s.1 s.2) (([]:List al),0)).bind fun r=>oG r
theorem vQ (T:Nat→Prop) (W0:World) (hT:TW T W0) (hLv:c6 T W0) (e:LR) (o:Value) (b0:aB aa T W0 o e) (y:LR) (hM:nE e=some y):aY Tryz.prog No 83 [o] W0 (fun v w'=>∃ (G:Value) (oW:List Value),v=G∧iy aa T W0 w' [aE G oW] 77 G oW y):=by
 refine en Tryz.func83 Tryz.ntmps83 hT fun a hS=>?_
 replace hS:=hS.fact bu (c6.dn hLv)
 replace hS:=hS.fS (aB.dn b0)
 unfold nE at hM
 refine ai hS fun a hS=>?_
 refine aI (J:=fun a w=>∃ (E:LR) (u:Value) (q:LV),St W0 No T 40 [(3,u)] [aE u q] [am aa q E,bu] a w∧oG E=some y) ?_ ?_
 ·skip
  refine ai hS fun a hS=>?_
  replace hS:=hS.nilRow aa 77 (by decide)
  obtain ⟨r1,ay,hMo1⟩:=bd hM
  refine bB _ (fun s a w=>∃ (f:LR) (d:Int) (m:Value) (g:LV),(f,d)=s∧St W0 No T 40 [(3,m),(7,o),(8,.int .i64 (e.length:Int)),(9,.int .i64 d)] [aE m g] [am aa g f,aJ aa o e,bu] a w) ay ⟨_,_,_,_,rfl,hS.mt [0] [0,1,2]⟩ ?_
  rintro s a w f1 ⟨f,d,m,g,rfl,hS⟩ hM hf1
  have hM:mq e f d=some f1:=hM
  unfold mq at hM
  refine ai hS fun a hS=>?_
  refine aw ?_
  rcases cd hM with ⟨a1,hM⟩ | ⟨a1,hM⟩
  ·refine ai hS fun a hS=>?_
   refine aI (J:=fun a w=>∃ (F:LR) (H:Value) (z:LV),St W0 No T 40 [(3,H),(7,o),(8,.int .i64 (e.length:Int)),(9,.int .i64 d)] [aE H z] [am aa z F,aJ aa o e,bu] a w∧mn d F=some f1) ?_ ?_
   ·skip
    refine ai hS fun a hS=>?_
    obtain ⟨b,O,hM⟩:=bd hM
    refine wl rfl (bf (R:=aa) hS nH kQ rfl rfl 1 rfl O rfl fun b1 bi b4 a2 a hS=>?_)
    obtain ⟨c,rfl,V⟩:=a2
    replace hS:=hS.fS V
    refine ai hS fun a hS=>?_
    refine ka hS fJ fun p bb a w hk hS=>?_
    refine go hS fun a w hS=>?_
    refine aI (J:=fun a w=>∃ (D:Int),St W0 No T 40 [(3,m),(5,pt p 0),(6,.int .i64 D),(7,o),(8,.int .i64 (e.length:Int)),(9,.int .i64 d)] [aE m g,.box p (aX b c) 77] [am aa g f,aJ aa o e,aJ ad c b.Reads,bu] a w∧mo f d b D=some f1) ?_ ?_
    ·skip
     refine ai hS fun a hS=>?_
     obtain ⟨r2,az,hMo2⟩:=bd hM
     refine bB _ (fun s a w=>∃ (t:Int),t=s∧St W0 No T 40 [(3,m),(5,pt p 0),(6,.int .i64 t),(7,o),(8,.int .i64 (e.length:Int)),(9,.int .i64 d)] [aE m g,.box p (aX b c) 77] [am aa g f,aJ aa o e,aJ ad c b.Reads,bu] a w) az ⟨_,rfl,hS.mt [1,0] [2,3,0,4]⟩ ?_
     rintro s a w f2 ⟨t,rfl,hS⟩ hM hf2
     have hM:mp f b t=some f2:=hM
     unfold mp at hM
     refine aw ?_
     refine aw ?_
     refine dr [] hS fun w hQ hS=>?_
     refine gE [0,1,2,3,4] hS fun a hS=>?_
     rcases cd hM with ⟨r,hM⟩ | ⟨r,hM⟩
     ·refine gE [5,6] hS fun a hS=>?_
      obtain ⟨A,P,hM⟩:=bd hM
      obtain ⟨X,ag,bl,b5,a3,a4,a5,a9⟩:=ni (R:=aa) hS nH kQ 0 rfl 0 rfl P
      obtain ⟨N,rfl,W⟩:=a3
      replace hS:=hS.fS W
      refine we 7 (v:=pt X ag) rfl (by kernel_rfl) (by kernel_rfl) (by kernel_rfl) rfl hQ hS (a9 rfl rfl) rfl rfl rfl r rfl rfl fun a hS=>?_
      refine we (l:=[]) 8 (v:=.agg (aX A N).toArray) rfl (by kernel_rfl) (by kernel_rfl) (by kernel_rfl) (by kernel_rfl) hQ hS (cg (k:=0) hS kQ 0 rfl a4 a5 rfl bE (us:=(aX A N)) rfl rfl (fun h=>by cases h)) rfl rfl rfl r rfl rfl fun a hS=>?_
      refine gE [9] hS fun a hS=>?_
      obtain ⟨bq,U,hM⟩:=bd hM
      refine bV (i:=10) rfl (by kernel_rfl) hS rfl rfl rfl r (a7 hS GE rfl rfl (ve _ _ hS.dlt (hS.get 4 rfl) A b _ _ (hS.get 0 rfl) (hS.get 3 rfl) _ U) fun _ w hR a hk hA=>⟨fx (hk),?_⟩)
      obtain rfl:=hR
      have hS:=bM hA
      refine gE [11] hS fun a hS=>?_
      refine eD ?_
      exact fz
     refine gE [5,6,7,8,9,10,11] hS fun a hS=>?_
     refine eD ?_
     exact fz
    rintro a w ⟨D,hS,hM⟩
    unfold mo at hM
    replace hS:=hS.nilRow aa 77 (by decide)
    refine dr [(3,.blk (Value.ownBlock (.slice none 0 0))),(6,.any),(10,.any)] hS fun w hQ hS=>?_
    refine gE [0,1] hS fun a hS=>?_
    obtain ⟨n,Q,hM⟩:=bd hM
    obtain ⟨ak,I,ab⟩:=uJ (R:=aa) hS nH kQ 1 rfl 1 rfl Q
    refine dy 2 (v:=ak) rfl (by kernel_rfl) (by kernel_rfl) (by kernel_rfl) rfl hQ hS (ab (k1:=.i64) rfl (.inr ⟨rfl,rfl⟩) (.inl ⟨_,rfl,rfl⟩)) rfl rfl rfl fun a hS=>?_
    refine dy (l:=[.blk (Value.ownBlock (.slice none 0 0))]) 4 (v:=.agg (aX b c).toArray) rfl (by kernel_rfl) (by kernel_rfl) (by kernel_rfl) (by kernel_rfl) hQ hS (dV hS rfl kQ 2 rfl (iv hS 2 rfl rfl 0 rfl rfl (by decide) bE) (us:=(aX b c)) rfl rfl (fun h=>by cases h)) rfl rfl rfl fun a hS=>?_
    refine gE [7,8] hS fun a hS=>?_
    obtain ⟨M,S,hM⟩:=bd hM
    obtain ⟨ao,K,af⟩:=uJ (R:=aa) hS nH kQ 1 rfl 1 rfl S
    refine dy 9 (v:=ao) rfl (by kernel_rfl) (by kernel_rfl) (by kernel_rfl) rfl hQ hS (af (k2:=.i64) rfl (.inl ⟨_,rfl,rfl⟩) (.inr ⟨rfl,rfl⟩)) rfl rfl rfl fun a hS=>?_
    obtain ⟨L,hM⟩:=ba hM
    refine dU (i:=3) (j:=5) rfl rfl (by kernel_rfl) rfl rfl ?_ ?_
    ·skip
     skip
     replace hS:=hS.freeze (R:=aa) 1 rfl 1 rfl
     replace hS:=hS.fS (I _ _ (hS.get 0 rfl))
     refine id (bC (R:=aa) (xs:=([]:List al)) (ys:=n) hS pp (by decide) (by decide) rfl rfl 0 rfl 2 rfl 0 rfl L rfl fun bs b6 a w hk hS=>⟨kp rfl hk lw,?_⟩)
     refine e1 5 (aZ (ps:=[(0,.tmp 31)]) hS pp fJ (zl:=[.int .i64 0,.string (ByteArray.mk #[]),.string (ByteArray.mk #[]),.slice none 0 0,.int .i64 0,.int .i64 0,.int .i64 0,.bool false]) (by kernel_rfl) rfl (us:=[(aX b c)]) ⟨rfl,trivial⟩ (ws:=(aX b c)) rfl rfl rfl rfl fun b2 a w hk hS=>⟨fx (hk),?_⟩)
     replace hS:=hS.lit (R:=aa) (us:=(aX b c)) (xs:=[b]) 0 rfl (by decide) (aD.one_ (R:=aa) (x:=b) (⟨_,rfl,(hS.get 6 rfl)⟩)) rfl rfl
     replace hS:=hS.freeze (R:=aa) 0 rfl 0 rfl
     obtain ⟨B,hM⟩:=ba hM
     refine e1 6 (bC (R:=aa) (xs:=(([]:List al) ++ n)) (ys:=[b]) hS pp (by decide) (by decide) rfl rfl 0 rfl 2 rfl 0 rfl B rfl fun av Y a w hk hS=>⟨kp rfl hk rA,?_⟩)
     replace hS:=hS.fS (K _ _ (hS.get 5 rfl))
     obtain ⟨C,hM⟩:=ba hM
     refine e1 10 (bC (R:=aa) (xs:=((([]:List al) ++ n) ++ ([b]))) (ys:=M) hS pp (by decide) (by decide) rfl rfl 0 rfl 1 rfl 0 rfl C rfl fun ax Z a w hk hS=>⟨kp rfl hk rA,?_⟩)
     refine gE [11] hS fun a hS=>?_
     refine eD ?_
     exact ⟨_,_,_,hS.mt [0] [0,10,12],hM⟩
    skip
    refine id (aZ (ps:=[(0,.tmp 31)]) hS pp fJ (zl:=[.int .i64 0,.string (ByteArray.mk #[]),.string (ByteArray.mk #[]),.slice none 0 0,.int .i64 0,.int .i64 0,.int .i64 0,.bool false]) (by kernel_rfl) rfl (us:=[(aX b c)]) ⟨rfl,trivial⟩ (ws:=(aX b c)) rfl rfl rfl rfl fun b3 a w hk hS=>⟨fx (hk),?_⟩)
    replace hS:=hS.freeze (R:=aa) 2 rfl 1 rfl
    replace hS:=hS.fS (I _ _ (hS.get 0 rfl))
    refine e1 3 (bC (R:=aa) (xs:=([]:List al)) (ys:=n) hS pp (by decide) (by decide) rfl rfl 1 rfl 2 rfl 0 rfl L rfl fun bt b8 a w hk hS=>⟨kp rfl hk lw,?_⟩)
    replace hS:=hS.lit (R:=aa) (us:=(aX b c)) (xs:=[b]) 0 rfl (by decide) (aD.one_ (R:=aa) (x:=b) (⟨_,rfl,(hS.get 6 rfl)⟩)) rfl rfl
    replace hS:=hS.freeze (R:=aa) 0 rfl 0 rfl
    obtain ⟨B,hM⟩:=ba hM
    refine e1 6 (bC (R:=aa) (xs:=(([]:List al) ++ n)) (ys:=[b]) hS pp (by decide) (by decide) rfl rfl 0 rfl 2 rfl 0 rfl B rfl fun av Y a w hk hS=>⟨kp rfl hk rA,?_⟩)
    replace hS:=hS.fS (K _ _ (hS.get 5 rfl))
    obtain ⟨C,hM⟩:=ba hM
    refine e1 10 (bC (R:=aa) (xs:=((([]:List al) ++ n) ++ ([b]))) (ys:=M) hS pp (by decide) (by decide) rfl rfl 0 rfl 1 rfl 0 rfl C rfl fun ax Z a w hk hS=>⟨kp rfl hk rA,?_⟩)
    refine gE [11] hS fun a hS=>?_
    refine eD ?_
    exact ⟨_,_,_,hS.mt [0] [0,10,12],hM⟩
   rintro a w ⟨F,H,z,hS,hM⟩
   unfold mn at hM
   exact fz
  exact fz
 rintro a w ⟨E,u,q,hS,hM⟩
 unfold oG at hM
 refine ai hS fun a hS=>?_
 cases hM
 refine aF hS rfl (ar hS rfl aH) ?_
 exact ⟨u,q,rfl,hS.retOwn ⟨.inr (List.mem_of_getElem? (i:=0) rfl),trivial⟩ 0 rfl 0 rfl⟩
def oF (b:Int):Option Int:=some (b)
def ml (d:LR) (c:Int) (b:Int):Option (Fl (Int×Int) (Int)):=cond (decide ((b:Int) < (d.length:Int))) ((bm d b).bind fun e=>(mK e).bind fun f=>some (.go (IntKind.i64.wrap (c + f),IntKind.i64.wrap (b + 1)))) (some (.out c))
def nD (b:LR):Option Int:=(loop (fun s:Int×Int=>ml b s.1 s.2) (0,0)).bind fun r=>oF r
theorem vP (T:Nat→Prop) (W0:World) (hT:TW T W0) (d:LR) (i:Value) (n:aB aa T W0 i d) (y:Int) (hM:nD d=some y):aY Tryz.prog No 84 [i] W0 (fun v w'=>v = .int .i64 y):=by
 refine en Tryz.func84 Tryz.ntmps84 hT fun a hS=>?_
 replace hS:=hS.fS (aB.dn n)
 unfold nD at hM
 refine ai hS fun a hS=>?_
 refine aI (J:=fun a w=>∃ (e:Int),St W0 No T 18 [(3,.int .i64 e)] [] [] a w∧oF e=some y) ?_ ?_
 ·skip
  refine ai hS fun a hS=>?_
  obtain ⟨A,m,hMo1⟩:=bd hM
  refine bB _ (fun s a w=>∃ (c:Int) (b:Int),(c,b)=s∧St W0 No T 18 [(3,.int .i64 c),(6,i),(7,.int .i64 (d.length:Int)),(8,.int .i64 b)] [] [aJ aa i d] a w) m ⟨_,_,rfl,hS.mt [] [0]⟩ ?_
  rintro s a w r ⟨c,b,rfl,hS⟩ hM hf1
  have hM:ml d c b=some r:=hM
  unfold ml at hM
  refine ai hS fun a hS=>?_
  refine aw ?_
  rcases cd hM with ⟨k,hM⟩ | ⟨k,hM⟩
  ·refine ai hS fun a hS=>?_
   refine aw ?_
   refine ai hS fun a hS=>?_
   obtain ⟨j,f,hM⟩:=bd hM
   refine wl rfl (bf (R:=aa) hS nH kQ rfl rfl 0 rfl f rfl fun o u q l a hS=>?_)
   obtain ⟨z,rfl,h⟩:=l
   replace hS:=hS.fS h
   refine ai hS fun a hS=>?_
   refine ka hS fJ fun p t a w hk hS=>?_
   refine go hS fun a w hS=>?_
   obtain ⟨x,g,hM⟩:=bd hM
   refine kc hS Bj (pT _ _ hS.dlt j _ (hS.get 0 rfl) _ g) fun _ w hR a hk hA=>?_
   obtain rfl:=hR
   have hS:=bM hA
   exact fz
  exact fz
 rintro a w ⟨e,hS,hM⟩
 unfold oF at hM
 exact fz
def mi (b:ah) (c:LK) (d:LR):Option (ah×LK×Int):=some (((ah.mk b.Revision b.Inputs d),c,0))
def jK (b:Int) (c:LK) (d:LR):Option (Fl (LK×Int×LR) (LK×LR)):=some (.go (c,IntKind.i64.wrap (b + 1),d))
def ij (c:LK) (d:Int) (e:LR) (b:al) (f:Bool):Option (Fl (LK×Int×LR) (LK×LR)):=cond f ((mJ e b.Key).bind fun g=>gd (bG (c.length + ([b.Key]).length)) <| jK d (c ++ ([b.Key])) g) (jK d c e)
def mj (f:Int) (h:LK) (g:LR) (e:LK) (b:Int) (c:LR):Option (Fl (LK×Int×LR) (LK×LR)):=cond (decide ((b:Int) < (g.length:Int))) ((bm g b).bind fun d=>(nD c).bind fun i=>cond (decide ((f:Int) < i)) ((iY h d.Key).bind fun j=>ij e b c d (!(j))) (ij e b c d false)) (some (.out (e,c)))
def nC (c:ah) (b:Int) (e:LK):Option (ah×LK×Int):=(jz c).bind fun g=>cond (!(g)) (some (((ah.mk 0 ([]:List aG) ([]:List al)),([]:List ae),42))) (cond (decide ((b:Int) < 0)) (some (((ah.mk 0 ([]:List aG) ([]:List al)),([]:List ae),2))) (cond (decide ((1073741824:Int) < b)) (some (((ah.mk 0 ([]:List aG) ([]:List al)),([]:List ae),2))) ((ew c).bind fun d=>(nE c.Records).bind fun f=>(loop (fun s:LK×Int×LR=>mj b e f s.1 s.2.1 s.2.2) (([]:List ae),0,d.Records)).bind fun r=>mi d r.1 r.2)))
theorem vO (T:Nat→Prop) (W0:World) (hT:TW T W0) (t:ah) (d:Int) (g:LK) (v1:Value) (v2:Value) (G:Value) (hD:vB T W0 []) (b8:aB ac (dT T []) W0 v1 t.Inputs) (b9:aB aa (dT T []) W0 v2 t.Records) (bb:aB ad (dT T []) W0 G g) (hLv:c6 (dT T []) W0) (y:ah×LK×Int) (hM:nC t d g=some y):aY Tryz.prog (MD []) 51 [.agg (aO t v1 v2).toArray,.int .i64 d,G] W0 (fun v w'=>∃ (v4:Value) (wP:List Value) (v6:Value) (yZ:List Value) (v8:Value) (EV:List Value),v = .tuple #[.agg (aO y.1 v4 v6).toArray,v8,.int .i64 y.2.2]∧aD ac (dT T [aP v4 wP,aE v6 yZ,au v8 EV]) w' wP y.1.Inputs∧aD aa (dT T [aP v4 wP,aE v6 yZ,au v8 EV]) w' yZ y.1.Records∧aD ad (dT T [aP v4 wP,aE v6 yZ,au v8 EV]) w' EV y.2.1∧n8 W0 w' [] [aP v4 wP,aE v6 yZ,au v8 EV]):=by
 refine kk (c:=_) Tryz.func51 rfl T 62 Tryz.ntmps51 hT rfl hD fun a hS=>?_
 replace hS:=hS.fact bu hLv
 replace hS:=hS.fS b8
 replace hS:=hS.fS b9
 replace hS:=hS.fS bb
 unfold nC at hM
 refine ai hS fun a hS=>?_
 refine kb hS fun bq c4 a w hk hS=>?_
 refine ka hS jP fun l c5 a w hk hS=>?_
 refine ai hS fun a hS=>?_
 refine aw ?_
 refine ai hS fun a hS=>?_
 obtain ⟨cs,ag,hM⟩:=bd hM
 refine kc hS EM (o4 _ _ hS.dlt (hS.get 3 rfl) t _ _ (hS.get 2 rfl) (hS.get 1 rfl) _ ag) fun _ w hR a hk hA=>?_
 obtain rfl:=hR
 have hS:=bM hA
 refine ai hS fun a hS=>?_
 rcases cd hM with ⟨av,hM⟩ | ⟨av,hM⟩
 ·refine ai hS fun a hS=>?_
  refine qy hS (br (ps:=[]) hS B5 jP rfl (us:=[]) trivial (ws:=[.int .i64 0,.slice none 0 0,.slice none 0 0]) rfl) fun a hS=>?_
  refine go hS fun a w hS=>?_
  replace hS:=hS.nilRow ac 61 (by decide)
  replace hS:=hS.nilRow aa 77 (by decide)
  replace hS:=hS.nilRow ad 35 (by decide)
  cases hM
  refine aF hS Tryz.results51 (a8 hS rfl 3 rfl fG rfl (fun h=>by cases h) (ar hS rfl (ar hS rfl aH))) ?_
  have hZ:=hS.sl [2,1,0] [2,1,0]
  exact ⟨(.slice none 0 0),[],(.slice none 0 0),[],(.slice none 0 0),[],rfl,(hZ.get 0 rfl),(hZ.get 1 rfl),(hZ.get 2 rfl),hZ.dnew⟩
 refine ai hS fun a hS=>?_
 refine jO ?_
 refine ai hS fun a hS=>?_
 rcases cd hM with ⟨ax,hM⟩ | ⟨ax,hM⟩
 ·refine ai hS fun a hS=>?_
  refine qy hS (br (ps:=[]) hS B5 jP rfl (us:=[]) trivial (ws:=[.int .i64 0,.slice none 0 0,.slice none 0 0]) rfl) fun a hS=>?_
  refine go hS fun a w hS=>?_
  replace hS:=hS.nilRow ac 61 (by decide)
  replace hS:=hS.nilRow aa 77 (by decide)
  replace hS:=hS.nilRow ad 35 (by decide)
  cases hM
  refine aF hS Tryz.results51 (a8 hS rfl 3 rfl fG rfl (fun h=>by cases h) (ar hS rfl (ar hS rfl aH))) ?_
  have hZ:=hS.sl [2,1,0] [2,1,0]
  exact ⟨(.slice none 0 0),[],(.slice none 0 0),[],(.slice none 0 0),[],rfl,(hZ.get 0 rfl),(hZ.get 1 rfl),(hZ.get 2 rfl),hZ.dnew⟩
 refine ai hS fun a hS=>?_
 rcases cd hM with ⟨ay,hM⟩ | ⟨ay,hM⟩
 ·refine ai hS fun a hS=>?_
  refine qy hS (br (ps:=[]) hS B5 jP rfl (us:=[]) trivial (ws:=[.int .i64 0,.slice none 0 0,.slice none 0 0]) rfl) fun a hS=>?_
  refine go hS fun a w hS=>?_
  replace hS:=hS.nilRow ac 61 (by decide)
  replace hS:=hS.nilRow aa 77 (by decide)
  replace hS:=hS.nilRow ad 35 (by decide)
  cases hM
  refine aF hS Tryz.results51 (a8 hS rfl 3 rfl fG rfl (fun h=>by cases h) (ar hS rfl (ar hS rfl aH))) ?_
  have hZ:=hS.sl [2,1,0] [2,1,0]
  exact ⟨(.slice none 0 0),[],(.slice none 0 0),[],(.slice none 0 0),[],rfl,(hZ.get 0 rfl),(hZ.get 1 rfl),(hZ.get 2 rfl),hZ.dnew⟩
 refine ai hS fun a hS=>?_
 obtain ⟨e,a4,hM⟩:=bd hM
 refine kc hS uC (dQ _ _ hS.dlt t _ _ (hS.get 2 rfl) (hS.get 1 rfl) _ a4) fun _ w hR a hk hA=>?_
 obtain ⟨j,f,cv,c0,he,W,X,b5⟩:=hR
 obtain rfl:=he.symm
 have hS:=sZ hA W X b5
 refine ka hS jP fun m c9 a w hk hS=>?_
 refine go hS fun a w hS=>?_
 refine aI (J:=fun a w=>∃ (K:LK) (N:LR) (E:Value) (C:LV) (F:Value) (D:LV),St W0 (MD []) T 62 [(6,pt l 0),(9,pt m 0),(10,E)] [au E C,.box l [.int .i64 0,.slice none 0 0,.slice none 0 0] 31,aP j f,aE F D,.box m (aO e j F) 31] [am ad C K,am ac f e.Inputs,am aa D N,bu] a w∧mi e K N=some y) ?_ ?_
 ·skip
  refine ai hS fun a hS=>?_
  obtain ⟨p,a9,hM⟩:=bd hM
  refine kc hS IA (vQ _ _ hS.dlt (hS.get 5 rfl) t.Records _ (hS.get 3 rfl) _ a9) fun _ w hR a hk hA=>?_
  obtain ⟨r,q,he,Y⟩:=hR
  obtain rfl:=he.symm
  have hS:=pd hA Y
  refine ai hS fun a hS=>?_
  replace hS:=hS.nilRow ad 35 (by decide)
  obtain ⟨r1,b6,hMo1⟩:=bd hM
  refine bB _ (fun s a w=>∃ (o:LK) (n:Int) (i:LR) (A:Value) (u:LV) (B:Value) (z:LV),(o,n,i)=s∧St W0 (MD []) T 62 [(1,.int .i64 d),(2,G),(6,pt l 0),(9,pt m 0),(10,A),(30,r),(31,.int .i64 (p.length:Int)),(32,.int .i64 n)] [au A u,aE r q,.box l [.int .i64 0,.slice none 0 0,.slice none 0 0] 31,aP j f,aE B z,.box m (aO e j B) 31] [aJ ad G g,am ad u o,am aa q p,am ac f e.Inputs,am aa z i,bu] a w) b6 ⟨_,_,_,_,_,_,_,rfl,hS.mt [0,1,5,3,4,2] [4,0,1,3,2,7]⟩ ?_
  rintro s a w f1 ⟨o,n,i,A,u,B,z,rfl,hS⟩ hM hf1
  have hM:mj d g p o n i=some f1:=hM
  unfold mj at hM
  refine ai hS fun a hS=>?_
  refine aw ?_
  rcases cd hM with ⟨az,hM⟩ | ⟨az,hM⟩
  ·refine ai hS fun a hS=>?_
   refine aI (J:=fun a w=>∃ (L:LK) (O:LR) (P:Value) (H:LV) (Q:Value) (I:LV),St W0 (MD []) T 62 [(1,.int .i64 d),(2,G),(6,pt l 0),(9,pt m 0),(10,P),(30,r),(31,.int .i64 (p.length:Int)),(32,.int .i64 n)] [au P H,aE r q,.box l [.int .i64 0,.slice none 0 0,.slice none 0 0] 31,aP j f,aE Q I,.box m (aO e j Q) 31] [aJ ad G g,am ad H L,am aa q p,am ac f e.Inputs,am aa I O,bu] a w∧jK n L O=some f1) ?_ ?_
   ·skip
    refine ai hS fun a hS=>?_
    obtain ⟨b,a3,hM⟩:=bd hM
    refine wl rfl (dI (R:=aa) hS nH kQ rfl rfl 1 rfl 2 rfl a3 rfl fun bs cb ch c1 b0 b1 b2 a hS=>?_)
    obtain ⟨S,rfl,ak⟩:=b0
    replace hS:=hS.fS ak
    refine qy hS (cg (k:=0) hS kQ 1 rfl b1 b2 rfl id (us:=(aX b S)) rfl rfl (fun h=>by cases h)) fun a hS=>?_
    refine ka hS fJ fun U ca a w hk hS=>?_
    refine go hS fun a w hS=>?_
    refine aI (J:=fun a w=>∃ (M:Bool),St W0 (MD []) T 62 [(1,.int .i64 d),(2,G),(6,pt l 0),(9,pt m 0),(10,A),(12,pt U 0),(30,r),(31,.int .i64 (p.length:Int)),(32,.int .i64 n),(47,.bool M)] [au A u,aE r q,.box l [.int .i64 0,.slice none 0 0,.slice none 0 0] 31,aP j f,aE B z,.box m (aO e j B) 31,.box U (aX b S) 77] [aJ ad G g,am ad u o,am aa q p,am ac f e.Inputs,am aa z i,aJ ad S b.Reads,bu] a w∧ij o n i b M=some f1) ?_ ?_
    ·skip
     refine ai hS fun a hS=>?_
     have hL:=hS
     replace hL:=hL.freeze (R:=aa) 5 rfl 5 rfl
     obtain ⟨cl,ab,hM⟩:=bd hM
     refine kc hS IB (vP _ _ hL.dlt i _ (hL.get 0 rfl) _ ab) fun _ w hR a hk hA=>?_
     obtain rfl:=hR
     have hS:=bM hA
     refine ai hS fun a hS=>?_
     rcases cd hM with ⟨V,hM⟩ | ⟨V,hM⟩
     ·refine ai hS fun a hS=>?_
      obtain ⟨co,af,hM⟩:=bd hM
      refine wg hS rfl rfl rfl V (a7 hS Ar rfl rfl (lA _ _ hS.dlt g b.Key _ (hS.get 1 rfl) _ af) fun _ w hR a hk hA=>?_)
      obtain rfl:=hR
      have hS:=bM hA
      exact fz
     exact fz
    rintro a w ⟨M,hS,hM⟩
    unfold ij at hM
    rcases cd hM with ⟨b3,hM⟩ | ⟨b3,hM⟩
    ·refine ai hS fun a hS=>?_
     replace hS:=hS.freeze (R:=aa) 4 rfl 4 rfl
     obtain ⟨ck,a5,hM⟩:=bd hM
     refine kc hS G3 (sE _ _ hS.dlt i b.Key _ (hS.get 0 rfl) _ a5) fun _ w hR a hk hA=>?_
     obtain ⟨d0,c2,he,Z⟩:=hR
     obtain rfl:=he.symm
     have hS:=pd hA Z
     refine go hS fun a w hS=>?_
     refine wl rfl (aZ (ps:=[(0,.tmp 56)]) hS iq gM (zl:=[.int .i64 0,.string (ByteArray.mk #[])]) (by kernel_rfl) rfl (us:=[(aS b.Key)]) ⟨rfl,trivial⟩ (ws:=(aS b.Key)) rfl rfl rfl rfl fun bt a w hk hS=>?_)
     replace hS:=hS.lit (R:=ad) (us:=(aS b.Key)) (xs:=[b.Key]) 0 rfl (by decide) (aD.one_ (R:=ad) (x:=b.Key) rfl) rfl rfl
     replace hS:=hS.freeze (R:=ad) 0 rfl 0 rfl
     obtain ⟨b4,hM⟩:=ba hM
     refine wl rfl (bC (R:=ad) (xs:=o) (ys:=[b.Key]) hS iq (by decide) (by decide) rfl rfl 1 rfl 5 rfl 0 rfl b4 rfl fun d1 c3 a w hk hS=>?_)
     exact fz
    refine ai hS fun a hS=>?_
    exact ⟨_,_,_,_,_,_,hS.mt [0,1,2,3,4,5] [0,1,2,3,4,6],hM⟩
   rintro a w ⟨L,O,P,H,Q,I,hS,hM⟩
   unfold jK at hM
   refine ai hS fun a hS=>?_
   exact ⟨_,(Option.some.inj hM).symm,_,_,_,_,_,_,_,rfl,hS.mt [0,1,2,3,4,5] [0,1,2,3,4,5]⟩
  refine ai hS fun a hS=>?_
  cases hM
  have hr:=hf1 _ rfl
  subst hr
  have hM:mi e o i=some y:=hMo1
  exact ⟨_,_,_,_,_,_,hS.mt [0,2,3,4,5] [1,3,4,5],hM⟩
 rintro a w ⟨K,N,E,C,F,D,hS,hM⟩
 unfold mi at hM
 refine go hS fun a w hS=>?_
 cases hM
 refine aF hS Tryz.results51 (a8 hS rfl 1 rfl fG rfl (fun h=>by cases h) (ar hS rfl (ar hS rfl aH))) ?_
 have hZ:=hS.sl [2,3,0] [1,2,0]
 exact ⟨j,f,F,D,E,C,rfl,(hZ.get 0 rfl),(hZ.get 1 rfl),(hZ.get 2 rfl),hZ.dnew⟩
end
end
end Go.Proofs.YthefmilamdchiaaGreatDoor
