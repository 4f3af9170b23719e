/- Texts of the proof, joined (3). -/
import Derived.Test.YtdcojaccpnabkaaGreatDoorA1
import Derived.Test.YtdcojaccpnabkaaGreatDoorA2
set_option linter.unusedVariables false
set_option linter.unusedSimpArgs false
set_option linter.unusedSectionVars false
namespace Go.Proofs.YtdcojaccpnabkaaGreatDoor
section
set_option maxRecDepth 100000
set_option maxHeartbeats 4000000
open Go.RowKit
noncomputable section
def mj:Option Bool:=some (true)
def cb (e:LO) (c:Int) (b:bv) (d:Bool):Option (Fl (LO×Int) (Fl (Unit) Bool)):=cond d (some (.out (.out false))) (some (.go ((d9 aP b.Key true e),IntKind.i64.wrap (c+1))))
def ga (e:am) (d:LO) (c:Int) (b:bv) (g:(ab×Bool)) (f:Bool):Option (Fl (LO×Int) (Fl (Unit) Bool)):=cond b.Running (cond (b.At != 0) (cb d c b true) (cb d c b false)) (cond (!(g.2)) (cond (b.At != 0) (cb d c b true) (cond (decide ((0:Int)<(b.Reads.length:Int))) (cb d c b true) (cond f ((mE e.Records e.Revision b.Key).bind fun h=>(iK e.Records h).bind fun i=>cb d c b (decide ((i.length:Int)<b.At))) (cb d c b false)))) (cond (decide ((0:Int)<(b.Reads.length:Int))) (cb d c b true) (cond f ((mE e.Records e.Revision b.Key).bind fun j=>(iK e.Records j).bind fun k=>cb d c b (decide ((k.length:Int)<b.At))) (cb d c b false))))
def ml (g:LU) (f:am) (h:LF) (e:LO) (d:Int):Option (Fl (LO×Int) (Fl (Unit) Bool)):=cond (decide (d<(h.length:Int))) ((bg h d).bind fun b=>(some ((cV aP b.Key e).getD false)).bind fun i=>cond i (some (.out (.out false))) ((cC b.Key).bind fun j=>cond j (some (.out (.out false))) ((nB g b.Key).bind fun k=>cond (!(k)) (some (.out (.out false))) (cond ((b.Reads.length:Int) != (b.Answers.length:Int)) (some (.out (.out false))) (cond (decide (b.At<0)) (some (.out (.out false))) ((bX f.Records b.Key).bind fun c=>cond c.2 (cond (!(c.1.Dirty)) (ga f e d b c (decide (c.1.Verified<f.Revision))) (ga f e d b c false)) (ga f e d b c false))))))) (some (.out (.go ())))
def jH (b:LU) (c:am) (d:LF):Option Bool:=(loop (fun s:LO×Int=>ml b c d s.1 s.2) (([]:LO),0)).bind fun r=>Fl.el r (fun s=>mj) (fun y=>some (y))
theorem vz (T:Nat→Prop) (W0:World) (hT:TW T W0) (hLv:dx T W0) (e:LU) (b:am) (h:LF) (m:Value) (n:Value) (o:Value) (p:Value) (bF:aD aw T W0 m e) (c0:aD ad T W0 n b.Inputs) (c1:aD aa T W0 o b.Records) (c2:aD ax T W0 p h) (y:Bool) (hM:jH e b h=some y):bc aQ No 135 [m,.agg (aY b n o).toArray,p] W0 (fun v w'=>v = .bool y):=by
 refine en Tryz.func135 Tryz.ntmps135 hT fun a hS=>?_;replace hS:=((((hS.fact bu (dx.dn hLv)).fS (aD.dn bF)).fS (aD.dn c0)).fS (aD.dn c1)).fS (aD.dn c2);unfold jH at hM;refine al hS fun a hS=>?_;refine kb hS fun j ck a w hk hS=>?_;refine al hS fun a hS=>?_;refine wl rfl (rN ac true aS.bool false hS rfl fun k cl a w hk hS=>?_);refine al hS fun a hS=>?_;refine aJ (J:=fun a w=>St W0 No T 121 [] [] [bu] a w∧mj=some y) ?_ ?_
 ·skip;refine al hS fun a hS=>?_;obtain⟨r1,bt,hMo1⟩:=bd hM;refine bB _ (fun s a w=>∃ (g:LO) (f:Int) (q:AM) (A:Nat),(g,f)=s∧St W0 No T 121 [(0,m),(4,pt j 0),(7,.map (some k)),(14,p),(15,aj (h.length:Int)),(16,aj f)] [om k q A,.box j (aY b n o) 25] [aK aw m e,uU q g,aK ax p h,aK ad n b.Inputs,aK aa o b.Records,bu] a w) bt ⟨_,_,_,_,rfl,hS.mt [0,1] [4,0,1,3,2,5]⟩ ?_;rintro s a w f1 ⟨g,f,q,A,rfl,hS⟩ hM hf1;have hM:ml e b h g f=some f1:=hM;unfold ml at hM;refine al hS fun a hS=>?_;refine aA ?_;rcases cd hM with⟨af,hM⟩|⟨af,hM⟩
  ·refine al hS fun a hS=>?_;refine aA ?_;refine al hS fun a hS=>?_;obtain⟨d,S,hM⟩:=bd hM;refine wl rfl (bD (R:=ax) hS tY ua rfl rfl 2 rfl S rfl fun c3 d0 c5 ag a hS=>?_);obtain⟨P,Q,rfl,a2,a3⟩:=ag;replace hS:=(hS.fS a2).fS a3;refine al hS fun a hS=>?_;refine ka hS sM fun z co a w hk hS=>?_;refine go hS fun a w hS=>?_;refine aA ?_;refine i1 ?_;refine al hS fun a hS=>?_;obtain⟨bi,Z,hM⟩:=bd hM;obtain⟨c6,ak,an⟩:=lR hS Af ei 1 rfl 4 rfl (c:=(aX d.Key)) (key:=d.Key) rfl L3 (zc:=[.bool false]) rfl rfl Z;obtain rfl:=ak;refine wl rfl (ky (v:=.bool bi) hS (an rfl rfl id) rfl rfl fun a hS=>?_);refine al hS fun a hS=>?_;rcases cd hM with⟨C,hM⟩|⟨C,hM⟩
   ·exact fz
   refine al hS fun a hS=>?_;obtain⟨d3,a0,hM⟩:=bd hM;refine wg hS rfl rfl rfl C (be hS yq rfl rfl (dH _ _ hS.dlt d.Key _ a0) fun _ w hR a hk hA=>?_);obtain rfl:=hR;have hS:=bS hA;refine al hS fun a hS=>?_;rcases cd hM with⟨D,hM⟩|⟨D,hM⟩
   ·exact fz
   refine al hS fun a hS=>?_;obtain⟨d4,a1,hM⟩:=bd hM;refine wg hS rfl rfl rfl D (be hS MQ rfl rfl (uZ _ _ hS.dlt (hS.get 8 rfl) e d.Key _ (hS.get 3 rfl) _ a1) fun _ w hR a hk hA=>?_);obtain rfl:=hR;have hS:=bS hA;refine al hS fun a hS=>?_;rcases cd hM with⟨av,hM⟩|⟨av,hM⟩
   ·exact fz
   refine al hS fun a hS=>?_;rcases cd hM with⟨b0,hM⟩|⟨b0,hM⟩
   ·exact fz
   refine al hS fun a hS=>?_;rcases cd hM with⟨b1,hM⟩|⟨b1,hM⟩
   ·exact fz
   refine al hS fun a hS=>?_;refine wl rfl (yQ hS Af ei 1 rfl 4 rfl (c:=(aX d.Key)) (cv:=[.bool true]) (key:=d.Key) (val:=true) rfl rfl rfl rfl rfl fun l B w hk hS=>?_);refine al hS fun a hS=>?_;obtain⟨O,U,hM⟩:=bd hM;refine kc hS oC (bx _ _ hS.dlt b.Records d.Key _ (hS.get 8 rfl) _ U) fun _ w hR a hk hA=>?_;obtain⟨d5,c9,he,I⟩:=hR;obtain rfl:=he.symm;have hS:=qe hA I;refine al hS fun a hS=>?_;refine ka hS dq fun c4 cs a w hk hS=>?_;refine go hS fun a w hS=>?_;refine aJ (J:=fun a w=>∃ (x:Bool),St W0 No T 121 [(0,m),(4,pt j 0),(7,.map (some k)),(9,pt z 0),(11,.bool O.2),(12,.bool x),(14,p),(15,aj (h.length:Int)),(16,aj f)] [om k l B,.box j (aY b n o) 25,.box z (mg d P Q) 150] [aK aw m e,uU l (d9 aP d.Key true g),aK ax p h,aK ad n b.Inputs,aK aa o b.Records,aK ac P d.Reads,aK aS.str Q d.Answers,bu] a w∧ga b g f d O x=some f1) ?_ ?_
   ·exact fz
   rintro a w ⟨x,hS,hM⟩;unfold ga at hM;refine aJ (J:=fun a w=>∃ (r:Bool),St W0 No T 121 [(0,m),(4,pt j 0),(7,.map (some k)),(14,p),(15,aj (h.length:Int)),(16,aj f),(119,.bool r)] [om k l B,.box j (aY b n o) 25] [aK aw m e,uU l (d9 aP d.Key true g),aK ax p h,aK ad n b.Inputs,aK aa o b.Records,bu] a w∧cb g f d r=some f1) ?_ ?_
   ·skip;refine dr [] hS fun w hQ hS=>?_;refine gE [0,1,2] hS fun a hS=>?_;rcases cd hM with⟨b2,hM⟩|⟨b2,hM⟩
    ·refine gE [3,4,5,6,7,8,9,10,11] hS fun a hS=>?_;rcases cd hM with⟨b3,hM⟩|⟨b3,hM⟩
     ·refine gE [12,13,14,15,16,17,18,19,20,21,22,23,24,25,26,27,28,29,30,31,32,33,34,35,36,37,38,39,40,41,42,43,44,45] hS fun a hS=>?_;refine eD ?_;exact⟨_,hS.mt [0,1] [0,1,2,3,4,7],hM⟩
     refine gE [12,13,14,15,16,17,18,19,20,21,22,23,24,25,26,27,28,29,30,31,32,33,34,35,36,37,38,39,40,41,42,43,44,45] hS fun a hS=>?_;refine eD ?_;exact⟨_,hS.mt [0,1] [0,1,2,3,4,7],hM⟩
    refine gE [3,4,5,6] hS fun a hS=>?_;rcases cd hM with⟨b4,hM⟩|⟨b4,hM⟩
    ·refine gE [7,8,9,10,11] hS fun a hS=>?_;rcases cd hM with⟨b5,hM⟩|⟨b5,hM⟩
     ·refine gE [12,13,14,15,16,17,18,19,20,21,22,23,24,25,26,27,28,29,30,31,32,33,34,35,36,37,38,39,40,41,42,43,44,45] hS fun a hS=>?_;refine eD ?_;exact⟨_,hS.mt [0,1] [0,1,2,3,4,7],hM⟩
     refine gE [12,13,14,15,16,17,18,19,20,21,22] hS fun a hS=>?_;rcases cd hM with⟨b6,hM⟩|⟨b6,hM⟩
     ·refine gE [23,24,25,26,27,28,29,30,31,32,33,34,35,36,37,38,39,40,41,42,43,44,45] hS fun a hS=>?_;refine eD ?_;exact⟨_,hS.mt [0,1] [0,1,2,3,4,7],hM⟩
     refine gE [23,24,25,26,27,28,29] hS fun a hS=>?_;rcases cd hM with⟨t,hM⟩|⟨t,hM⟩
     ·refine gE [30,31,32,33,34,35,36,37,38,39] hS fun a hS=>?_;obtain⟨b9,V,hM⟩:=bd hM;refine bV (i:=40) rfl (by kernel_rfl) hS rfl rfl rfl t (be hS Eq rfl rfl (s9 _ _ hS.dlt (hS.get 7 rfl) b.Records b.Revision d.Key _ (hS.get 4 rfl) _ V) fun _ w hR a hk hA=>⟨eS (hk),?_⟩);obtain⟨d6,ca,he,K⟩:=hR;obtain rfl:=he.symm;have hS:=qe hA K;have hL:=hS;replace hL:=hL.freeze (R:=ac) 0 rfl 0 rfl;obtain⟨d1,W,hM⟩:=bd hM;refine bV (i:=41) rfl (by kernel_rfl) hS rfl rfl rfl t (be hS Er rfl rfl (od _ _ hL.dlt b.Records b9 _ _ (hL.get 6 rfl) (hL.get 0 rfl) _ W) fun _ w hR a hk hA=>⟨eS (hk),?_⟩);obtain⟨bl,a4,he,⟨G,E,L⟩⟩:=hR;obtain rfl:=he.symm;have hS:=hA [mV bl a4] (fG ⟨G,by decide⟩ E) (uz _);replace hS:=hS.fR L;refine gE [42,43,44,45] hS fun a hS=>?_;refine eD ?_;exact⟨_,hS.mt [2,3] [2,3,4,5,6,9],hM⟩
     refine gE [30,31,32,33,34,35,36,37,38,39,40,41,42,43,44,45] hS fun a hS=>?_;refine eD ?_;exact⟨_,hS.mt [0,1] [0,1,2,3,4,7],hM⟩
    refine gE [7,8,9,10,11,12,13,14,15,16,17,18,19,20,21,22] hS fun a hS=>?_;rcases cd hM with⟨b8,hM⟩|⟨b8,hM⟩
    ·refine gE [23,24,25,26,27,28,29,30,31,32,33,34,35,36,37,38,39,40,41,42,43,44,45] hS fun a hS=>?_;refine eD ?_;exact⟨_,hS.mt [0,1] [0,1,2,3,4,7],hM⟩
    refine gE [23,24,25,26,27,28,29] hS fun a hS=>?_;rcases cd hM with⟨u,hM⟩|⟨u,hM⟩
    ·refine gE [30,31,32,33,34,35,36,37,38,39] hS fun a hS=>?_;obtain⟨bb,X,hM⟩:=bd hM;refine bV (i:=40) rfl (by kernel_rfl) hS rfl rfl rfl u (be hS Eq rfl rfl (s9 _ _ hS.dlt (hS.get 7 rfl) b.Records b.Revision d.Key _ (hS.get 4 rfl) _ X) fun _ w hR a hk hA=>⟨eS (hk),?_⟩);obtain⟨dl,ch,he,M⟩:=hR;obtain rfl:=he.symm;have hS:=qe hA M;have hL:=hS;replace hL:=hL.freeze (R:=ac) 0 rfl 0 rfl;obtain⟨d2,Y,hM⟩:=bd hM;refine bV (i:=41) rfl (by kernel_rfl) hS rfl rfl rfl u (be hS Er rfl rfl (od _ _ hL.dlt b.Records bb _ _ (hL.get 6 rfl) (hL.get 0 rfl) _ Y) fun _ w hR a hk hA=>⟨eS (hk),?_⟩);obtain⟨bs,a5,he,⟨H,F,N⟩⟩:=hR;obtain rfl:=he.symm;have hS:=hA [mV bs a5] (fG ⟨H,by decide⟩ F) (uz _);replace hS:=hS.fR N;refine gE [42,43,44,45] hS fun a hS=>?_;refine eD ?_;exact⟨_,hS.mt [2,3] [2,3,4,5,6,9],hM⟩
    refine gE [30,31,32,33,34,35,36,37,38,39,40,41,42,43,44,45] hS fun a hS=>?_;refine eD ?_;exact⟨_,hS.mt [0,1] [0,1,2,3,4,7],hM⟩
   rintro a w ⟨r,hS,hM⟩;unfold cb at hM;exact fz
  exact fz
 rintro a w ⟨hS,hM⟩;unfold mj at hM;exact fz
def ol (b:Bool):Option Bool:=some (b)
def pM (b:de):Option Bool:=(lD b.Rules b.Base b.Goals).bind fun c=>cond (c==0) ((jH b.Rules b.Base b.Stack).bind fun d=>ol d) (ol false)
theorem An (T:Nat→Prop) (W0:World) (hT:TW T W0) (hLv:dx T W0) (b:de) (m:Value) (n:Value) (o:Value) (p:Value) (q:Value) (r:Value) (g:aD aw T W0 m b.Rules) (h:aD ad T W0 n b.Base.Inputs) (i:aD aa T W0 o b.Base.Records) (j:aD ac T W0 p b.Goals) (k:aD ax T W0 q b.Stack) (l:aD ac T W0 r b.Ran) (y:Bool) (hM:pM b=some y):bc aQ No 109 [.agg (uP b m n o p q r).toArray] W0 (fun v w'=>v = .bool y):=by
 refine en Tryz.func109 Tryz.ntmps109 hT fun a hS=>?_;replace hS:=((((((hS.fact bu (dx.dn hLv)).fS (aD.dn g)).fS (aD.dn h)).fS (aD.dn i)).fS (aD.dn j)).fS (aD.dn k)).fS (aD.dn l);unfold pM at hM;refine al hS fun a hS=>?_;refine kb hS fun s t a w hk hS=>?_;refine al hS fun a hS=>?_;refine aJ (J:=fun a w=>∃ (c:Bool),St W0 No T 20 [(2,.bool c)] [] [bu] a w∧ol c=some y) ?_ ?_
 ·skip;refine al hS fun a hS=>?_;obtain⟨u,e,hM⟩:=bd hM;refine kc hS Kq (sd _ _ hS.dlt (hS.get 6 rfl) b.Rules b.Base b.Goals _ _ _ _ (hS.get 5 rfl) (hS.get 4 rfl) (hS.get 3 rfl) (hS.get 2 rfl) _ e) fun _ w hR a hk hA=>?_;obtain rfl:=hR;have hS:=bS hA;refine al hS fun a hS=>?_;rcases cd hM with⟨d,hM⟩|⟨d,hM⟩
  ·refine al hS fun a hS=>?_;obtain⟨x,f,hM⟩:=bd hM;refine wg hS rfl rfl rfl d (be hS Mq rfl rfl (vz _ _ hS.dlt (hS.get 6 rfl) b.Rules b.Base b.Stack _ _ _ _ (hS.get 5 rfl) (hS.get 4 rfl) (hS.get 3 rfl) (hS.get 1 rfl) _ f) fun _ w hR a hk hA=>?_);obtain rfl:=hR;have hS:=bS hA;exact fz
  exact fz
 rintro a w ⟨c,hS,hM⟩;unfold ol at hM;exact fz
def uA (b:LU) (c:am):Option ar:=some ((ar.mk b c ([]:LB) ([]:LL)))
theorem tQ (T:Nat→Prop) (W0:World) (hT:TW T W0) (j:LU) (i:am) (q:Value) (r:Value) (s:Value) (hD:vL T W0 []) (u:aD aw (dT T []) W0 q j) (x:aD ad (dT T []) W0 r i.Inputs) (z:aD aa (dT T []) W0 s i.Records) (y:ar) (hM:uA j i=some y):bc aQ (MD []) 62 [q,.agg (aY i r s).toArray] W0 (fun v w'=>∃ (m:Nat) (n:Value) (o:Value) (p:Value) (g:Nat) (h:Array MapEntry) (e:Nat) (b:Nat) (d:Array MapEntry) (f:Nat),v=pt m 0∧aD aw (dT T [xS m n y.Base.Revision o p g b,om g h e,om b d f]) w' n y.Rules∧aD ad (dT T [xS m n y.Base.Revision o p g b,om g h e,om b d f]) w' o y.Base.Inputs∧aD aa (dT T [xS m n y.Base.Revision o p g b,om g h e,om b d f]) w' p y.Base.Records∧bK ac true aS.str false (dT T [xS m n y.Base.Revision o p g b,om g h e,om b d f]) w' h y.Memo∧bK ac true (aS.slice ac) false (dT T [xS m n y.Base.Revision o p g b,om g h e,om b d f]) w' d y.Seen∧nO W0 w' [] [xS m n y.Base.Revision o p g b,om g h e,om b d f]):=by
 refine gg (c:=_) Tryz.func62 rfl T 11 Tryz.ntmps62 hT rfl hD fun a hS=>?_;replace hS:=((hS.fS u).fS x).fS z;unfold uA at hM;refine al hS fun a hS=>?_;refine kb hS fun A B a w hk hS=>?_;refine al hS fun a hS=>?_;refine wl rfl (rN ac true aS.str false hS rfl fun k C a w hk hS=>?_);refine wl rfl (rN ac true (aS.slice ac) false hS rfl fun l D a w hk hS=>?_);refine qy hS (bE (ps:=[(0,.tmp 5),(1,.tmp 6),(2,.tmp 7),(3,.tmp 8)]) hS M5 Nv rfl (us:=[[q],(aY i r s),[.map (some k)],[.map (some l)]]) ⟨(lb (aD.one ((hS.get 4 rfl):aD aw _ _ _ _))),⟨rfl,⟨rfl,⟨rfl,trivial⟩⟩⟩⟩ (ws:=[q,aj i.Revision,r,s,.map (some k),.map (some l)]) rfl) fun a hS=>?_;refine kb hS fun t E a w hk hS=>?_;refine al hS fun a hS=>?_;cases hM
 refine aH hS rfl (az hS rfl aF) ?_;have hZ:=hS.sl [0,2,1] [4,3,2,1,0];exact⟨t,q,r,s,k,#[],0,l,#[],0,rfl,(hZ.get 0 rfl),(hZ.get 1 rfl),(hZ.get 2 rfl),(hZ.get 3 rfl),(hZ.get 4 rfl),hZ.dnew⟩
def tX:Option Bool:=some (false)
def rS (e:LF) (d:ah) (b:Int):Option (Fl (Int) (Fl (Unit) Bool)):=cond (decide (b<(e.length:Int))) ((bg e b).bind fun c=>cond (c.Key.Kind==d.Kind&&c.Key.Text.toList==d.Text.toList) (some (.out (.out true))) (some (.go (IntKind.i64.wrap (b+1))))) (some (.out (.go ())))
def rx (c:LF) (b:ah):Option Bool:=(loop (fun s:Int=>rS c b s) 0).bind fun r=>Fl.el r (fun s=>tX) (fun y=>some (y))
theorem vy (T:Nat→Prop) (W0:World) (hT:TW T W0) (d:LF) (b:ah) (j:Value) (n:aD ax T W0 j d) (y:Bool) (hM:rx d b=some y):bc aQ No 150 [j,.agg (aX b).toArray] W0 (fun v w'=>v = .bool y):=by
 refine en Tryz.func150 Tryz.ntmps150 hT fun a hS=>?_;replace hS:=hS.fS (aD.dn n);unfold rx at hM;refine al hS fun a hS=>?_;refine kb hS fun e t a w hk hS=>?_;refine al hS fun a hS=>?_;refine aJ (J:=fun a w=>St W0 No T 18 [] [] [] a w∧tX=some y) ?_ ?_
 ·skip;refine al hS fun a hS=>?_;obtain⟨B,m,hMo1⟩:=bd hM;refine bB _ (fun s a w=>∃ (c:Int),c=s∧St W0 No T 18 [(3,pt e 0),(7,j),(8,aj (d.length:Int)),(9,aj c)] [.box e (aX b) 31] [aK ax j d] a w) m ⟨_,rfl,hS.mt [0] [0]⟩ ?_;rintro s a w r ⟨c,rfl,hS⟩ hM hf1;have hM:rS d b c=some r:=hM;unfold rS at hM;refine al hS fun a hS=>?_;refine aA ?_;rcases cd hM with⟨k,hM⟩|⟨k,hM⟩
  ·refine al hS fun a hS=>?_;refine aA ?_;refine al hS fun a hS=>?_;obtain⟨f,g,hM⟩:=bd hM;refine wl rfl (bD (R:=ax) hS tY ua rfl rfl 0 rfl g rfl fun o x q l a hS=>?_);obtain⟨z,A,rfl,h,i⟩:=l;replace hS:=(hS.fS h).fS i;refine al hS fun a hS=>?_;refine ka hS sM fun p u a w hk hS=>?_;refine go hS fun a w hS=>?_;refine wl rfl (ky (v:=.bool (f.Key.Kind==b.Kind&&f.Key.Text.toList==b.Text.toList)) hS (z7 hS rfl rfl) rfl rfl fun a hS=>?_);exact fz
  exact fz
 rintro a w ⟨hS,hM⟩;unfold tX at hM;exact fz
def nh (b:Bool):Option Bool:=some (b)
def ma (d:am) (g:LF) (b:ah):Option Bool:=(cC b).bind fun e=>cond e (some (false)) ((rx g b).bind fun f=>cond f (some (false)) ((bX d.Records b).bind fun c=>cond (!(c.2)) (nh true) (nh (c.1.Verified != d.Revision))))
theorem tW (T:Nat→Prop) (W0:World) (hT:TW T W0) (b:am) (g:LF) (c:ah) (o:Value) (p:Value) (q:Value) (l:aD ad T W0 o b.Inputs) (m:aD aa T W0 p b.Records) (n:aD ax T W0 q g) (y:Bool) (hM:ma b g c=some y):bc aQ No 136 [.agg (aY b o p).toArray,q,.agg (aX c).toArray] W0 (fun v w'=>v = .bool y):=by
 refine en Tryz.func136 Tryz.ntmps136 hT fun a hS=>?_;replace hS:=((hS.fS (aD.dn l)).fS (aD.dn m)).fS (aD.dn n);unfold ma at hM;refine al hS fun a hS=>?_;refine kb hS fun r x a w hk hS=>?_;refine kb hS fun s z a w hk hS=>?_;refine al hS fun a hS=>?_;refine aA ?_;refine i1 ?_;refine al hS fun a hS=>?_;obtain⟨B,h,hM⟩:=bd hM;refine kc hS yq (dH _ _ hS.dlt c _ h) fun _ w hR a hk hA=>?_;obtain rfl:=hR;have hS:=bS hA;refine al hS fun a hS=>?_;rcases cd hM with⟨e,hM⟩|⟨e,hM⟩
 ·exact fz
 refine al hS fun a hS=>?_;obtain⟨C,i,hM⟩:=bd hM;refine wg hS rfl rfl rfl e (be hS Gk rfl rfl (vy _ _ hS.dlt g c _ (hS.get 0 rfl) _ i) fun _ w hR a hk hA=>?_);obtain rfl:=hR;have hS:=bS hA;refine al hS fun a hS=>?_;rcases cd hM with⟨k,hM⟩|⟨k,hM⟩
 ·exact fz
 refine al hS fun a hS=>?_;obtain⟨D,j,hM⟩:=bd hM;refine kc hS oC (bx _ _ hS.dlt b.Records c _ (hS.get 1 rfl) _ j) fun _ w hR a hk hA=>?_;obtain⟨E,u,he,f⟩:=hR;obtain rfl:=he.symm;have hS:=qe hA f;refine al hS fun a hS=>?_;refine ka hS dq fun t A a w hk hS=>?_;refine go hS fun a w hS=>?_;refine aJ (J:=fun a w=>∃ (d:Bool),St W0 No T 32 [(6,.bool d)] [] [] a w∧nh d=some y) ?_ ?_
 ·exact fz
 rintro a w ⟨d,hS,hM⟩;unfold nh at hM;exact fz
def nz (c:ByteArray):Option Int:=(kP c).bind fun b=>cond (decide (b<0)) (some (0)) (cond (decide ((65535:Int)<b)) (some (0)) (some (b)))
theorem uX (T:Nat→Prop) (W0:World) (hT:TW T W0) (b:ByteArray) (y:Int) (hM:nz b=some y):bc aQ No 144 [a8 b] W0 (fun v w'=>v=aj y):=by
 refine en Tryz.func144 Tryz.ntmps144 hT fun a hS=>?_;unfold nz at hM;refine al hS fun a hS=>?_;obtain⟨d,c,hM⟩:=bd hM;refine kc hS Jy (tq _ _ hS.dlt b _ c) fun _ w hR a hk hA=>?_;obtain rfl:=hR;have hS:=bS hA;refine al hS fun a hS=>?_;refine aA ?_;refine i1 ?_;exact fz
def lu (c:aR) (b:Int) (e:Int) (d:Int):Option Int:=cond (c.Final==1) (some (Int.tmod b 1000)) (cond (c.Final==2) (some (Int.tmod (IntKind.i64.wrap (Int.tdiv b 2)) 1000)) (cond (c.Final==3) (some (e)) (cond (c.Final==4) (some (Int.tmod b 2)) (some (d)))))
def jB (b:LY) (g:Int) (f:Int) (e:Int) (c:Int):Option (Fl (Int×Int×Int×Int) (Int×Int×Int)):=cond (decide (c<(b.length:Int))) ((bg b c).bind fun h=>(nz h).bind fun d=>some (.go (IntKind.i64.wrap (g+d),max f d,Ac .or .i64 e d,IntKind.i64.wrap (c+1)))) (some (.out (g,f,e)))
def pI (c:aR) (b:LY):Option Int:=(loop (fun s:Int×Int×Int×Int=>jB b s.1 s.2.1 s.2.2.1 s.2.2.2) (c.C,c.C,c.C,0)).bind fun r=>lu c r.1 r.2.1 r.2.2
theorem Ak (T:Nat→Prop) (W0:World) (hT:TW T W0) (c:aR) (b:LY) (l:Value) (o:Value) (B:aD eU T W0 l c.Asks) (C:aD aS.str T W0 o b) (y:Int) (hM:pI c b=some y):bc aQ No 143 [.agg (uO c l).toArray,o] W0 (fun v w'=>v=aj y):=by
 refine en Tryz.func143 Tryz.ntmps143 hT fun a hS=>?_;replace hS:=(hS.fS (aD.dn B)).fS (aD.dn C);unfold pI at hM;refine al hS fun a hS=>?_;refine kb hS fun g G a w hk hS=>?_;refine al hS fun a hS=>?_;refine aA ?_;refine dr [] hS fun w hQ hS=>?_;refine gE [0,1,2,3,4,5,6,7,8] hS fun a hS=>?_;refine eD ?_;refine al hS fun a hS=>?_;refine aJ (J:=fun a w=>∃ (k:Int) (j:Int) (i:Int),St W0 No T 54 [(2,pt g 0),(5,aj k),(6,aj j),(7,aj i)] [.box g (uO c l) 115] [aK eU l c.Asks] a w∧lu c k j i=some y) ?_ ?_
 ·skip;refine al hS fun a hS=>?_;obtain⟨K,A,hMo1⟩:=bd hM;refine bB _ (fun s a w=>∃ (f:Int) (e:Int) (d:Int) (h:Int),(f,e,d,h)=s∧St W0 No T 54 [(2,pt g 0),(5,aj f),(6,aj e),(7,aj d),(17,o),(18,aj (b.length:Int)),(19,aj h)] [.box g (uO c l) 115] [aK aS.str o b,aK eU l c.Asks] a w) A ⟨_,_,_,_,rfl,hS.mt [0] [0,1]⟩ ?_;rintro s a w F ⟨f,e,d,h,rfl,hS⟩ hM hf1;have hM:jB b f e d h=some F:=hM;unfold jB at hM;refine al hS fun a hS=>?_;refine aA ?_;rcases cd hM with⟨q,hM⟩|⟨q,hM⟩
  ·refine al hS fun a hS=>?_;refine aA ?_;refine al hS fun a hS=>?_;obtain⟨p,m,hM⟩:=bd hM;refine wl rfl (bD (R:=aS.str) hS C5 JZ rfl rfl 0 rfl m rfl fun D H E r a hS=>?_);obtain rfl:=r;refine al hS fun a hS=>?_;obtain⟨I,n,hM⟩:=bd hM;refine kc hS JN (uX _ _ hS.dlt p _ n) fun _ w hR a hk hA=>?_;obtain rfl:=hR;have hS:=bS hA;refine al hS fun a hS=>?_;refine qy hS (Nq hS rfl rfl) fun a hS=>?_;refine al hS fun a hS=>?_;refine qy hS (HQ hS rfl rfl rfl) fun a hS=>?_;exact fz
  refine al hS fun a hS=>?_;cases hM
  have hr:=hf1 _ rfl;subst hr;have hM:lu c f e d=some y:=hMo1;exact⟨_,_,_,hS.mt [0] [1],hM⟩
 rintro a w ⟨k,j,i,hS,hM⟩;unfold lu at hM;refine aA ?_;refine al hS fun a hS=>?_;rcases cd hM with⟨t,hM⟩|⟨t,hM⟩
 ·refine al hS fun a hS=>?_;refine qy hS (zH hS rfl rfl (by decide)) fun a hS=>?_;exact fz
 refine al hS fun a hS=>?_;rcases cd hM with⟨u,hM⟩|⟨u,hM⟩
 ·refine al hS fun a hS=>?_;refine qy hS (J7 hS rfl rfl (by decide)) fun a hS=>?_;refine qy hS (zH hS rfl rfl (by decide)) fun a hS=>?_;exact fz
 refine al hS fun a hS=>?_;rcases cd hM with⟨x,hM⟩|⟨x,hM⟩
 ·exact fz
 refine al hS fun a hS=>?_;rcases cd hM with⟨z,hM⟩|⟨z,hM⟩
 ·refine al hS fun a hS=>?_;refine qy hS (zH hS rfl rfl (by decide)) fun a hS=>?_;exact fz
 exact fz
def kQ (c:LU) (d:dd) (b:Int):Option pu:=cond d.Cell ((nj b).bind fun e=>some ((pu.mk false cr e))) ((lp c b).bind fun f=>some ((pu.mk false cr f)))
def kR (c:LU) (b:dd) (d:Bool):Option pu:=cond d (kQ c b b.Else) (kQ c b b.N)
def gS (c:LU) (g:ah) (b:LY):Option pu:=(iE g).bind fun f=>cond (decide (f<0)) (some ((pu.mk true cr (ah.mk 0 cr)))) (cond (decide ((c.length:Int)≤f)) (some ((pu.mk true cr (ah.mk 0 cr)))) ((lp c f).bind fun h=>cond (!(h.Kind==g.Kind&&h.Text.toList==g.Text.toList)) (some ((pu.mk true cr (ah.mk 0 cr)))) ((bg c f).bind fun e=>cond (decide ((e.Asks.length:Int)≤(b.length:Int))) ((qw b 0 (e.Asks.length:Int)).bind fun j=>(pI e j).bind fun k=>(vY k).bind fun l=>some ((pu.mk true l (ah.mk 0 cr)))) ((bg e.Asks (b.length:Int)).bind fun d=>cond d.Pick (cond ((b.length:Int)==0) (kR c d true) ((bg b (IntKind.i64.wrap ((b.length:Int)-1))).bind fun i=>(nz i).bind fun m=>kR c d ((Int.tmod m 2:Int)==0))) (kR c d false)))))
theorem wo (T:Nat→Prop) (W0:World) (hT:TW T W0) (hLv:dx T W0) (b:LU) (j:ah) (d:LY) (p:Value) (v2:Value) (Z:aD aw T W0 p b) (a0:aD aS.str T W0 v2 d) (y:pu) (hM:gS b j d=some y):bc aQ No 123 [p,.agg (aX j).toArray,v2] W0 (fun v w'=>v = .agg (Jw y).toArray):=by
 refine en Tryz.func123 Tryz.ntmps123 hT fun a hS=>?_;replace hS:=((hS.fact bu (dx.dn hLv)).fS (aD.dn Z)).fS (aD.dn a0);unfold gS at hM;refine al hS fun a hS=>?_;refine kb hS fun a2 an a w hk hS=>?_;refine ka hS ox fun e av a w hk hS=>?_;refine al hS fun a hS=>?_;obtain⟨W,A,hM⟩:=bd hM;refine kc hS Ih (n5 _ _ hS.dlt j _ A) fun _ w hR a hk hA=>?_;obtain rfl:=hR;have hS:=bS hA;refine al hS fun a hS=>?_;refine aA ?_;refine aA ?_;refine dr [] hS fun w hQ hS=>?_;refine gE [0,1,2] hS fun a hS=>?_;rcases cd hM with⟨I,hM⟩|⟨I,hM⟩
 ·refine gE [3,4,5,6,7,8,9,10,11,12,13,14] hS fun a hS=>?_;refine eD ?_;refine al hS fun a hS=>?_;refine qy hS (bE (ps:=[(0,.const (.bool true))]) hS wj ox rfl (us:=[[.bool true]]) ⟨rfl,trivial⟩ (ws:=[.bool true,a8 cr,aj 0,a8 cr]) rfl) fun a hS=>?_;refine go hS fun a w hS=>?_;cases hM
  refine aH hS rfl (rC 0 hS) ?_;exact rfl
 refine gE [3,4,5,6,7,8] hS fun a hS=>?_;rcases cd hM with⟨l,hM⟩|⟨l,hM⟩
 ·refine gE [9,10,11,12,13,14] hS fun a hS=>?_;refine eD ?_;refine al hS fun a hS=>?_;refine qy hS (bE (ps:=[(0,.const (.bool true))]) hS wj ox rfl (us:=[[.bool true]]) ⟨rfl,trivial⟩ (ws:=[.bool true,a8 cr,aj 0,a8 cr]) rfl) fun a hS=>?_;refine go hS fun a w hS=>?_;cases hM
  refine aH hS rfl (rC 0 hS) ?_;exact rfl
 refine gE [9,10,12] hS fun a hS=>?_;obtain⟨q,B,hM⟩:=bd hM;refine bV (i:=11) rfl (by kernel_rfl) hS rfl rfl rfl l (be hS Fm rfl rfl (oN _ _ hS.dlt (hS.get 2 rfl) b W _ (hS.get 1 rfl) _ B) fun _ w hR a hk hA=>⟨eS (hk),?_⟩);obtain rfl:=hR;have hS:=bS hA;refine yG 13 (v:=.bool (!(q.Kind==j.Kind&&q.Text.toList==j.Text.toList))) rfl (by kernel_rfl) (by kernel_rfl) (by kernel_rfl) rfl hQ hS (AE hS rfl rfl) rfl rfl rfl l rfl rfl fun a hS=>?_;refine gE [14] hS fun a hS=>?_;refine eD ?_;refine al hS fun a hS=>?_;rcases cd hM with⟨K,hM⟩|⟨K,hM⟩
 ·refine al hS fun a hS=>?_;refine qy hS (bE (ps:=[(0,.const (.bool true))]) hS wj ox rfl (us:=[[.bool true]]) ⟨rfl,trivial⟩ (ws:=[.bool true,a8 cr,aj 0,a8 cr]) rfl) fun a hS=>?_;refine go hS fun a w hS=>?_;cases hM
  refine aH hS rfl (rC 0 hS) ?_;exact rfl
 refine al hS fun a hS=>?_;obtain⟨G,s,hM⟩:=bd hM;refine wl rfl (bD (R:=aw) hS w8 rV rfl rfl 1 rfl s rfl fun a3 b2 af L a hS=>?_);obtain⟨b6,rfl,F⟩:=L;replace hS:=hS.fS F;refine al hS fun a hS=>?_;refine ka hS tz fun a4 b0 a w hk hS=>?_;refine go hS fun a w hS=>?_;refine aA ?_;refine al hS fun a hS=>?_;rcases cd hM with⟨M,hM⟩|⟨M,hM⟩
 ·refine al hS fun a hS=>?_;refine aA ?_;refine dr [(9,.blk (some e))] hS fun w hQ hS=>?_;refine gE [0,1,2,3,4] hS fun a hS=>?_;obtain⟨V,u,hM⟩:=bd hM;obtain⟨Y,O,hS⟩:=MR (R:=aS.str) hS C5 JZ 2 rfl u;refine dy 5 (v:=Y) rfl (by kernel_rfl) (by kernel_rfl) (by kernel_rfl) rfl hQ hS (O (k1:=.i64) rfl (.inr ⟨rfl,rfl⟩) (.inl ⟨_,rfl,rfl⟩)) rfl rfl rfl fun a hS=>?_;obtain⟨X,C,hM⟩:=bd hM;refine ec 6 hS Mu (Ak _ _ hS.dlt G V _ _ (hS.get 1 rfl) (hS.get 0 rfl) _ C) fun _ w hR a hk hA=>?_;obtain rfl:=hR;have hS:=bS hA;obtain⟨o,D,hM⟩:=bd hM;refine ec 7 hS Ep (xX _ _ hS.dlt (hS.get 5 rfl) X _ D) fun _ w hR a hk hA=>?_;obtain rfl:=hR;have hS:=bS hA;refine dy 8 (v:=.agg #[.bool true,a8 o,aj 0,a8 cr]) rfl (by kernel_rfl) (by kernel_rfl) (by kernel_rfl) rfl hQ hS (bE (ps:=[(0,.const (.bool true)),(1,.tmp 48)]) hS wj ox rfl (us:=[[.bool true],[a8 o]]) ⟨rfl,⟨rfl,trivial⟩⟩ (ws:=[.bool true,a8 o,aj 0,a8 cr]) rfl) rfl rfl rfl fun a hS=>?_;refine es 9 hS fun w hS=>?_;refine eD ?_;refine al hS fun a hS=>?_;cases hM
  refine aH hS rfl (rC 1 hS) ?_;exact rfl
 refine al hS fun a hS=>?_;obtain⟨f,r,hM⟩:=bd hM;refine wl rfl (bD (R:=eU) hS Hz HL rfl rfl 0 rfl r rfl fun a5 b3 ag P a hS=>?_);obtain rfl:=P;refine al hS fun a hS=>?_;refine ka hS zS fun g b1 a w hk hS=>?_;refine go hS fun a w hS=>?_;refine aJ (J:=fun a w=>∃ (c:Int),St W0 No T 84 [(0,p),(6,pt e 0),(10,pt g 0),(11,aj c)] [.box e [.bool false,a8 cr,aj 0,a8 cr] 140,.box g (Kj f) 119] [aK aw p b,bu] a w∧kQ b f c=some y) ?_ ?_
 ·skip;refine aJ (J:=fun a w=>∃ (k:Bool),St W0 No T 84 [(0,p),(6,pt e 0),(10,pt g 0),(11,aj f.N),(72,.bool k)] [.box e [.bool false,a8 cr,aj 0,a8 cr] 140,.box g (Kj f) 119] [aK aw p b,bu] a w∧kR b f k=some y) ?_ ?_
  ·skip;refine al hS fun a hS=>?_;rcases cd hM with⟨Q,hM⟩|⟨Q,hM⟩
   ·refine al hS fun a hS=>?_;rcases cd hM with⟨h,hM⟩|⟨h,hM⟩
    ·exact fz
    refine al hS fun a hS=>?_;obtain⟨H,t,hM⟩:=bd hM;refine wg hS rfl rfl rfl h (bD (R:=aS.str) hS C5 JZ rfl rfl 3 rfl t rfl fun a9 b4 ak S a hS=>?_);obtain rfl:=S;refine al hS fun a hS=>?_;obtain⟨b5,E,hM⟩:=bd hM;refine wg hS rfl rfl rfl h (be hS JN rfl rfl (uX _ _ hS.dlt H _ E) fun _ w hR a hk hA=>?_);obtain rfl:=hR;have hS:=bS hA;refine qg hS h (zH hS rfl rfl (by decide)) fun a hS=>?_;exact fz
   exact fz
  rintro a w ⟨k,hS,hM⟩;unfold kR at hM;exact fz
 rintro a w ⟨c,hS,hM⟩;unfold kQ at hM;refine aA ?_;refine al hS fun a hS=>?_;rcases cd hM with⟨U,hM⟩|⟨U,hM⟩
 ·refine al hS fun a hS=>?_;obtain⟨m,x,hM⟩:=bd hM;refine kc hS Kw (s7 _ _ hS.dlt (hS.get 1 rfl) c _ x) fun _ w hR a hk hA=>?_;obtain rfl:=hR;have hS:=bS hA;refine qy hS (bE (ps:=[(2,.tmp 78)]) hS wj ox rfl (us:=[(aX m)]) ⟨rfl,trivial⟩ (ws:=[.bool false,a8 cr,aj m.Kind,a8 m.Text]) rfl) fun a hS=>?_;refine go hS fun a w hS=>?_;cases hM
  refine aH hS rfl (rC 0 hS) ?_;exact rfl
 refine al hS fun a hS=>?_;obtain⟨n,z,hM⟩:=bd hM;refine kc hS Fm (oN _ _ hS.dlt (hS.get 1 rfl) b c _ (hS.get 0 rfl) _ z) fun _ w hR a hk hA=>?_;obtain rfl:=hR;have hS:=bS hA;refine qy hS (bE (ps:=[(2,.tmp 82)]) hS wj ox rfl (us:=[(aX n)]) ⟨rfl,trivial⟩ (ws:=[.bool false,a8 cr,aj n.Kind,a8 n.Text]) rfl) fun a hS=>?_;refine go hS fun a w hS=>?_;cases hM
 refine aH hS rfl (rC 0 hS) ?_;exact rfl
def dP (d:LU) (c:ah) (b:LY):Option pu:=cond (c.Kind==31) ((gS d c b).bind fun e=>some (e)) (cond (c.Kind==32) ((gS d c b).bind fun f=>some (f)) ((cC c).bind fun g=>cond g (some ((pu.mk true cr (ah.mk 0 cr)))) (cond (decide (c.Kind<1)) (some ((pu.mk true cr (ah.mk 0 cr)))) (cond (decide ((22:Int)<c.Kind)) (some ((pu.mk true cr (ah.mk 0 cr)))) (none)))))
theorem gk (T:Nat→Prop) (W0:World) (hT:TW T W0) (hLv:dx T W0) (c:LU) (d:ah) (b:LY) (o:Value) (p:Value) (m:aD aw T W0 o c) (n:aD aS.str T W0 p b) (y:pu) (hM:dP c d b=some y):bc aQ No 99 [o,.agg (aX d).toArray,p] W0 (fun v w'=>v = .agg (Jw y).toArray):=by
 refine en Tryz.func99 Tryz.ntmps99 hT fun a hS=>?_;replace hS:=((hS.fact bu (dx.dn hLv)).fS (aD.dn m)).fS (aD.dn n);unfold dP at hM;refine al hS fun a hS=>?_;refine kb hS fun q s a w hk hS=>?_;refine ka hS ox fun r t a w hk hS=>?_;refine al hS fun a hS=>?_;refine aA ?_;refine al hS fun a hS=>?_;refine i1 ?_;refine al hS fun a hS=>?_;rcases cd hM with⟨h,hM⟩|⟨h,hM⟩
 ·refine al hS fun a hS=>?_;obtain⟨u,e,hM⟩:=bd hM;refine kc hS JG (wo _ _ hS.dlt (hS.get 2 rfl) c d b _ _ (hS.get 1 rfl) (hS.get 0 rfl) _ e) fun _ w hR a hk hA=>?_;obtain rfl:=hR;have hS:=bS hA;refine go hS fun a w hS=>?_;cases hM
  refine aH hS rfl (rC 0 hS) ?_;exact rfl
 refine al hS fun a hS=>?_;rcases cd hM with⟨i,hM⟩|⟨i,hM⟩
 ·refine al hS fun a hS=>?_;obtain⟨x,f,hM⟩:=bd hM;refine kc hS JG (wo _ _ hS.dlt (hS.get 2 rfl) c d b _ _ (hS.get 1 rfl) (hS.get 0 rfl) _ f) fun _ w hR a hk hA=>?_;obtain rfl:=hR;have hS:=bS hA;refine go hS fun a w hS=>?_;cases hM
  refine aH hS rfl (rC 0 hS) ?_;exact rfl
 refine al hS fun a hS=>?_;refine i1 ?_;refine al hS fun a hS=>?_;obtain⟨z,g,hM⟩:=bd hM;refine kc hS yq (dH _ _ hS.dlt d _ g) fun _ w hR a hk hA=>?_;obtain rfl:=hR;have hS:=bS hA;refine al hS fun a hS=>?_;rcases cd hM with⟨j,hM⟩|⟨j,hM⟩
 ·refine al hS fun a hS=>?_;refine qy hS (bE (ps:=[(0,.const (.bool true))]) hS wj ox rfl (us:=[[.bool true]]) ⟨rfl,trivial⟩ (ws:=[.bool true,a8 cr,aj 0,a8 cr]) rfl) fun a hS=>?_;refine go hS fun a w hS=>?_;cases hM
  refine aH hS rfl (rC 0 hS) ?_;exact rfl
 refine al hS fun a hS=>?_;rcases cd hM with⟨k,hM⟩|⟨k,hM⟩
 ·refine al hS fun a hS=>?_;refine qy hS (bE (ps:=[(0,.const (.bool true))]) hS wj ox rfl (us:=[[.bool true]]) ⟨rfl,trivial⟩ (ws:=[.bool true,a8 cr,aj 0,a8 cr]) rfl) fun a hS=>?_;refine go hS fun a w hS=>?_;cases hM
  refine aH hS rfl (rC 0 hS) ?_;exact rfl
 refine al hS fun a hS=>?_;rcases cd hM with⟨l,hM⟩|⟨l,hM⟩
 ·refine al hS fun a hS=>?_;refine qy hS (bE (ps:=[(0,.const (.bool true))]) hS wj ox rfl (us:=[[.bool true]]) ⟨rfl,trivial⟩ (ws:=[.bool true,a8 cr,aj 0,a8 cr]) rfl) fun a hS=>?_;refine go hS fun a w hS=>?_;cases hM
  refine aH hS rfl (rC 0 hS) ?_;exact rfl
 refine al hS fun a hS=>?_;cases hM
def n9 (b:LR):Option LR:=some (b)
def oa (e:ab) (b:LR) (d:Bool):Option LR:=cond (!(d)) ((gq e).bind fun c=>gd (bT (b.length+([c]).length)) <| n9 (b++([c]))) (n9 b)
def iH (b:Int) (c:LR) (d:Bool):Option (Fl (LR×Bool×Int) (LR×Bool)):=some (.go (c,d,IntKind.i64.wrap (b+1)))
def iI (d:Int) (c:ab) (f:Int) (b:LR) (e:Bool):Option (Fl (LR×Bool×Int) (LR×Bool)):=cond (f != 0) (gd (bT (b.length+([c]).length)) <| iH d (b++([c])) e) (iH d b e)
def iJ (i:ab) (b:LR) (h:Bool) (d:Int) (c:ab) (e:Int) (g:Bool):Option (Fl (LR×Bool×Int) (LR×Bool)):=cond g ((gq i).bind fun f=>gd (bT (b.length+([f]).length)) <| iI d c e (b++([f])) true) (iI d c e b h)
def qs (h:LR) (g:ab) (e:LR) (c:Bool) (b:Int):Option (Fl (LR×Bool×Int) (LR×Bool)):=cond (decide (b<(h.length:Int))) ((bg h b).bind fun d=>(iu d.Key g.Key).bind fun f=>cond (decide ((0:Int)≤f)) (iJ g e c b d f (!(c))) (iJ g e c b d f false)) (some (.out (e,c)))
def l6 (c:LR) (b:ab):Option LR:=(loop (fun s:LR×Bool×Int=>qs c b s.1 s.2.1 s.2.2) (([]:List ab),false,0)).bind fun r=>oa b r.1 r.2
theorem xy (T:Nat→Prop) (W0:World) (hT:TW T W0) (hLv:dx T W0) (f:LR) (b:ab) (p:Value) (m:Value) (an:aD aa T W0 p f) (av:aD ac T W0 m b.Reads) (y:LR) (hM:l6 f b=some y):bc aQ No 119 [p,.agg (aE b m).toArray] W0 (fun v w'=>∃ (v3:Value) (wO:bh),v=v3∧ip aa T W0 w' [ae v3 wO] 33 v3 wO y):=by
 refine en Tryz.func119 Tryz.ntmps119 hT fun a hS=>?_;replace hS:=((hS.fact bu (dx.dn hLv)).fS (aD.dn an)).fS (aD.dn av);unfold l6 at hM;refine al hS fun a hS=>?_;refine kb hS fun d bi a w hk hS=>?_;refine al hS fun a hS=>?_;refine aJ (J:=fun a w=>∃ (t:LR) (H:Bool) (L:Value) (B:LV),St W0 No T 47 [(3,pt d 0),(5,L),(6,.bool H)] [ae L B,.box d (aE b m) 33] [ao aa B t,aK ac m b.Reads,bu] a w∧oa b t H=some y) ?_ ?_
 ·skip;refine al hS fun a hS=>?_;replace hS:=hS.nilRow aa 33 (by decide);obtain⟨r1,ak,hMo1⟩:=bd hM;refine bB _ (fun s a w=>∃ (g:LR) (h:Bool) (e:Int) (o:Value) (n:LV),(g,h,e)=s∧St W0 No T 47 [(3,pt d 0),(5,o),(6,.bool h),(10,p),(11,aj (f.length:Int)),(12,aj e)] [ae o n,.box d (aE b m) 33] [ao aa n g,aK aa p f,aK ac m b.Reads,bu] a w) ak ⟨_,_,_,_,_,rfl,hS.mt [0,1] [0,2,1,3]⟩ ?_;rintro s a w U ⟨g,h,e,o,n,rfl,hS⟩ hM hf1;have hM:qs f b g h e=some U:=hM;unfold qs at hM;refine al hS fun a hS=>?_;refine aA ?_;rcases cd hM with⟨a0,hM⟩|⟨a0,hM⟩
  ·refine al hS fun a hS=>?_;refine aJ (J:=fun a w=>∃ (G:LR) (I:Bool) (M:Value) (C:LV),St W0 No T 47 [(3,pt d 0),(5,M),(6,.bool I),(10,p),(11,aj (f.length:Int)),(12,aj e)] [ae M C,.box d (aE b m) 33] [ao aa C G,aK aa p f,aK ac m b.Reads,bu] a w∧iH e G I=some U) ?_ ?_
   ·skip;refine al hS fun a hS=>?_;obtain⟨c,V,hM⟩:=bd hM;refine wl rfl (bD (R:=aa) hS dM bZ rfl rfl 1 rfl V rfl fun b0 bs b4 a1 a hS=>?_);obtain⟨j,rfl,Z⟩:=a1;replace hS:=hS.fS Z;refine al hS fun a hS=>?_;refine ka hS dq fun q bl a w hk hS=>?_;refine go hS fun a w hS=>?_;obtain⟨z,X,hM⟩:=bd hM;refine kc hS DF (ln _ _ hS.dlt (hS.get 5 rfl) c.Key b.Key _ X) fun _ w hR a hk hA=>?_;obtain rfl:=hR;have hS:=bS hA;refine al hS fun a hS=>?_;refine aJ (J:=fun a w=>∃ (u:LR) (K:Bool) (N:Value) (D:LV),St W0 No T 47 [(3,pt d 0),(5,N),(6,.bool K),(8,pt q 0),(9,aj z),(10,p),(11,aj (f.length:Int)),(12,aj e)] [ae N D,.box d (aE b m) 33,.box q (aE c j) 33] [ao aa D u,aK aa p f,aK ac m b.Reads,aK ac j c.Reads,bu] a w∧iI e c z u K=some U) ?_ ?_
    ·skip;refine aJ (J:=fun a w=>∃ (E:Bool),St W0 No T 47 [(3,pt d 0),(5,o),(6,.bool h),(8,pt q 0),(9,aj z),(10,p),(11,aj (f.length:Int)),(12,aj e),(26,.bool E)] [ae o n,.box d (aE b m) 33,.box q (aE c j) 33] [ao aa n g,aK aa p f,aK ac m b.Reads,aK ac j c.Reads,bu] a w∧iJ b g h e c z E=some U) ?_ ?_
     ·exact fz
     rintro a w ⟨E,hS,hM⟩;unfold iJ at hM;rcases cd hM with⟨a2,hM⟩|⟨a2,hM⟩
     ·refine al hS fun a hS=>?_;obtain⟨l,Y,hM⟩:=bd hM;refine kc hS If (mX _ _ hS.dlt b _ (hS.get 2 rfl) _ Y) fun _ w hR a hk hA=>?_;obtain⟨O,b5,he,Q⟩:=hR;obtain rfl:=he.symm;have hS:=qe hA Q;refine wl rfl (bf (ps:=[(0,.tmp 29)]) hS rJ dq (zl:=[aj 0,a8 cr,a8 cr,.slice none 0 0,aj 0,aj 0,aj 0,.bool false]) (by kernel_rfl) rfl (us:=[(aE l O)]) ⟨rfl,trivial⟩ (ws:=(aE l O)) rfl rfl rfl rfl fun b1 a w hk hS=>?_);replace hS:=hS.freeze (R:=ac) 1 rfl 0 rfl;replace hS:=(hS.lit (R:=aa) (us:=(aE l O)) (xs:=[l]) 0 rfl (by decide) (aB.one_ (R:=aa) (x:=l) (⟨_,rfl,(hS.get 0 rfl)⟩)) rfl rfl).freeze (R:=aa) 0 rfl 0 rfl;obtain⟨a3,hM⟩:=bo hM;refine wl rfl (bM (R:=aa) (xs:=g) (ys:=[l]) hS rJ (by decide) (by decide) rfl rfl 0 rfl 4 rfl 0 rfl a3 rfl fun bt b6 a w hk hS=>?_);exact fz
     exact fz
    rintro a w ⟨u,K,N,D,hS,hM⟩;unfold iI at hM;refine al hS fun a hS=>?_;rcases cd hM with⟨a4,hM⟩|⟨a4,hM⟩
    ·refine al hS fun a hS=>?_;refine wl rfl (bf (ps:=[(0,.tmp 35)]) hS rJ dq (zl:=[aj 0,a8 cr,a8 cr,.slice none 0 0,aj 0,aj 0,aj 0,.bool false]) (by kernel_rfl) rfl (us:=[(aE c j)]) ⟨rfl,trivial⟩ (ws:=(aE c j)) rfl rfl rfl rfl fun b2 a w hk hS=>?_);replace hS:=(hS.lit (R:=aa) (us:=(aE c j)) (xs:=[c]) 0 rfl (by decide) (aB.one_ (R:=aa) (x:=c) (⟨_,rfl,(hS.get 3 rfl)⟩)) rfl rfl).freeze (R:=aa) 0 rfl 0 rfl;obtain⟨a5,hM⟩:=bo hM;refine wl rfl (bM (R:=aa) (xs:=u) (ys:=[c]) hS rJ (by decide) (by decide) rfl rfl 0 rfl 2 rfl 0 rfl a5 rfl fun bF b8 a w hk hS=>?_);exact fz
    exact fz
   rintro a w ⟨G,I,M,C,hS,hM⟩;unfold iH at hM;exact fz
  refine al hS fun a hS=>?_;cases hM
  have hr:=hf1 _ rfl;subst hr;have hM:oa b g h=some y:=hMo1;exact⟨_,_,_,_,hS.mt [0,1] [0,2,3],hM⟩
 rintro a w ⟨t,H,L,B,hS,hM⟩;unfold oa at hM;refine aJ (J:=fun a w=>∃ (F:LR) (A:Value) (r:LV),St W0 No T 47 [(5,A)] [ae A r] [ao aa r F,bu] a w∧n9 F=some y) ?_ ?_
 ·skip;refine al hS fun a hS=>?_;rcases cd hM with⟨a9,hM⟩|⟨a9,hM⟩
  ·refine al hS fun a hS=>?_;obtain⟨k,W,hM⟩:=bd hM;refine kc hS If (mX _ _ hS.dlt b _ (hS.get 1 rfl) _ W) fun _ w hR a hk hA=>?_;obtain⟨P,b9,he,S⟩:=hR;obtain rfl:=he.symm;have hS:=qe hA S;refine wl rfl (bf (ps:=[(0,.tmp 43)]) hS rJ dq (zl:=[aj 0,a8 cr,a8 cr,.slice none 0 0,aj 0,aj 0,aj 0,.bool false]) (by kernel_rfl) rfl (us:=[(aE k P)]) ⟨rfl,trivial⟩ (ws:=(aE k P)) rfl rfl rfl rfl fun b3 a w hk hS=>?_);replace hS:=hS.freeze (R:=ac) 1 rfl 0 rfl;replace hS:=(hS.lit (R:=aa) (us:=(aE k P)) (xs:=[k]) 0 rfl (by decide) (aB.one_ (R:=aa) (x:=k) (⟨_,rfl,(hS.get 0 rfl)⟩)) rfl rfl).freeze (R:=aa) 0 rfl 0 rfl;obtain⟨af,hM⟩:=bo hM;refine wl rfl (bM (R:=aa) (xs:=t) (ys:=[k]) hS rJ (by decide) (by decide) rfl rfl 0 rfl 4 rfl 0 rfl af rfl fun c0 bb a w hk hS=>?_);exact fz
  exact fz
 rintro a w ⟨F,A,r,hS,hM⟩;unfold n9 at hM;refine al hS fun a hS=>?_;cases hM
 refine aH hS rfl (az hS rfl aF) ?_;exact⟨A,r,rfl,hS.retOwn ⟨.inr (aG (i:=0) rfl),trivial⟩ 0 rfl 0 rfl⟩
def mG (e:am) (f:ah) (c:ByteArray) (b:LK) (d:Int):Option ab:=some ((ab.mk f c b d e.Revision (IntKind.i64.wrap (1+(b.length:Int))) false))
def mH (d:am) (e:ah) (c:ByteArray) (b:LK) (g:(ab×Bool)) (f:Bool):Option ab:=cond f (mG d e c b g.1.Changed) (mG d e c b d.Revision)
def oS (e:am) (f:ah) (b:ByteArray) (d:LK):Option ab:=(bX e.Records f).bind fun c=>cond c.2 (mH e f b d c (c.1.Value.toList==b.toList)) (mH e f b d c false)
theorem ww (T:Nat→Prop) (W0:World) (hT:TW T W0) (d:am) (e:ah) (c:ByteArray) (b:LK) (t:Value) (u:Value) (h:Value) (q:aD ad T W0 t d.Inputs) (r:aD aa T W0 u d.Records) (s:aD ac T W0 h b) (y:ab) (hM:oS d e c b=some y):bc aQ No 120 [.agg (aY d t u).toArray,.agg (aX e).toArray,a8 c,h] W0 (fun v w'=>∃ (x:Value),v = .agg (aE y x).toArray∧aD ac (dT T []) w' x y.Reads):=by
 refine en Tryz.func120 Tryz.ntmps120 hT fun a hS=>?_;replace hS:=((hS.fS (aD.dn q)).fS (aD.dn r)).fS (aD.dn s);unfold oS at hM;refine al hS fun a hS=>?_;refine kb hS fun z B a w hk hS=>?_;refine kb hS fun A C a w hk hS=>?_;refine ka hS dq fun f D a w hk hS=>?_;refine al hS fun a hS=>?_;refine qy hS (bE (ps:=[(0,.tmp 12),(1,.tmp 13),(2,.tmp 14),(3,.tmp 16),(4,.tmp 18),(5,.tmp 21)]) hS Hd dq rfl (us:=[(aX e),[a8 c],[h],[aj d.Revision],[aj d.Revision],[aj (IntKind.i64.wrap (1+(b.length:Int)))]]) ⟨rfl,⟨rfl,⟨(lb (aD.one ((hS.get 0 rfl):aD ac _ _ _ _))),⟨rfl,⟨rfl,⟨rfl,trivial⟩⟩⟩⟩⟩⟩ (ws:=[aj e.Kind,a8 e.Text,a8 c,h,aj d.Revision,aj d.Revision,aj (IntKind.i64.wrap (1+(b.length:Int))),.bool false]) rfl) fun a hS=>?_;refine ka hS dq fun g E a w hk hS=>?_;refine go hS fun a w hS=>?_;refine aJ (J:=fun a w=>∃ (j:Int),St W0 No T 41 [(8,pt f 0),(9,pt g 0)] [.box f [aj 0,a8 cr,a8 cr,.slice none 0 0,aj 0,aj 0,aj 0,.bool false] 33,.box g [aj e.Kind,a8 e.Text,a8 c,h,aj j,aj d.Revision,aj (IntKind.i64.wrap (1+(b.length:Int))),.bool false] 33] [aK ac h b] a w∧mG d e c b j=some y) ?_ ?_
 ·skip;refine al hS fun a hS=>?_;obtain⟨k,p,hM⟩:=bd hM;refine kc hS oC (bx _ _ hS.dlt d.Records e _ (hS.get 1 rfl) _ p) fun _ w hR a hk hA=>?_;obtain⟨o,m,he,n⟩:=hR;obtain rfl:=he.symm;have hS:=qe hA n;refine al hS fun a hS=>?_;refine ka hS dq fun l F a w hk hS=>?_;refine go hS fun a w hS=>?_;refine aJ (J:=fun a w=>∃ (i:Bool),St W0 No T 41 [(8,pt f 0),(9,pt g 0),(10,pt l 0),(36,.bool i)] [.box f [aj 0,a8 cr,a8 cr,.slice none 0 0,aj 0,aj 0,aj 0,.bool false] 33,.box g [aj e.Kind,a8 e.Text,a8 c,h,aj d.Revision,aj d.Revision,aj (IntKind.i64.wrap (1+(b.length:Int))),.bool false] 33,ay o m,.box l (aE k.1 o) 33] [aK ac h b,ao ac m k.1.Reads] a w∧mH d e c b k i=some y) ?_ ?_
  ·exact fz
  rintro a w ⟨i,hS,hM⟩;unfold mH at hM;exact fz
 rintro a w ⟨j,hS,hM⟩;unfold mG at hM;refine go hS fun a w hS=>?_;cases hM
 refine aH hS rfl (rC 0 hS) ?_;exact⟨h,rfl,(aD.up trivial (hS.get 0 rfl))⟩
def kU (h:am) (i:LF) (b:LF) (c:ah) (d:Bool):Option Int:=cond d (some (3)) ((ma h i c).bind fun e=>cond (!(e)) (some (0)) ((rx b c).bind fun f=>cond (!(f)) (some (1)) ((cB c).bind fun g=>cond g (some (0)) (some (2)))))
def oT (e:am) (d:LF) (b:LF) (c:ah):Option Int:=(cB c).bind fun f=>cond (!(f)) ((rx d c).bind fun g=>kU e d b c g) (kU e d b c false)
theorem wA (T:Nat→Prop) (W0:World) (hT:TW T W0) (c:am) (e:LF) (b:LF) (d:ah) (o:Value) (p:Value) (q:Value) (r:Value) (x:aD ad T W0 o c.Inputs) (z:aD aa T W0 p c.Records) (A:aD ax T W0 q e) (B:aD ax T W0 r b) (y:Int) (hM:oT c e b d=some y):bc aQ No 151 [.agg (aY c o p).toArray,q,r,.agg (aX d).toArray] W0 (fun v w'=>v=aj y):=by
 refine en Tryz.func151 Tryz.ntmps151 hT fun a hS=>?_;replace hS:=(((hS.fS (aD.dn x)).fS (aD.dn z)).fS (aD.dn A)).fS (aD.dn B);unfold oT at hM;refine al hS fun a hS=>?_;refine kb hS fun g C a w hk hS=>?_;refine kb hS fun h D a w hk hS=>?_;refine al hS fun a hS=>?_;refine aA ?_;refine al hS fun a hS=>?_;refine aJ (J:=fun a w=>∃ (f:Bool),St W0 No T 32 [(1,q),(2,r),(4,pt g 0),(7,pt h 0),(9,.bool f)] [.box g (aY c o p) 25,.box h (aX d) 31] [aK ax q e,aK ax r b,aK ad o c.Inputs,aK aa p c.Records] a w∧kU c e b d f=some y) ?_ ?_
 ·skip;refine al hS fun a hS=>?_;obtain⟨H,m,hM⟩:=bd hM;refine kc hS wN (cO _ _ hS.dlt d _ m) fun _ w hR a hk hA=>?_;obtain rfl:=hR;have hS:=bS hA;refine al hS fun a hS=>?_;rcases cd hM with⟨i,hM⟩|⟨i,hM⟩
  ·refine al hS fun a hS=>?_;obtain⟨I,n,hM⟩:=bd hM;refine wg hS rfl rfl rfl i (be hS Gk rfl rfl (vy _ _ hS.dlt e d _ (hS.get 1 rfl) _ n) fun _ w hR a hk hA=>?_);obtain rfl:=hR;have hS:=bS hA;exact fz
  exact fz
 rintro a w ⟨f,hS,hM⟩;unfold kU at hM;rcases cd hM with⟨s,hM⟩|⟨s,hM⟩
 ·exact fz
 refine al hS fun a hS=>?_;obtain⟨E,j,hM⟩:=bd hM;refine kc hS JK (tW _ _ hS.dlt c e d _ _ _ (hS.get 2 rfl) (hS.get 3 rfl) (hS.get 0 rfl) _ j) fun _ w hR a hk hA=>?_;obtain rfl:=hR;have hS:=bS hA;refine al hS fun a hS=>?_;rcases cd hM with⟨t,hM⟩|⟨t,hM⟩
 ·exact fz
 refine al hS fun a hS=>?_;obtain⟨F,k,hM⟩:=bd hM;refine kc hS Gk (vy _ _ hS.dlt b d _ (hS.get 1 rfl) _ k) fun _ w hR a hk hA=>?_;obtain rfl:=hR;have hS:=bS hA;refine al hS fun a hS=>?_;rcases cd hM with⟨u,hM⟩|⟨u,hM⟩
 ·exact fz
 refine al hS fun a hS=>?_;obtain⟨G,l,hM⟩:=bd hM;refine kc hS wN (cO _ _ hS.dlt d _ l) fun _ w hR a hk hA=>?_;obtain rfl:=hR;have hS:=bS hA;exact fz
def tO (b:Int):Option ByteArray:=cond (b==14) (some ((ByteArray.mk #[48]))) (some (cr))
theorem Ai (T:Nat→Prop) (W0:World) (hT:TW T W0) (b:Int) (y:ByteArray) (hM:tO b=some y):bc aQ No 142 [aj b] W0 (fun v w'=>v=a8 y):=by
 refine en Tryz.func142 Tryz.ntmps142 hT fun a hS=>?_;unfold tO at hM;refine al hS fun a hS=>?_;refine aA ?_;exact fz
def jP (b:ah):Option ByteArray:=cond (b.Kind==32) (some ((ByteArray.mk #[48]))) ((cB b).bind fun c=>cond c ((tO b.Kind).bind fun d=>some (d)) (some (cr)))
theorem sc (T:Nat→Prop) (W0:World) (hT:TW T W0) (b:ah) (y:ByteArray) (hM:jP b=some y):bc aQ No 122 [.agg (aX b).toArray] W0 (fun v w'=>v=a8 y):=by
 refine en Tryz.func122 Tryz.ntmps122 hT fun a hS=>?_;unfold jP at hM;refine al hS fun a hS=>?_;refine kb hS fun g h a w hk hS=>?_;refine al hS fun a hS=>?_;refine aA ?_;refine al hS fun a hS=>?_;rcases cd hM with⟨e,hM⟩|⟨e,hM⟩
 ·exact fz
 refine al hS fun a hS=>?_;obtain⟨i,c,hM⟩:=bd hM;refine kc hS wN (cO _ _ hS.dlt b _ c) fun _ w hR a hk hA=>?_;obtain rfl:=hR;have hS:=bS hA;refine al hS fun a hS=>?_;rcases cd hM with⟨f,hM⟩|⟨f,hM⟩
 ·refine al hS fun a hS=>?_;obtain⟨j,d,hM⟩:=bd hM;refine kc hS Mt (Ai _ _ hS.dlt b.Kind _ d) fun _ w hR a hk hA=>?_;obtain rfl:=hR;have hS:=bS hA;exact fz
 exact fz
def nu (vrec:ar→ah→Option (ByteArray×ar)):Prop:=∀ (T:Nat→Prop) (W0:World) (hT:∀ k,T k→k<W0.heap.size) (t:ar) (u:ah) (d:Nat) (n:Value) (o:Value) (p:Value) (b:Nat) (f:Array MapEntry) (h:Nat) (c:Nat) (g:Array MapEntry) (e:Nat) (hD:vL T W0 [.box d [n,aj t.Base.Revision,o,p,.map (some b),.map (some c)] 137,.obj b (.map f h),.obj c (.map g e)]) (A:aD aw (dT T [.box d [n,aj t.Base.Revision,o,p,.map (some b),.map (some c)] 137,.obj b (.map f h),.obj c (.map g e)]) W0 n t.Rules) (B:aD ad (dT T [.box d [n,aj t.Base.Revision,o,p,.map (some b),.map (some c)] 137,.obj b (.map f h),.obj c (.map g e)]) W0 o t.Base.Inputs) (C:aD aa (dT T [.box d [n,aj t.Base.Revision,o,p,.map (some b),.map (some c)] 137,.obj b (.map f h),.obj c (.map g e)]) W0 p t.Base.Records) (x:bK ac true aS.str false (dT T [.box d [n,aj t.Base.Revision,o,p,.map (some b),.map (some c)] 137,.obj b (.map f h),.obj c (.map g e)]) W0 f t.Memo) (z:bK ac true (aS.slice ac) false (dT T [.box d [n,aj t.Base.Revision,o,p,.map (some b),.map (some c)] 137,.obj b (.map f h),.obj c (.map g e)]) W0 g t.Seen) (hLv:dx (dT T [.box d [n,aj t.Base.Revision,o,p,.map (some b),.map (some c)] 137,.obj b (.map f h),.obj c (.map g e)]) W0) (y:ByteArray×ar) (hM:vrec t u=some y),bc aQ (MD [.box d [n,aj t.Base.Revision,o,p,.map (some b),.map (some c)] 137,.obj b (.map f h),.obj c (.map g e)]) 65 [.pointer (some ⟨d,0,none⟩),.agg #[aj u.Kind,a8 u.Text]] W0 (fun v w'=>∃ (q:Value) (r:Value) (s:Value) (i:Array MapEntry) (l:Nat) (j:Array MapEntry) (m:Nat),v=a8 y.1∧nO W0 w' [.box d [n,aj t.Base.Revision,o,p,.map (some b),.map (some c)] 137,.obj b (.map f h),.obj c (.map g e)] [.box d [q,aj y.2.Base.Revision,r,s,.map (some b),.map (some c)] 137,.obj b (.map i l),.obj c (.map j m)]∧aD aw (dT T [.box d [q,aj y.2.Base.Revision,r,s,.map (some b),.map (some c)] 137,.obj b (.map i l),.obj c (.map j m)]) w' q y.2.Rules∧aD ad (dT T [.box d [q,aj y.2.Base.Revision,r,s,.map (some b),.map (some c)] 137,.obj b (.map i l),.obj c (.map j m)]) w' r y.2.Base.Inputs∧aD aa (dT T [.box d [q,aj y.2.Base.Revision,r,s,.map (some b),.map (some c)] 137,.obj b (.map i l),.obj c (.map j m)]) w' s y.2.Base.Records∧bK ac true aS.str false (dT T [.box d [q,aj y.2.Base.Revision,r,s,.map (some b),.map (some c)] 137,.obj b (.map i l),.obj c (.map j m)]) w' i y.2.Memo∧bK ac true (aS.slice ac) false (dT T [.box d [q,aj y.2.Base.Revision,r,s,.map (some b),.map (some c)] 137,.obj b (.map i l),.obj c (.map j m)]) w' j y.2.Seen)
def kX (b:LU) (c:Int) (d:LI) (e:LR) (f:LL) (g:LB):Option ar:=some ((ar.mk b (am.mk c d e) g f))
def ic (f:LB) (d:LK) (b:Int) (e:LB):Option (Fl (Int×LB) (LB)):=cond (decide (b<(d.length:Int))) ((bg d b).bind fun c=>(some ((cV aP c f).getD cr)).bind fun g=>some (.go (IntKind.i64.wrap (b+1),(d9 aP c g e)))) (some (.out e))
def eW (b:LB) (c:LK) (d:LU) (e:Int) (f:LI) (g:LR) (i:LB) (h:LL):Option ar:=(loop (fun s:Int×LB=>ic b c s.1 s.2) (0,i)).bind fun r=>kX d e f g h r
def ia (b:LB) (d:LK) (c:Bool) (e:LU) (f:Int) (g:LI) (h:LR) (i:LB) (j:LL):Option (Fl (LB×LK×Bool×LU×Int×LI×LR×LB×LL) (LB×LK×LU×Int×LI×LR×LB×LL)):=some (.go (b,d,c,e,f,g,h,i,j))
def dD (d:Int) (b:LB) (e:LK) (c:Bool) (f:LU) (g:Int) (h:LI) (i:LR) (j:LB) (k:LL):Option (Fl (LB×LK×Bool×Int×LU×Int×LI×LR×LB×LL) (LB×LK×Bool×LU×Int×LI×LR×LB×LL)):=some (.go (b,e,c,IntKind.i64.wrap (d+1),f,g,h,i,j,k))
def eX (b:Int) (d:LB) (c:LK) (l:Bool) (e:LU) (f:Int) (g:LI) (h:LR) (i:LB) (j:LL) (p:Bool) (k:ByteArray) (q:Int) (r:ByteArray):Option (Fl (LB×LK×Bool×Int×LU×Int×LI×LR×LB×LL) (LB×LK×Bool×LU×Int×LI×LR×LB×LL)):=(bg c b).bind fun m=>(some ((cV aP m d).getD cr)).bind fun o=>cond (!(o.toList==k.toList)) ((bg c b).bind fun n=>dD b (d9 aP n k d) c true e f g h i j) (dD b d c l e f g h i j)
def cH (j:Int) (c:LY) (g:LB) (e:LK) (h:Bool) (d:ByteArray) (f:LU) (k:Int) (l:LI) (m:LR) (n:LB) (o:LL):Option (Fl (LB×LK×Bool×LY×LU×Int×LI×LR×LB×LL×Bool×ByteArray×Int×ByteArray) (LB×LK×Bool×LU×Int×LI×LR×LB×LL×Bool×ByteArray×Int×ByteArray)):=gd (bT (c.length+([d]).length)) <| (bg e j).bind fun i=>(dP f i (c++([d]))).bind fun b=>some (.go (g,e,h,(c++([d])),f,k,l,m,n,o,b.Done,b.Value,b.Ask.Kind,b.Ask.Text))
def dE (e:Int) (c:LY) (g:LU) (h:Int) (i:LI) (j:LR) (k:LB) (l:LL) (m:Int) (n:ByteArray) (b:LB) (f:LK) (d:Bool):Option (Fl (LB×LK×Bool×LY×LU×Int×LI×LR×LB×LL×Bool×ByteArray×Int×ByteArray) (LB×LK×Bool×LU×Int×LI×LR×LB×LL×Bool×ByteArray×Int×ByteArray)):=(some ((cV aP (ah.mk m n) b).getD cr)).bind fun o=>cH e c b f d o g h i j k l
def dF (vrec:ar→ah→Option (ByteArray×ar)) (o:Int) (d:LB) (g:LK) (n:Bool) (m:LY) (h:LU) (i:Int) (j:LI) (k:LR) (e:LB) (l:LL) (p:Bool) (q:ByteArray) (b:Int) (c:ByteArray):Option (Fl (LB×LK×Bool×LY×LU×Int×LI×LR×LB×LL×Bool×ByteArray×Int×ByteArray) (LB×LK×Bool×LU×Int×LI×LR×LB×LL×Bool×ByteArray×Int×ByteArray)):=cond (!(p)) ((some ((cV aP (ah.mk b c) e).getD cr)).bind fun r=>cond ((cV aP (ah.mk b c) e).isSome) (cH o m d g n r h i j k e l) ((cB (ah.mk b c)).bind fun s=>cond (!(s)) ((vrec (ar.mk h (am.mk i j k) e l) (ah.mk b c)).bind fun f=>cH o m d g n f.1 f.2.Rules f.2.Base.Revision f.2.Base.Inputs f.2.Base.Records f.2.Memo f.2.Seen) ((some ((cV aP (ah.mk b c) d).getD cr)).bind fun u=>cond (!((cV aP (ah.mk b c) d).isSome)) ((jP (ah.mk b c)).bind fun t=>gd (bT (g.length+([(ah.mk b c)]).length)) <| dE o m h i j k e l b c (d9 aP (ah.mk b c) t d) (g++([(ah.mk b c)])) true) (dE o m h i j k e l b c d g n)))) (some (.out (d,g,n,h,i,j,k,e,l,p,q,b,c)))
def gh (vrec:ar→ah→Option (ByteArray×ar)) (c:LB) (e:LK) (d:Bool) (b:Int) (f:LU) (g:Int) (h:LI) (i:LR) (j:LB) (k:LL) (l:Bool) (m:ByteArray) (n:Int) (o:ByteArray):Option (Fl (LB×LK×Bool×Int×LU×Int×LI×LR×LB×LL) (LB×LK×Bool×LU×Int×LI×LR×LB×LL)):=(loop (fun s:LB×LK×Bool×LY×LU×Int×LI×LR×LB×LL×Bool×ByteArray×Int×ByteArray=>dF vrec b s.1 s.2.1 s.2.2.1 s.2.2.2.1 s.2.2.2.2.1 s.2.2.2.2.2.1 s.2.2.2.2.2.2.1 s.2.2.2.2.2.2.2.1 s.2.2.2.2.2.2.2.2.1 s.2.2.2.2.2.2.2.2.2.1 s.2.2.2.2.2.2.2.2.2.2.1 s.2.2.2.2.2.2.2.2.2.2.2.1 s.2.2.2.2.2.2.2.2.2.2.2.2.1 s.2.2.2.2.2.2.2.2.2.2.2.2.2) (c,e,d,([]:List ByteArray),f,g,h,i,j,k,l,m,n,o)).bind fun r=>eX b r.1 r.2.1 r.2.2.1 r.2.2.2.1 r.2.2.2.2.1 r.2.2.2.2.2.1 r.2.2.2.2.2.2.1 r.2.2.2.2.2.2.2.1 r.2.2.2.2.2.2.2.2.1 r.2.2.2.2.2.2.2.2.2.1 r.2.2.2.2.2.2.2.2.2.2.1 r.2.2.2.2.2.2.2.2.2.2.2.1 r.2.2.2.2.2.2.2.2.2.2.2.2
def eF (vrec:ar→ah→Option (ByteArray×ar)) (f:LB) (b:LK) (g:Bool) (d:Int) (e:LU) (h:Int) (i:LI) (j:LR) (k:LB) (l:LL):Option (Fl (LB×LK×Bool×Int×LU×Int×LI×LR×LB×LL) (LB×LK×Bool×LU×Int×LI×LR×LB×LL)):=cond (decide (d<(b.length:Int))) ((bg b d).bind fun m=>(dP e m ([])).bind fun c=>gh vrec f b g d e h i j k l c.Done c.Value c.Ask.Kind c.Ask.Text) (some (.out (f,b,g,e,h,i,j,k,l)))
def eG (vrec:ar→ah→Option (ByteArray×ar)) (b:LB) (c:LK) (j:Bool) (d:LU) (e:Int) (f:LI) (g:LR) (h:LB) (i:LL):Option (Fl (LB×LK×Bool×LU×Int×LI×LR×LB×LL) (LB×LK×LU×Int×LI×LR×LB×LL)):=cond j ((loop (fun s:LB×LK×Bool×Int×LU×Int×LI×LR×LB×LL=>eF vrec s.1 s.2.1 s.2.2.1 s.2.2.2.1 s.2.2.2.2.1 s.2.2.2.2.2.1 s.2.2.2.2.2.2.1 s.2.2.2.2.2.2.2.1 s.2.2.2.2.2.2.2.2.1 s.2.2.2.2.2.2.2.2.2) (b,c,false,0,d,e,f,g,h,i)).bind fun r=>ia r.1 r.2.1 r.2.2.1 r.2.2.2.1 r.2.2.2.2.1 r.2.2.2.2.2.1 r.2.2.2.2.2.2.1 r.2.2.2.2.2.2.2.1 r.2.2.2.2.2.2.2.2) (some (.out (b,c,d,e,f,g,h,i)))
def gj (vrec:ar→ah→Option (ByteArray×ar)) (b:ar) (d:ah) (c:LB):Option ar:=(loop (fun s:LB×LK×Bool×LU×Int×LI×LR×LB×LL=>eG vrec s.1 s.2.1 s.2.2.1 s.2.2.2.1 s.2.2.2.2.1 s.2.2.2.2.2.1 s.2.2.2.2.2.2.1 s.2.2.2.2.2.2.2.1 s.2.2.2.2.2.2.2.2) (c,[d],true,b.Rules,b.Base.Revision,b.Base.Inputs,b.Base.Records,b.Memo,b.Seen)).bind fun r=>eW r.1 r.2.1 r.2.2.1 r.2.2.2.1 r.2.2.2.2.1 r.2.2.2.2.2.1 r.2.2.2.2.2.2.1 r.2.2.2.2.2.2.2
def gX (vrec:ar→ah→Option (ByteArray×ar)) (d:ar) (b:ah):Option ar:=(jP b).bind fun c=>gj vrec d b (d9 aP b c ([]:LB))
theorem tS (T:Nat→Prop) (W0:World) (hT:TW T W0) (vrec:ar→ah→Option (ByteArray×ar)) (hvrec:nu vrec) (n:ar) (C:ah) (m:Nat) (z:Value) (A:Value) (B:Value) (b:Nat) (p:Array MapEntry) (r:Nat) (d:Nat) (q:Array MapEntry) (o:Nat) (hD:vL T W0 [xS m z n.Base.Revision A B b d,om b p r,om d q o]) (vg:aD aw (dT T [xS m z n.Base.Revision A B b d,om b p r,om d q o]) W0 z n.Rules) (vs:aD ad (dT T [xS m z n.Base.Revision A B b d,om b p r,om d q o]) W0 A n.Base.Inputs) (w0:aD aa (dT T [xS m z n.Base.Revision A B b d,om b p r,om d q o]) W0 B n.Base.Records) (v6:bK ac true aS.str false (dT T [xS m z n.Base.Revision A B b d,om b p r,om d q o]) W0 p n.Memo) (v7:bK ac true (aS.slice ac) false (dT T [xS m z n.Base.Revision A B b d,om b p r,om d q o]) W0 q n.Seen) (hLv:dx (dT T [xS m z n.Base.Revision A B b d,om b p r,om d q o]) W0) (y:ar) (hM:gX vrec n C=some y):bc aQ (MD [xS m z n.Base.Revision A B b d,om b p r,om d q o]) 98 [pt m 0,.agg (aX C).toArray] W0 (fun v w'=>∃ (d3:Value) (d4:Value) (d5:Value) (Z:Array MapEntry) (av:Nat) (a0:Array MapEntry) (b0:Nat),v = .tuple #[]∧nO W0 w' [xS m z n.Base.Revision A B b d,om b p r,om d q o] [xS m d3 y.Base.Revision d4 d5 b d,om b Z av,om d a0 b0]∧aD aw (dT T [xS m d3 y.Base.Revision d4 d5 b d,om b Z av,om d a0 b0]) w' d3 y.Rules∧aD ad (dT T [xS m d3 y.Base.Revision d4 d5 b d,om b Z av,om d a0 b0]) w' d4 y.Base.Inputs∧aD aa (dT T [xS m d3 y.Base.Revision d4 d5 b d,om b Z av,om d a0 b0]) w' d5 y.Base.Records∧bK ac true aS.str false (dT T [xS m d3 y.Base.Revision d4 d5 b d,om b Z av,om d a0 b0]) w' Z y.Memo∧bK ac true (aS.slice ac) false (dT T [xS m d3 y.Base.Revision d4 d5 b d,om b Z av,om d a0 b0]) w' a0 y.Seen):=by
 refine gg (c:=_) Tryz.func98 rfl T 135 Tryz.ntmps98 hT rfl hD fun a hS=>?_;replace hS:=(((((hS.fact bu hLv).fS vg).fS vs).fS w0).fM v6).fM v7;unfold gX at hM;refine al hS fun a hS=>?_;refine kb hS fun m4 yv a w hk hS=>?_;refine al hS fun a hS=>?_;refine aJ (J:=fun a w=>∃ (fs:LB) (e:Nat) (ed:AM) (g5:Nat),St W0 (MD [xS m z n.Base.Revision A B b d,om b p r,om d q o]) T 135 [(0,pt m 0),(3,pt m4 0),(4,.map (some e))] [om e ed g5,om b p r,om d q o,xS m z n.Base.Revision A B b d,.box m4 (aX C) 31] [oD ed fs,zU ed g5,aK aw z n.Rules,aK ad A n.Base.Inputs,aK aa B n.Base.Records,oD p n.Memo,rK q n.Seen,bu] a w∧gj vrec n C fs=some y) ?_ ?_
 ·skip;refine dr [(4,.any)] hS fun w hQ hS=>?_;refine gE [1,2] hS fun a hS=>?_;obtain⟨f6,m3,hM⟩:=bd hM;refine di (i:=0) (j:=3) rfl rfl (by kernel_rfl) rfl rfl ?_ ?_
  ·skip;skip;refine id (CK ac true aS.str false hS rfl fun w1 yy a w hk hS=>⟨eS (hk),?_⟩);refine ec 3 hS Gi (sc _ _ hS.dlt C _ m3) fun _ w hR a hk hA=>?_;obtain rfl:=hR;have hS:=bS hA;refine e1 4 (yP hS sG ei 0 rfl 1 rfl 0 rfl (c:=(aX C)) (cv:=[a8 f6]) (key:=C) (val:=f6) rfl rfl rfl rfl rfl fun q0 pz w hk hS=>⟨jl rfl hk uR,?_⟩);refine gE [5,6] hS fun a hS=>?_;refine eD ?_;exact⟨_,_,_,_,hS.mt [0,3,4,2,1] [1,0,8,7,6,5,4,9],hM⟩
  skip;refine id (be hS Gi rfl rfl (sc _ _ hS.dlt C _ m3) fun _ w hR a hk hA=>⟨eS (hk),?_⟩);obtain rfl:=hR;have hS:=bS hA;refine e1 0 (CK ac true aS.str false hS rfl fun w2 z0 a w hk hS=>⟨eS (hk),?_⟩);refine e1 4 (yP hS sG ei 0 rfl 1 rfl 0 rfl (c:=(aX C)) (cv:=[a8 f6]) (key:=C) (val:=f6) rfl rfl rfl rfl rfl fun q0 pz w hk hS=>⟨jl rfl hk uR,?_⟩);refine gE [5,6] hS fun a hS=>?_;refine eD ?_;exact⟨_,_,_,_,hS.mt [0,3,4,2,1] [1,0,8,7,6,5,4,9],hM⟩
 rintro a w ⟨fs,e,ed,g5,hS,hM⟩;unfold gj at hM;refine al hS fun a hS=>?_;refine wl rfl (bf (ps:=[(0,.tmp 21)]) hS gf gl (zl:=[aj 0,a8 cr]) (by kernel_rfl) rfl (us:=[(aX C)]) ⟨rfl,trivial⟩ (ws:=(aX C)) rfl rfl rfl rfl fun w3 a w hk hS=>?_);refine al hS fun a hS=>?_;refine aJ (J:=fun a w=>∃ (bs:LB) (b2:LK) (b4:LU) (b6:Int) (b9:LI) (bb:LR) (hv:LB) (bi:LL) (X:AM) (c0:Nat) (d6:Value) (c1:LV) (ha:AM) (md:Nat) (H:AM) (c2:Nat) (P:Value) (Q:Value) (S:Value),St W0 (MD [xS m z n.Base.Revision A B b d,om b p r,om d q o]) T 135 [(0,pt m 0),(4,.map (some e)),(5,d6)] [om e X c0,ay d6 c1,om b ha md,om d H c2,xS m P b6 Q S b d] [oD X bs,zU X c0,ao ac c1 b2,aK aw P b4,aK ad Q b9,aK aa S bb,oD ha hv,rK H bi,bu] a w∧eW bs b2 b4 b6 b9 bb hv bi=some y) ?_ ?_
 ·skip;refine al hS fun a hS=>?_;replace hS:=hS.lit (R:=ac) (us:=(aX C)) (xs:=[C]) 0 rfl (by decide) (aB.one_ (R:=ac) (x:=C) rfl) rfl rfl;obtain⟨r1,oi,hMo1⟩:=bd hM;refine bB _ (fun s a w=>∃ (bt:LB) (ck:LK) (e5:Bool) (cl:LU) (co:Int) (cs:LI) (d0:LR) (d1:LB) (d2:LL) (ek:AM) (g6:Nat) (k1:Value) (g7:LV) (hb:AM) (ms:Nat) (hc:AM) (mv:Nat) (k2:Value) (k3:Value) (k4:Value),(bt,ck,e5,cl,co,cs,d0,d1,d2)=s∧St W0 (MD [xS m z n.Base.Revision A B b d,om b p r,om d q o]) T 135 [(0,pt m 0),(4,.map (some e)),(5,k1),(6,.bool e5)] [om e ek g6,ay k1 g7,om b hb ms,om d hc mv,xS m k2 co k3 k4 b d] [oD ek bt,zU ek g6,ao ac g7 ck,aK aw k2 cl,aK ad k3 cs,aK aa k4 d0,oD hb d1,rK hc d2,bu] a w) oi ⟨_,_,_,_,_,_,_,_,_,_,_,_,_,_,_,_,_,_,_,_,rfl,hS.mt [1,0,2,3,4] [1,2,0,3,4,5,6,7,8]⟩ ?_;rintro s a w f1 ⟨bt,ck,e5,cl,co,cs,d0,d1,d2,ek,g6,k1,g7,hb,ms,hc,mv,k2,k3,k4,rfl,hS⟩ hM hf1;have hM:eG vrec bt ck e5 cl co cs d0 d1 d2=some f1:=hM;unfold eG at hM;refine aA ?_;refine al hS fun a hS=>?_;rcases cd hM with⟨q2,hM⟩|⟨q2,hM⟩
  ·refine IR hS fun a hS=>?_;refine zx (J:=fun a w=>∃ (f7:LB) (ho:LK) (g0:Bool) (hw:LU) (hx:Int) (hy:LI) (hz:LR) (hB:LB) (hC:LL) (el:AM) (g8:Nat) (k5:Value) (gb:LV) (hd:AM) (n0:Nat) (hf:AM) (n1:Nat) (k6:Value) (kl:Value) (ks:Value),St W0 (MD [xS m z n.Base.Revision A B b d,om b p r,om d q o]) T 135 [(0,pt m 0),(4,.map (some e)),(5,k5),(6,.bool g0)] [om e el g8,ay k5 gb,om b hd n0,om d hf n1,xS m k6 hx kl ks b d] [oD el f7,zU el g8,ao ac gb ho,aK aw k6 hw,aK ad kl hy,aK aa ks hz,oD hd hB,rK hf hC,bu] a w∧ia f7 ho g0 hw hx hy hz hB hC=some f1) ?_ ?_
   ·skip;refine al hS fun a hS=>?_;obtain⟨r2,v9,hMo2⟩:=bd hM;refine bB _ (fun s a w=>∃ (U:LB) (a1:LK) (V:Bool) (t:Int) (G:LU) (a2:Int) (a3:LI) (a4:LR) (a5:LB) (a9:LL) (Y:AM) (c3:Nat) (dl:Value) (c4:LV) (c6:AM) (gi:Nat) (c9:AM) (gp:Nat) (dn:Value) (ds:Value) (e0:Value),(U,a1,V,t,G,a2,a3,a4,a5,a9)=s∧St W0 (MD [xS m z n.Base.Revision A B b d,om b p r,om d q o]) T 135 [(0,pt m 0),(4,.map (some e)),(5,dl),(6,.bool V),(7,aj t)] [om e Y c3,ay dl c4,om b c6 gi,om d c9 gp,xS m dn a2 ds e0 b d] [oD Y U,zU Y c3,ao ac c4 a1,aK aw dn G,aK ad ds a3,aK aa e0 a4,oD c6 a5,rK c9 a9,bu] a w) v9 ⟨_,_,_,_,_,_,_,_,_,_,_,_,_,_,_,_,_,_,_,_,_,rfl,hS.mt [0,1,2,3,4] [0,1,2,3,4,5,6,7,8]⟩ ?_;rintro s a w f2 ⟨U,a1,V,t,G,a2,a3,a4,a5,a9,Y,c3,dl,c4,c6,gi,c9,gp,dn,ds,e0,rfl,hS⟩ hM hf2;have hM:eF vrec U a1 V t G a2 a3 a4 a5 a9=some f2:=hM;unfold eF at hM;refine aA ?_;refine al hS fun a hS=>?_;rcases cd hM with⟨q3,hM⟩|⟨q3,hM⟩
    ·refine al hS fun a hS=>?_;refine aJ (J:=fun a w=>∃ (fd:LB) (hp:LK) (g1:Bool) (hE:LU) (hF:Int) (hG:LI) (hI:LR) (hK:LB) (hN:LL) (em:AM) (gs:Nat) (kt:Value) (gu:LV) (hg:AM) (n2:Nat) (hh:AM) (na:Nat) (l0:Value) (l1:Value) (l2:Value),St W0 (MD [xS m z n.Base.Revision A B b d,om b p r,om d q o]) T 135 [(0,pt m 0),(4,.map (some e)),(5,kt),(6,.bool g1),(7,aj t)] [om e em gs,ay kt gu,om b hg n2,om d hh na,xS m l0 hF l1 l2 b d] [oD em fd,zU em gs,ao ac gu hp,aK aw l0 hE,aK ad l1 hG,aK aa l2 hI,oD hg hK,rK hh hN,bu] a w∧dD t fd hp g1 hE hF hG hI hK hN=some f2) ?_ ?_
     ·skip;refine al hS fun a hS=>?_;refine aJ (J:=fun a w=>∃ (it:Bool) (ja:ByteArray) (jb:Int) (js:ByteArray) (u:Nat),St W0 (MD [xS m z n.Base.Revision A B b d,om b p r,om d q o]) T 135 [(0,pt m 0),(4,.map (some e)),(5,dl),(6,.bool V),(7,aj t),(8,.slice none 0 0),(9,pt u 0)] [om e Y c3,ay dl c4,om b c6 gi,om d c9 gp,xS m dn a2 ds e0 b d,.box u [.bool it,a8 ja,aj jb,a8 js] 140] [oD Y U,zU Y c3,ao ac c4 a1,aK aw dn G,aK ad ds a3,aK aa e0 a4,oD c6 a5,rK c9 a9,bu] a w∧gh vrec U a1 V t G a2 a3 a4 a5 a9 it ja jb js=some f2) ?_ ?_
      ·skip;obtain⟨N279,ok⟩:∃ N,N=w.heap.size:=⟨_,rfl⟩;replace hS:=hS.fact (Ds N279) (qh ok);refine dr [(11,.new N279)] hS fun w hQ hS=>?_;refine gE [0,1,2,3,4,5] hS fun a hS=>?_;obtain⟨eb,p2,hM⟩:=bd hM;obtain⟨pf,u1,z3,wp,q4,q5,q6,q7⟩:=bP (R:=ac) hS mM e7 1 rfl 3 rfl p2;obtain rfl:=q4;refine dy 6 (v:=pt pf u1) rfl (by kernel_rfl) (by kernel_rfl) (by kernel_rfl) rfl hQ hS (q7 rfl rfl) rfl rfl rfl fun a hS=>?_;refine dy (l:=[]) 7 (v:=.agg (aX eb).toArray) rfl (by kernel_rfl) (by kernel_rfl) (by kernel_rfl) (by kernel_rfl) hQ hS (bp (k:=0) hS e7 1 rfl q5 q6 rfl br (us:=(aX eb)) rfl rfl (fun h=>by cases h)) rfl rfl rfl fun a hS=>?_;refine gE [8] hS fun a hS=>?_;replace hS:=hS.fact (aK aS.str (.slice none 0 0) []) (aD.nil_ _ _ _);obtain⟨D0,m2,hM⟩:=bd hM;refine di (i:=9) (j:=10) rfl rfl (by kernel_rfl) rfl rfl ?_ ?_
       ·skip;skip;refine id (be hS Bf rfl rfl (gk _ _ hS.dlt (hS.get 10 rfl) G eb ([]) _ _ (hS.get 5 rfl) (hS.get 0 rfl) _ m2) fun _ w hR a hk hA=>⟨eS (hk),?_⟩);obtain rfl:=hR;have hS:=bS hA;have r0:=(hS.get 1 rfl:N279≤w.heap.size);refine e1 10 (cm hS ox rfl fun pk r4 a w hk hS=>⟨eS (hk),?_⟩);refine cw 11 (.blk (some pk)) _ (by kernel_rfl) (k8 (cx r0 r4)) ?_;refine es 11 hS fun w hS=>?_;refine eD ?_;exact⟨_,_,_,_,_,hS.mt [1,2,3,4,5,0] [2,3,4,5,6,7,8,9,10],hM⟩
       skip;have ra:=(hS.get 1 rfl:N279≤w.heap.size);refine id (cm hS ox rfl fun pl rd a w hk hS=>⟨eS (hk),?_⟩);refine cw 11 (.blk (some pl)) _ (by kernel_rfl) (k8 (cx ra rd)) ?_;refine ec 9 hS Bf (gk _ _ hS.dlt (hS.get 10 rfl) G eb ([]) _ _ (hS.get 5 rfl) (hS.get 0 rfl) _ m2) fun _ w hR a hk hA=>?_;obtain rfl:=hR;have hS:=bS hA;refine es 11 hS fun w hS=>?_;refine eD ?_;exact⟨_,_,_,_,_,hS.mt [1,2,3,4,5,0] [2,3,4,5,6,7,8,9,10],hM⟩
      rintro a w ⟨it,ja,jb,js,u,hS,hM⟩;unfold gh at hM;refine aJ (J:=fun a w=>∃ (fl:LB) (hq:LK) (g2:Bool) (hP:LU) (hV:Int) (hW:LI) (hX:LR) (hY:LB) (i0:LL) (ib:Bool) (bl:ByteArray) (ih:Int) (ii:ByteArray) (ep:AM) (gx:Nat) (l3:Value) (gy:LV) (hi:AM) (nb:Nat) (hj:AM) (nd:Nat) (la:Value) (le:Value) (ll:Value),St W0 (MD [xS m z n.Base.Revision A B b d,om b p r,om d q o]) T 135 [(0,pt m 0),(4,.map (some e)),(5,l3),(6,.bool g2),(7,aj t),(9,pt u 0)] [om e ep gx,ay l3 gy,om b hi nb,om d hj nd,xS m la hV le ll b d,.box u [.bool ib,a8 bl,aj ih,a8 ii] 140] [oD ep fl,zU ep gx,ao ac gy hq,aK aw la hP,aK ad le hW,aK aa ll hX,oD hi hY,rK hj i0,bu] a w∧eX t fl hq g2 hP hV hW hX hY i0 ib bl ih ii=some f2) ?_ ?_
      ·skip;refine al hS fun a hS=>?_;replace hS:=hS.nilRow aS.str 9 (by decide);obtain⟨r3,va,ty⟩:=bd hM;refine bB _ (fun s a w=>∃ (an:LB) (b3:LK) (bF:Bool) (D:LY) (I:LU) (K:Int) (L:LI) (M:LR) (F:LB) (O:LL) (af:Bool) (ag:ByteArray) (f:Int) (g:ByteArray) (eq:AM) (h0:Nat) (ls:Value) (h1:LV) (ak:Value) (W:LV) (ca:AM) (h2:Nat) (ch:AM) (h3:Nat) (e2:Value) (e3:Value) (e4:Value),(an,b3,bF,D,I,K,L,M,F,O,af,ag,f,g)=s∧St W0 (MD [xS m z n.Base.Revision A B b d,om b p r,om d q o]) T 135 [(0,pt m 0),(4,.map (some e)),(5,ls),(6,.bool bF),(7,aj t),(8,ak),(9,pt u 0)] [om e eq h0,ay ls h1,.own ak 9 aS.str.size W,om b ca h2,om d ch h3,xS m e2 K e3 e4 b d,.box u [.bool af,a8 ag,aj f,a8 g] 140] [oD eq an,zU eq h0,ao ac h1 b3,ao aS.str W D,aK aw e2 I,aK ad e3 L,aK aa e4 M,oD ca F,rK ch O,bu] a w) va ⟨_,_,_,_,_,_,_,_,_,_,_,_,_,_,_,_,_,_,_,_,_,_,_,_,_,_,_,rfl,hS.mt [1,2,0,3,4,5,6] [1,2,3,0,4,5,6,7,8,9]⟩ ?_;rintro s a w f3 ⟨an,b3,bF,D,I,K,L,M,F,O,af,ag,f,g,eq,h0,ls,h1,ak,W,ca,h2,ch,h3,e2,e3,e4,rfl,hS⟩ hM v8;have hM:dF vrec t an b3 bF D I K L M F O af ag f g=some f3:=hM;unfold dF at hM;refine aA ?_;refine al hS fun a hS=>?_;rcases cd hM with⟨rg,hM⟩|⟨rg,hM⟩
       ·refine al hS fun a hS=>?_;refine aA ?_;refine dr [] hS fun w hQ hS=>?_;refine gE [0,1,2,3,4,5] hS fun a hS=>?_;obtain⟨v1,p7,hM⟩:=bd hM;obtain⟨x0,rl,rm⟩:=lR hS sG ei 3 rfl 7 rfl (c:=[aj f,a8 g]) (key:=(ah.mk f g)) rfl J8 (zc:=[a8 cr]) rfl rfl p7;obtain rfl:=rl;refine dy (l:=[]) 6 (v:=.tuple #[a8 v1,.bool ((cV aP (ah.mk f g) F).isSome)]) rfl (by kernel_rfl) (by kernel_rfl) (by kernel_rfl) (by kernel_rfl) hQ hS (rm rfl rfl br) rfl rfl rfl fun a hS=>?_;refine gE [7,8,9,10,11] hS fun a hS=>?_;refine eD ?_;refine al hS fun a hS=>?_;refine aJ (J:=fun a w=>∃ (fn:LB) (hs:LK) (g3:Bool) (E:ByteArray) (f4:LU) (i2:Int) (i3:LI) (i4:LR) (i5:LB) (i9:LL) (er:AM) (h4:Nat) (lt:Value) (h5:LV) (hl:AM) (ng:Nat) (hm:AM) (nl:Nat) (lv:Value) (lz:Value) (m0:Value),St W0 (MD [xS m z n.Base.Revision A B b d,om b p r,om d q o]) T 135 [(0,pt m 0),(4,.map (some e)),(5,lt),(6,.bool g3),(7,aj t),(8,ak),(9,pt u 0),(10,a8 E)] [om e er h4,ay lt h5,.own ak 9 aS.str.size W,om b hl ng,om d hm nl,xS m lv i2 lz m0 b d,.box u [.bool af,a8 ag,aj f,a8 g] 140] [oD er fn,zU er h4,ao ac h5 hs,ao aS.str W D,aK aw lv f4,aK ad lz i3,aK aa m0 i4,oD hl i5,rK hm i9,bu] a w∧cH t D fn hs g3 E f4 i2 i3 i4 i5 i9=some f3) ?_ ?_
        ·skip;refine al hS fun a hS=>?_;rcases cd hM with⟨rs,hM⟩|⟨rs,hM⟩
         ·exact fz
         refine al hS fun a hS=>?_;obtain⟨BR,pa,hM⟩:=bd hM;refine kc hS wN (cO _ _ hS.dlt (ah.mk f g) _ pa) fun _ w hR a hk hA=>?_;obtain rfl:=hR;have hS:=bS hA;refine al hS fun a hS=>?_;rcases cd hM with⟨rt,hM⟩|⟨rt,hM⟩
         ·refine al hS fun a hS=>?_;obtain⟨CV,pb,hM⟩:=bd hM;replace hS:=hS.re [5,3,4] [0,1,2,6];refine wl rfl (bC hS Ig rfl rfl (hvrec _ _ hS.dltD (ar.mk I (am.mk K L M) F O) (ah.mk f g) _ _ _ _ _ _ _ _ _ _ hS.dok (hS.getD 4 rfl) (hS.getD 5 rfl) (hS.getD 6 rfl) (hS.getD 7 rfl) (hS.getD 8 rfl) (hS.getD 9 rfl) _ pb) fun _ w hR a hk hA=>?_);obtain⟨D1,DO,DP,y2,x1,y3,x2,he,s0,o2,o3,of,nX,o1⟩:=hR;obtain rfl:=he.symm;have hS:=hA _ s0;replace hS:=((((hS.fS (o2.sub (au _))).fS (o3.sub (au _))).fS (of.sub (au _))).fM (nX.keep (ai _ _) (au _))).fM (o1.keep (ai _ _) (au _));exact fz
         refine al hS fun a hS=>?_;refine aJ (J:=fun a w=>∃ (fr:LB) (ht:LK) (g4:Bool) (et:AM) (h6:Nat) (m1:Value) (h7:LV),St W0 (MD [xS m z n.Base.Revision A B b d,om b p r,om d q o]) T 135 [(0,pt m 0),(4,.map (some e)),(5,m1),(6,.bool g4),(7,aj t),(8,ak),(9,pt u 0)] [om e et h6,ay m1 h7,.own ak 9 aS.str.size W,om b ca h2,om d ch h3,xS m e2 K e3 e4 b d,.box u [.bool af,a8 ag,aj f,a8 g] 140] [oD et fr,zU et h6,ao ac h7 ht,ao aS.str W D,aK aw e2 I,aK ad e3 L,aK aa e4 M,oD ca F,rK ch O,bu] a w∧dE t D I K L M F O f g fr ht g4=some f3) ?_ ?_
         ·skip;refine al hS fun a hS=>?_;obtain⟨v5,pc,hM⟩:=bd hM;obtain⟨x3,s1,s2⟩:=lR hS sG ei 0 rfl 0 rfl (c:=[aj f,a8 g]) (key:=(ah.mk f g)) rfl J8 (zc:=[a8 cr]) rfl rfl pc;obtain rfl:=s1;refine wl rfl (ky (v:=.tuple #[a8 v5,.bool ((cV aP (ah.mk f g) an).isSome)]) hS (s2 rfl rfl id) rfl rfl fun a hS=>?_);refine al hS fun a hS=>?_;rcases cd hM with⟨s3,hM⟩|⟨s3,hM⟩
          ·refine al hS fun a hS=>?_;refine aA ?_;refine dr [(6,.blk (some e))] hS fun w hQ hS=>?_;refine gE [0,1,2,3,4] hS fun a hS=>?_;obtain⟨oj,pe,hM⟩:=bd hM;refine ec 5 hS Gi (sc _ _ hS.dlt (ah.mk f g) _ pe) fun _ w hR a hk hA=>?_;obtain rfl:=hR;have hS:=bS hA;refine e1 6 (EB hS sG ei 0 rfl 0 rfl 1 rfl (c:=[aj f,a8 g]) (cv:=[a8 oj]) (key:=(ah.mk f g)) (val:=oj) rfl rfl rfl rfl rfl fun y4 x4 w hk hS=>⟨jl rfl hk jn,?_⟩);refine eD ?_;refine al hS fun a hS=>?_;refine wl rfl (bf (ps:=[(0,.tmp 70)]) hS gf gl (zl:=[aj 0,a8 cr]) (by kernel_rfl) rfl (us:=[[aj f,a8 g]]) ⟨rfl,trivial⟩ (ws:=[aj f,a8 g]) rfl rfl rfl rfl fun w5 a w hk hS=>?_);replace hS:=(hS.lit (R:=ac) (us:=[aj f,a8 g]) (xs:=[(ah.mk f g)]) 0 rfl (by decide) (aB.one_ (R:=ac) (x:=(ah.mk f g)) rfl) rfl rfl).freeze (R:=ac) 0 rfl 0 rfl;obtain⟨s4,hM⟩:=bo hM;refine wl rfl (bM (R:=ac) (xs:=b3) (ys:=[(ah.mk f g)]) hS gf (by decide) (by decide) rfl rfl 1 rfl 6 rfl 0 rfl s4 rfl fun DR x5 a w hk hS=>?_);exact fz
          exact fz
         rintro a w ⟨fr,ht,g4,et,h6,m1,h7,hS,hM⟩;unfold dE at hM;refine al hS fun a hS=>?_;obtain⟨v0,p6,hM⟩:=bd hM;obtain⟨x6,sb,sk⟩:=lR hS sG ei 0 rfl 0 rfl (c:=[aj f,a8 g]) (key:=(ah.mk f g)) rfl J8 (zc:=[a8 cr]) rfl rfl p6;obtain rfl:=sb;refine wl rfl (ky (v:=a8 v0) hS (sk rfl rfl id) rfl rfl fun a hS=>?_);exact fz
        rintro a w ⟨fn,hs,g3,E,f4,i2,i3,i4,i5,i9,er,h4,lt,h5,hl,ng,hm,nl,lv,lz,m0,hS,hM⟩;unfold cH at hM;refine al hS fun a hS=>?_;refine wl rfl (bf (ps:=[(0,.tmp 89)]) hS tG Nx (zl:=[a8 cr]) (by kernel_rfl) rfl (us:=[[a8 E]]) ⟨rfl,trivial⟩ (ws:=[a8 E]) rfl rfl rfl rfl fun wf a w hk hS=>?_);replace hS:=(hS.lit (R:=aS.str) (us:=[a8 E]) (xs:=[E]) 0 rfl (by decide) (aB.one_ (R:=aS.str) (x:=E) rfl) rfl rfl).freeze (R:=aS.str) 0 rfl 0 rfl;obtain⟨sn,hM⟩:=bo hM;refine wl rfl (bM (R:=aS.str) (xs:=D) (ys:=[E]) hS tG (by decide) (by decide) rfl rfl 2 rfl 5 rfl 0 rfl sn rfl fun F0 x7 a w hk hS=>?_);refine al hS fun a hS=>?_;refine dr [(10,.blk (some u))] hS fun w hQ hS=>?_;refine gE [0,1,2,3,4,5] hS fun a hS=>?_;obtain⟨h9,p1,hM⟩:=bd hM;obtain⟨pw,u2,z4,x8,sp,sq,st,sx⟩:=bP (R:=ac) hS mM e7 1 rfl 5 rfl p1;obtain rfl:=sp;refine dy 6 (v:=pt pw u2) rfl (by kernel_rfl) (by kernel_rfl) (by kernel_rfl) rfl hQ hS (sx rfl rfl) rfl rfl rfl fun a hS=>?_;refine dy (l:=[]) 7 (v:=.agg (aX h9).toArray) rfl (by kernel_rfl) (by kernel_rfl) (by kernel_rfl) (by kernel_rfl) hQ hS (bp (k:=0) hS e7 1 rfl sq st rfl br (us:=(aX h9)) rfl rfl (fun h=>by cases h)) rfl rfl rfl fun a hS=>?_;refine gE [8] hS fun a hS=>?_;have hL:=hS;replace hL:=hL.freeze (R:=aS.str) 2 rfl 0 rfl;obtain⟨B2,p5,hM⟩:=bd hM;refine ec 9 hS Bf (gk _ _ hL.dlt (hL.get 13 rfl) f4 h9 (D++([E])) _ _ (hL.get 8 rfl) (hL.get 0 rfl) _ p5) fun _ w hR a hk hA=>?_;obtain rfl:=hR;have hS:=bS hA;refine es 10 hS fun w hS=>?_;refine eD ?_;exact⟨_,(cR hM).symm,_,_,_,_,_,_,_,_,_,_,_,_,_,_,_,_,_,_,_,_,_,_,_,_,_,_,_,rfl,hS.mt [0,1,2,3,4,5,6] [3,4,5,0,7,8,9,10,11,12]⟩
       refine al hS fun a hS=>?_;cases hM
       have hr:=v8 _ rfl;subst hr;have hM:eX t an b3 bF I K L M F O af ag f g=some f2:=ty;exact⟨_,_,_,_,_,_,_,_,_,_,_,_,_,_,_,_,_,_,_,_,_,_,_,_,hS.mt [0,1,3,4,5,6] [0,1,2,4,5,6,7,8,9],hM⟩
      rintro a w ⟨fl,hq,g2,hP,hV,hW,hX,hY,i0,ib,bl,ih,ii,ep,gx,l3,gy,hi,nb,hj,nd,la,le,ll,hS,hM⟩;unfold eX at hM;refine aA ?_;refine dr [] hS fun w hQ hS=>?_;refine gE [0,1,2] hS fun a hS=>?_;obtain⟨e6,os,hM⟩:=bd hM;obtain⟨px,u8,z5,x9,sy,sz,t0,t1⟩:=bP (R:=ac) hS mM e7 1 rfl 2 rfl os;obtain rfl:=sy;refine dy 3 (v:=pt px u8) rfl (by kernel_rfl) (by kernel_rfl) (by kernel_rfl) rfl hQ hS (t1 rfl rfl) rfl rfl rfl fun a hS=>?_;refine dy (l:=[]) 4 (v:=.agg (aX e6).toArray) rfl (by kernel_rfl) (by kernel_rfl) (by kernel_rfl) (by kernel_rfl) hQ hS (bp (k:=0) hS e7 1 rfl sz t0 rfl br (us:=(aX e6)) rfl rfl (fun h=>by cases h)) rfl rfl rfl fun a hS=>?_;obtain⟨uv,p4,hM⟩:=bd hM;obtain⟨xa,t2,t3⟩:=lR hS sG ei 0 rfl 0 rfl (c:=(aX e6)) (key:=e6) rfl J8 (zc:=[a8 cr]) rfl rfl p4;obtain rfl:=t2;refine dy (l:=[]) 5 (v:=a8 uv) rfl (by kernel_rfl) (by kernel_rfl) (by kernel_rfl) (by kernel_rfl) hQ hS (t3 rfl rfl br) rfl rfl rfl fun a hS=>?_;refine gE [6,7,8] hS fun a hS=>?_;refine eD ?_;refine al hS fun a hS=>?_;rcases cd hM with⟨t4,hM⟩|⟨t4,hM⟩
      ·refine al hS fun a hS=>?_;refine dr [(7,.blk (some e)),(9,.blk (some e))] hS fun w hQ hS=>?_;refine gE [0,1,2] hS fun a hS=>?_;obtain⟨ea,p0,hM⟩:=bd hM;obtain⟨py,up,z9,xb,t5,t6,t7,t9⟩:=bP (R:=ac) hS mM e7 1 rfl 2 rfl p0;obtain rfl:=t5;refine dy 3 (v:=pt py up) rfl (by kernel_rfl) (by kernel_rfl) (by kernel_rfl) rfl hQ hS (t9 rfl rfl) rfl rfl rfl fun a hS=>?_;refine dy (l:=[]) 4 (v:=.agg (aX ea).toArray) rfl (by kernel_rfl) (by kernel_rfl) (by kernel_rfl) (by kernel_rfl) hQ hS (bp (k:=0) hS e7 1 rfl t6 t7 rfl br (us:=(aX ea)) rfl rfl (fun h=>by cases h)) rfl rfl rfl fun a hS=>?_;refine gE [5] hS fun a hS=>?_;refine dy (l:=[.blk (some e)]) 6 (v:=a8 bl) rfl (by kernel_rfl) (by kernel_rfl) (by kernel_rfl) (by kernel_rfl) hQ hS (dQ hS rfl JZ 5 rfl (iZ hS 5 rfl rfl 0 rfl rfl (by decide) br) (us:=[a8 bl]) rfl rfl (fun _=>rfl)) rfl rfl rfl fun a hS=>?_;refine e1 7 (Fx hS rfl sG ei 0 rfl 0 rfl 1 rfl (c:=(aX ea)) (key:=ea) rfl J8 (zc:=[a8 cr]) rfl rfl rfl rfl fun F1 y5 xt zs a w hk hS=>⟨jl rfl hk jn,?_⟩);refine gE [8] hS fun a hS=>?_;refine e1 9 (Fy (val:=bl) hS 0 rfl 0 rfl rfl rfl rfl rfl fun ya w hk hS=>⟨jl rfl hk jn,?_⟩);refine gE [10] hS fun a hS=>?_;refine eD ?_;exact⟨_,_,_,_,_,_,_,_,_,_,_,_,_,_,_,_,_,_,_,_,hS.mt [0,1,2,3,4] [1,0,5,6,7,8,9,10,11],hM⟩
      exact fz
     rintro a w ⟨fd,hp,g1,hE,hF,hG,hI,hK,hN,em,gs,kt,gu,hg,n2,hh,na,l0,l1,l2,hS,hM⟩;unfold dD at hM;exact fz
    refine al hS fun a hS=>?_;cases hM
    have hr:=hf2 _ rfl;subst hr;have hM:ia U a1 V G a2 a3 a4 a5 a9=some f1:=hMo2;exact⟨_,_,_,_,_,_,_,_,_,_,_,_,_,_,_,_,_,_,_,_,hS.mt [0,1,2,3,4] [0,1,2,3,4,5,6,7,8],hM⟩
   rintro a w ⟨f7,ho,g0,hw,hx,hy,hz,hB,hC,el,g8,k5,gb,hd,n0,hf,n1,k6,kl,ks,hS,hM⟩;unfold ia at hM;exact⟨_,(cR hM).symm,_,_,_,_,_,_,_,_,_,_,_,_,_,_,_,_,_,_,_,_,rfl,hS.mt [0,1,2,3,4] [0,1,2,3,4,5,6,7,8]⟩
  refine al hS fun a hS=>?_;cases hM
  have hr:=hf1 _ rfl;subst hr;have hM:eW bt ck cl co cs d0 d1 d2=some y:=hMo1;exact⟨_,_,_,_,_,_,_,_,_,_,_,_,_,_,_,_,_,_,_,hS.mt [0,1,2,3,4] [0,1,2,3,4,5,6,7,8],hM⟩
 rintro a w ⟨bs,b2,b4,b6,b9,bb,hv,bi,X,c0,d6,c1,ha,md,H,c2,P,Q,S,hS,hM⟩;unfold eW at hM;refine i1 ?_;refine IR hS fun a hS=>?_;refine zx (J:=fun a w=>∃ (hu:LB) (ew:AM) (h8:Nat),St W0 (MD [xS m z n.Base.Revision A B b d,om b p r,om d q o]) T 135 [] [om b ew h8,om d H c2,xS m P b6 Q S b d] [aK aw P b4,aK ad Q b9,aK aa S bb,oD ew hu,rK H bi,bu] a w∧kX b4 b6 b9 bb bi hu=some y) ?_ ?_
 ·skip;refine al hS fun a hS=>?_;obtain⟨r1,oi,hMo1⟩:=bd hM;refine bB _ (fun s a w=>∃ (ex:Int) (ey:LB) (hn:AM) (nm:Nat),(ex,ey)=s∧St W0 (MD [xS m z n.Base.Revision A B b d,om b p r,om d q o]) T 135 [(0,pt m 0),(4,.map (some e)),(120,d6),(121,aj (b2.length:Int)),(122,aj ex)] [om e X c0,ay d6 c1,om b hn nm,om d H c2,xS m P b6 Q S b d] [oD X bs,zU X c0,ao ac c1 b2,aK aw P b4,aK ad Q b9,aK aa S bb,oD hn ey,rK H bi,bu] a w) oi ⟨_,_,_,_,rfl,hS.mt [0,1,2,3,4] [0,1,2,3,4,5,6,7,8]⟩ ?_;rintro s a w f1 ⟨ex,ey,hn,nm,rfl,hS⟩ hM hf1;have hM:ic bs b2 ex ey=some f1:=hM;unfold ic at hM;refine al hS fun a hS=>?_;refine aA ?_;rcases cd hM with⟨te,hM⟩|⟨te,hM⟩
  ·refine al hS fun a hS=>?_;refine aA ?_;refine al hS fun a hS=>?_;obtain⟨c5,op,hM⟩:=bd hM;refine wl rfl (cU (R:=ac) hS mM e7 rfl rfl 1 rfl 2 rfl op rfl fun wi z2 za xx th tk tm a hS=>?_);obtain rfl:=th;refine qy hS (bp (k:=0) hS e7 1 rfl tk tm rfl id (us:=(aX c5)) rfl rfl (fun h=>by cases h)) fun a hS=>?_;refine ka hS gl fun wk z1 a w hk hS=>?_;refine go hS fun a w hS=>?_;refine dr [(8,.blk (some b))] hS fun w hQ hS=>?_;refine gE [0,1,2,3,4,5,6] hS fun a hS=>?_;obtain⟨k0,p3,hM⟩:=bd hM;obtain⟨y0,ts,tt⟩:=lR hS sG ei 1 rfl 0 rfl (c:=(aX c5)) (key:=c5) rfl J8 (zc:=[a8 cr]) rfl rfl p3;obtain rfl:=ts;refine dy (l:=[]) 7 (v:=a8 k0) rfl (by kernel_rfl) (by kernel_rfl) (by kernel_rfl) (by kernel_rfl) hQ hS (tt rfl rfl br) rfl rfl rfl fun a hS=>?_;refine e1 8 (yQ hS sG ei 3 rfl 6 rfl (c:=(aX c5)) (cv:=[a8 k0]) (key:=c5) (val:=k0) rfl rfl rfl rfl rfl fun yb y1 w hk hS=>⟨jl rfl hk jn,?_⟩);refine eD ?_;exact fz
  exact fz
 rintro a w ⟨hu,ew,h8,hS,hM⟩;unfold kX at hM;refine Ab ?_;cases hM
 refine aH hS Tryz.results98 aF ?_;have hZ:=hS.sl [2,0,1] [0,1,2,3,4];exact⟨P,Q,S,ew,h8,H,c2,rfl,hZ.dnew,(hZ.get 0 rfl),(hZ.get 1 rfl),(hZ.get 2 rfl),(hZ.get 3 rfl),(hZ.get 4 rfl)⟩
def eV (vrec:ar→ah→Option (ByteArray×ar)) (n:ah) (c:LY) (d:LU) (e:Int) (f:LI) (g:LR) (h:LB) (i:LL) (k:Bool) (j:ByteArray) (l:Int) (m:ByteArray):Option (Fl (LY×LU×Int×LI×LR×LB×LL) (ByteArray×ar)):=cond k (some (.out (j,(ar.mk d (am.mk e f g) (d9 aP n j h) i)))) ((vrec (ar.mk d (am.mk e f g) h i) (ah.mk l m)).bind fun b=>gd (bT (c.length+([b.1]).length)) <| some (.go ((c++([b.1])),b.2.Rules,b.2.Base.Revision,b.2.Base.Inputs,b.2.Base.Records,b.2.Memo,b.2.Seen)))
def hU (vrec:ar→ah→Option (ByteArray×ar)) (e:ah) (c:LY) (d:LU) (f:Int) (g:LI) (h:LR) (i:LB) (j:LL):Option (Fl (LY×LU×Int×LI×LR×LB×LL) (ByteArray×ar)):=(dP d e c).bind fun b=>eV vrec e c d f g h i j b.Done b.Value b.Ask.Kind b.Ask.Text
def dO (vrec:ar→ah→Option (ByteArray×ar)) (b:ar) (c:ah):Option (ByteArray×ar):=(cC c).bind fun e=>cond e ((oP b.Base c).bind fun f=>some ((f,b))) ((some ((cV aP c b.Memo).getD cr)).bind fun g=>cond ((cV aP c b.Memo).isSome) (some ((g,b))) ((cB c).bind fun h=>cond h ((gX vrec b c).bind fun d=>(some ((cV aP c d.Memo).getD cr)).bind fun i=>some ((i,d))) ((loop (fun s:LY×LU×Int×LI×LR×LB×LL=>hU vrec c s.1 s.2.1 s.2.2.1 s.2.2.2.1 s.2.2.2.2.1 s.2.2.2.2.2.1 s.2.2.2.2.2.2) (([]:List ByteArray),b.Rules,b.Base.Revision,b.Base.Inputs,b.Base.Records,b.Memo,b.Seen)).bind fun y=>some (y))))
theorem tR (T:Nat→Prop) (W0:World) (hT:TW T W0) (vrec:ar→ah→Option (ByteArray×ar)) (hvrec:nu vrec) (e:ar) (f:ah) (h:Nat) (C:Value) (D:Value) (E:Value) (b:Nat) (k:Array MapEntry) (n:Nat) (d:Nat) (m:Array MapEntry) (g:Nat) (hD:vL T W0 [xS h C e.Base.Revision D E b d,om b k n,om d m g]) (eb:aD aw (dT T [xS h C e.Base.Revision D E b d,om b k n,om d m g]) W0 C e.Rules) (ed:aD ad (dT T [xS h C e.Base.Revision D E b d,om b k n,om d m g]) W0 D e.Base.Inputs) (ek:aD aa (dT T [xS h C e.Base.Revision D E b d,om b k n,om d m g]) W0 E e.Base.Records) (e5:bK ac true aS.str false (dT T [xS h C e.Base.Revision D E b d,om b k n,om d m g]) W0 k e.Memo) (e6:bK ac true (aS.slice ac) false (dT T [xS h C e.Base.Revision D E b d,om b k n,om d m g]) W0 m e.Seen) (hLv:dx (dT T [xS h C e.Base.Revision D E b d,om b k n,om d m g]) W0) (y:ByteArray×ar) (hM:dO vrec e f=some y):bc aQ (MD [xS h C e.Base.Revision D E b d,om b k n,om d m g]) 65 [pt h 0,.agg (aX f).toArray] W0 (fun v w'=>∃ (S:Value) (U:Value) (V:Value) (q:Array MapEntry) (F:Nat) (r:Array MapEntry) (G:Nat),v=a8 y.1∧nO W0 w' [xS h C e.Base.Revision D E b d,om b k n,om d m g] [xS h S y.2.Base.Revision U V b d,om b q F,om d r G]∧aD aw (dT T [xS h S y.2.Base.Revision U V b d,om b q F,om d r G]) w' S y.2.Rules∧aD ad (dT T [xS h S y.2.Base.Revision U V b d,om b q F,om d r G]) w' U y.2.Base.Inputs∧aD aa (dT T [xS h S y.2.Base.Revision U V b d,om b q F,om d r G]) w' V y.2.Base.Records∧bK ac true aS.str false (dT T [xS h S y.2.Base.Revision U V b d,om b q F,om d r G]) w' q y.2.Memo∧bK ac true (aS.slice ac) false (dT T [xS h S y.2.Base.Revision U V b d,om b q F,om d r G]) w' r y.2.Seen):=by
 refine gg (c:=_) Tryz.func65 rfl T 64 Tryz.ntmps65 hT rfl hD fun a hS=>?_;replace hS:=(((((hS.fact bu hLv).fS eb).fS ed).fS ek).fM e5).fM e6;unfold dO at hM;refine al hS fun a hS=>?_;refine kb hS fun X ey a w hk hS=>?_;refine al hS fun a hS=>?_;refine aA ?_;refine al hS fun a hS=>?_;obtain⟨f3,b9,hM⟩:=bd hM;refine kc hS yq (dH _ _ hS.dlt f _ b9) fun _ w hR a hk hA=>?_;obtain rfl:=hR;have hS:=bS hA;refine al hS fun a hS=>?_;rcases cd hM with⟨c9,hM⟩|⟨c9,hM⟩
 ·refine al hS fun a hS=>?_;refine aA ?_;refine dr [] hS fun w hQ hS=>?_;refine gE [0,1,2,3,4] hS fun a hS=>?_;obtain⟨f4,bb,hM⟩:=bd hM;refine ec 5 hS Kp (tP _ _ hS.dlt e.Base f _ _ (hS.get 3 rfl) (hS.get 2 rfl) _ bb) fun _ w hR a hk hA=>?_;obtain rfl:=hR;have hS:=bS hA;refine gE [6] hS fun a hS=>?_;refine eD ?_;refine al hS fun a hS=>?_;cases hM
  refine aH hS rfl (az hS rfl aF) ?_;have hZ:=hS.sl [1,2,3] [4,3,2,1,0];exact⟨C,D,E,k,n,m,g,rfl,hZ.dnew,(hZ.get 0 rfl),(hZ.get 1 rfl),(hZ.get 2 rfl),(hZ.get 3 rfl),(hZ.get 4 rfl)⟩
 refine al hS fun a hS=>?_;refine aA ?_;refine aA ?_;refine dr [] hS fun w hQ hS=>?_;refine gE [0,1,2,3,4] hS fun a hS=>?_;obtain⟨dn,bi,hM⟩:=bd hM;obtain⟨em,ca,ch⟩:=lR hS sG ei 2 rfl 1 rfl (c:=(aX f)) (key:=f) rfl J8 (zc:=[a8 cr]) rfl rfl bi;obtain rfl:=ca;refine dy (l:=[]) 5 (v:=.tuple #[a8 dn,.bool ((cV aP f e.Memo).isSome)]) rfl (by kernel_rfl) (by kernel_rfl) (by kernel_rfl) (by kernel_rfl) hQ hS (ch rfl rfl br) rfl rfl rfl fun a hS=>?_;refine gE [6,7,8,9,10] hS fun a hS=>?_;refine eD ?_;refine al hS fun a hS=>?_;rcases cd hM with⟨ck,hM⟩|⟨ck,hM⟩
 ·refine al hS fun a hS=>?_;cases hM
  refine aH hS rfl (az hS rfl aF) ?_;have hZ:=hS.sl [1,2,3] [4,3,2,1,0];exact⟨C,D,E,k,n,m,g,rfl,hZ.dnew,(hZ.get 0 rfl),(hZ.get 1 rfl),(hZ.get 2 rfl),(hZ.get 3 rfl),(hZ.get 4 rfl)⟩
 refine al hS fun a hS=>?_;refine aA ?_;refine al hS fun a hS=>?_;obtain⟨f6,bl,hM⟩:=bd hM;refine kc hS wN (cO _ _ hS.dlt f _ bl) fun _ w hR a hk hA=>?_;obtain rfl:=hR;have hS:=bS hA;refine al hS fun a hS=>?_;rcases cd hM with⟨cl,hM⟩|⟨cl,hM⟩
 ·refine al hS fun a hS=>?_;obtain⟨f7,bs,hM⟩:=bd hM;replace hS:=hS.re [1,2,3] [0];refine wl rfl (bC hS Oo rfl rfl (tS _ _ hS.dltD vrec hvrec e f _ _ _ _ _ _ _ _ _ _ hS.dok (hS.getD 4 rfl) (hS.getD 3 rfl) (hS.getD 2 rfl) (hS.getD 1 rfl) (hS.getD 0 rfl) (hS.getD 5 rfl) _ bs) fun _ w hR a hk hA=>?_);obtain⟨e0,e2,e3,c4,c1,c5,c2,he,co,ak,an,av,a5,a9⟩:=hR;obtain rfl:=he.symm;have hS:=hA _ co;replace hS:=((((hS.fS (ak.sub (au _))).fS (an.sub (au _))).fS (av.sub (au _))).fM (a5.keep (ai _ _) (au _))).fM (a9.keep (ai _ _) (au _));refine al hS fun a hS=>?_;refine aA ?_;refine dr [] hS fun w hQ hS=>?_;refine gE [0,1,2,3,4] hS fun a hS=>?_;obtain⟨ds,bt,hM⟩:=bd hM;obtain⟨ep,cs,d0⟩:=lR hS sG ei 1 rfl 1 rfl (c:=(aX f)) (key:=f) rfl J8 (zc:=[a8 cr]) rfl rfl bt;obtain rfl:=cs;refine dy (l:=[]) 5 (v:=a8 ds) rfl (by kernel_rfl) (by kernel_rfl) (by kernel_rfl) (by kernel_rfl) hQ hS (d0 rfl rfl br) rfl rfl rfl fun a hS=>?_;refine gE [6] hS fun a hS=>?_;refine eD ?_;refine al hS fun a hS=>?_;cases hM
  refine aH hS rfl (az hS rfl aF) ?_;have hZ:=hS.sl [0,1,2] [4,3,2,1,0];exact⟨e0,e2,e3,c4,c1,c5,c2,rfl,hZ.dnew,(hZ.get 0 rfl),(hZ.get 1 rfl),(hZ.get 2 rfl),(hZ.get 3 rfl),(hZ.get 4 rfl)⟩
 refine al hS fun a hS=>?_;replace hS:=hS.nilRow aS.str 9 (by decide);obtain⟨r1,ea,hMo1⟩:=bd hM;refine bB _ (fun s a w=>∃ (o:LY) (p:LU) (t:Int) (u:LI) (z:LR) (A:LB) (B:LL) (W:Value) (O:LV) (P:AM) (a2:Nat) (H:AM) (Y:Nat) (K:Value) (L:Value) (M:Value),(o,p,t,u,z,A,B)=s∧St W0 (MD [xS h C e.Base.Revision D E b d,om b k n,om d m g]) T 64 [(0,pt h 0),(3,pt X 0),(7,W)] [.own W 9 aS.str.size O,om b P a2,om d H Y,xS h K t L M b d,.box X (aX f) 31] [ao aS.str O o,aK aw K p,aK ad L u,aK aa M z,oD P A,rK H B,bu] a w) ea ⟨_,_,_,_,_,_,_,_,_,_,_,_,_,_,_,_,rfl,hS.mt [0,3,4,2,1] [0,5,4,3,2,1,6]⟩ ?_;rintro s a w f1 ⟨o,p,t,u,z,A,B,W,O,P,a2,H,Y,K,L,M,rfl,hS⟩ hM hf1;have hM:hU vrec f o p t u z A B=some f1:=hM;unfold hU at hM;refine al hS fun a hS=>?_;refine aJ (J:=fun a w=>∃ (a3:Bool) (Q:ByteArray) (Z:Int) (a0:ByteArray) (a1:Nat),St W0 (MD [xS h C e.Base.Revision D E b d,om b k n,om d m g]) T 64 [(0,pt h 0),(3,pt X 0),(7,W),(8,pt a1 0)] [.own W 9 aS.str.size O,om b P a2,om d H Y,xS h K t L M b d,.box X (aX f) 31,.box a1 [.bool a3,a8 Q,aj Z,a8 a0] 140] [ao aS.str O o,aK aw K p,aK ad L u,aK aa M z,oD P A,rK H B,bu] a w∧eV vrec f o p t u z A B a3 Q Z a0=some f1) ?_ ?_
 ·skip;obtain⟨N148,b4⟩:∃ N,N=w.heap.size:=⟨_,rfl⟩;replace hS:=hS.fact (Ds N148) (qh b4);refine dr [(8,.new N148)] hS fun w hQ hS=>?_;refine gE [0,1,2,3,4,5] hS fun a hS=>?_;have hL:=hS;replace hL:=hL.freeze (R:=aS.str) 0 rfl 1 rfl;obtain⟨f2,a4,hM⟩:=bd hM;refine di (i:=6) (j:=7) rfl rfl (by kernel_rfl) rfl rfl ?_ ?_
  ·skip;skip;have hL:=hS;replace hL:=hL.freeze (R:=aS.str) 0 rfl 1 rfl;refine id (be hS Bf rfl rfl (gk _ _ hL.dlt (hL.get 8 rfl) p f o _ _ (hL.get 3 rfl) (hL.get 0 rfl) _ a4) fun _ w hR a hk hA=>⟨eS (hk),?_⟩);obtain rfl:=hR;have hS:=bS hA;have d1:=(hS.get 0 rfl:N148≤w.heap.size);refine e1 7 (cm hS ox rfl fun bF d2 a w hk hS=>⟨eS (hk),?_⟩);refine cw 8 (.blk (some bF)) _ (by kernel_rfl) (k8 (cx d1 d2)) ?_;refine es 8 hS fun w hS=>?_;refine eD ?_;exact⟨_,_,_,_,_,hS.mt [1,2,3,4,5,0] [1,2,3,4,5,6,7],hM⟩
  skip;have d3:=(hS.get 0 rfl:N148≤w.heap.size);refine id (cm hS ox rfl fun c0 d4 a w hk hS=>⟨eS (hk),?_⟩);refine cw 8 (.blk (some c0)) _ (by kernel_rfl) (k8 (cx d3 d4)) ?_;have hL:=hS;replace hL:=hL.freeze (R:=aS.str) 1 rfl 1 rfl;refine ec 6 hS Bf (gk _ _ hL.dlt (hL.get 8 rfl) p f o _ _ (hL.get 3 rfl) (hL.get 0 rfl) _ a4) fun _ w hR a hk hA=>?_;obtain rfl:=hR;have hS:=bS hA;refine es 8 hS fun w hS=>?_;refine eD ?_;exact⟨_,_,_,_,_,hS.mt [1,2,3,4,5,0] [1,2,3,4,5,6,7],hM⟩
 rintro a w ⟨a3,Q,Z,a0,a1,hS,hM⟩;unfold eV at hM;refine aA ?_;refine al hS fun a hS=>?_;rcases cd hM with⟨d5,hM⟩|⟨d5,hM⟩
 ·refine al hS fun a hS=>?_;refine aA ?_;refine dr [(7,.blk (some b))] hS fun w hQ hS=>?_;refine gE [0,1,2,3,4,5,6] hS fun a hS=>?_;refine e1 7 (yQ hS sG ei 1 rfl 4 rfl (c:=(aX f)) (cv:=[a8 Q]) (key:=f) (val:=Q) rfl rfl rfl rfl rfl fun c6 c3 w hk hS=>⟨jl rfl hk jn,?_⟩);refine eD ?_;refine al hS fun a hS=>?_;cases hM
  have hr:=hf1 _ rfl;subst hr;have hM:=hMo1;cases hM
  refine aH hS rfl (az hS rfl aF) ?_;have hZ:=hS.sl [3,1,2] [2,3,4,0,6];exact⟨K,L,M,c6,c3,H,Y,rfl,hZ.dnew,(hZ.get 0 rfl),(hZ.get 1 rfl),(hZ.get 2 rfl),(hZ.get 3 rfl),(hZ.get 4 rfl)⟩
 refine al hS fun a hS=>?_;obtain⟨I,b6,hM⟩:=bd hM;replace hS:=hS.re [3,1,2] [0,4,5];refine wl rfl (bC hS Ig rfl rfl (hvrec _ _ hS.dltD (ar.mk p (am.mk t u z) A B) (ah.mk Z a0) _ _ _ _ _ _ _ _ _ _ hS.dok (hS.getD 1 rfl) (hS.getD 2 rfl) (hS.getD 3 rfl) (hS.getD 4 rfl) (hS.getD 5 rfl) (hS.getD 6 rfl) _ b6) fun _ w hR a hk hA=>?_);obtain⟨fd,fl,fn,ew,eq,ex,er,he,d6,b0,b2,b3,af,ag⟩:=hR;obtain rfl:=he.symm;have hS:=hA _ d6;replace hS:=((((hS.fS (b0.sub (au _))).fS (b2.sub (au _))).fS (b3.sub (au _))).fM (af.keep (ai _ _) (au _))).fM (ag.keep (ai _ _) (au _));refine wl rfl (bf (ps:=[(0,.tmp 61)]) hS tG Nx (zl:=[a8 cr]) (by kernel_rfl) rfl (us:=[[a8 I.1]]) ⟨rfl,trivial⟩ (ws:=[a8 I.1]) rfl rfl rfl rfl fun el a w hk hS=>?_);replace hS:=(hS.lit (R:=aS.str) (us:=[a8 I.1]) (xs:=[I.1]) 0 rfl (by decide) (aB.one_ (R:=aS.str) (x:=I.1) rfl) rfl rfl).freeze (R:=aS.str) 0 rfl 0 rfl;obtain⟨dl,hM⟩:=bo hM;refine wl rfl (bM (R:=aS.str) (xs:=o) (ys:=[I.1]) hS tG (by decide) (by decide) rfl rfl 3 rfl 7 rfl 0 rfl dl rfl fun fr et a w hk hS=>?_);exact fz
end
end
section
open Go.RowKit
open Go.Lib hiding intOf
def gL (s:ByteArray):Int:=if qU s.toList<0 then 0 else if 65535<qU s.toList then 0 else qU s.toList
theorem C8 (s:ByteArray):nz s=some (gL s):=by
 unfold nz gL;rw [Gp,aq];by_cases h1:qU s.toList<0
 ·simp [h1]
 ·by_cases h2:65535<qU s.toList
  ·simp [h1,h2]
  ·simp [h1,h2]
theorem iX (s:ByteArray):0≤gL s∧gL s≤65535:=by
 unfold gL;split
 ·omega
 ·split <;> omega
theorem wG {n:Nat} (h:n<65536):gL (cj n)=n:=by
 unfold gL;rw [q9,lf,yD (by omega),if_neg (by omega),if_neg (by omega)]
theorem uF:∀ {l:List Int},(∀ x∈l,0≤x∧x≤65535)→0≤l.sum∧l.sum≤65535*l.length
 | [],_=>by simp
 | a::l,h=>by
  have h1:=uF (l:=l) fun x hx=>h x (wJ _ hx);have h2:=h a rH;simp only [List.sum_cons,d8];omega
def tI (r:aR) (ls:List ByteArray):Int :=
 let s:=r.C+(ls.map gL).sum
 if r.Final=1 then s.tmod 1000 else if r.Final=2 then (s.tdiv 2).tmod 1000 else if r.Final=3 then (ls.map gL).foldl max r.C else if r.Final=4 then s.tmod 2 else (ls.map gL).foldl (fun a b=>Ac .or .i64 a b) r.C
theorem Jf {α:Type} {l:List α} {k:Nat} (h:k<l.length):l.take (k+1)=l.take k++[l[k]]:=by rw [List.take_add_one,bq h]; rfl
theorem GB {r:aR} {ls:List ByteArray} (hc:0≤r.C∧r.C≤65535) (hl:ls.length≤1000):pI r ls=some (tI r ls):=by
 have hb:∀ x∈ls.map gL,0≤x∧x≤65535:=fun x hx=>by
  obtain⟨s,_,rfl⟩:=io.1 hx;exact iX s
 have h1:loop (fun s:Int×Int×Int×Int=>jB ls s.1 s.2.1 s.2.2.1 s.2.2.2) (r.C,r.C,r.C,0)=some (r.C+(ls.map gL).sum,(ls.map gL).foldl max r.C,(ls.map gL).foldl (fun a b=>Ac .or .i64 a b) r.C):=by
  refine xZ (I:=fun k s=>s=(r.C+((ls.take k).map gL).sum,((ls.take k).map gL).foldl max r.C,((ls.take k).map gL).foldl (fun a b=>Ac .or .i64 a b) r.C,(k:Int))) _ ls.length ?_ ?_ (by simp)
  ·rintro k _ hk rfl;left;refine⟨_,?_,rfl⟩;unfold jB;have hs:=uF (l:=(ls.take k).map gL) fun x hx=>by
    obtain⟨s,_,rfl⟩:=io.1 hx;exact iX s
   have hlen:((ls.take k).map gL).length≤1000:=by rw [gc,dh]; omega
   have hx:=iX ls[k];dsimp only;rw [dlt hk,cond_true,bN hk,aq,C8,aq,gM (by omega) (by omega),gM (by omega) (by omega),Jf hk];simp only [sK,ow,ug,List.sum_append,List.foldl_append,E2,List.foldl_nil,List.sum_cons,List.sum_nil,Int.add_zero,Int.natCast_add,Int.natCast_one,Int.add_assoc]
  ·rintro _ rfl;unfold jB;rw [bA];simp
 have hs:=uF hb;rw [gc] at hs;unfold pI lu tI;rw [h1,aq];simp only [];by_cases f1:r.Final=1
 ·simp [f1]
 ·by_cases f2:r.Final=2
  ·have ht:0≤(r.C+(ls.map gL).sum).tdiv 2∧(r.C+(ls.map gL).sum).tdiv 2≤r.C+(ls.map gL).sum:=by
    rw [Int.tdiv_eq_ediv_of_nonneg (by omega)]; omega
   simp only [f2];rw [gM (by omega) (by omega)];simp
  ·by_cases f3:r.Final=3
   ·simp [f3]
   ·by_cases f4:r.Final=4
    ·simp [f4]
    ·have hb:∀ n:Int,r.Final≠n→(r.Final==n)=false:=fun n h=>by simpa using h
     rw [hb 1 f1,hb 2 f2,hb 3 f3,hb 4 f4];simp [f1,f2,f3,f4]
theorem M4 {a b:Nat} (ha:a<65536) (hb:b<65536):Ac .or .i64 (a:Int) (b:Int)=((a ||| b:Nat):Int)∧a ||| b<65536:=by
 have h:=Nat.or_lt_two_pow (n:=16) ha hb;refine⟨?_,h⟩;unfold Ac;simp only [show IntKind.i64.bits=64 from rfl];rw [BitVec.toNat_or,BitVec.toNat_ofInt,BitVec.toNat_ofInt,show ((a:Int) % ((2 ^ IntKind.i64.bits:Nat):Int)).toNat=a by rw [show IntKind.i64.bits=64 from rfl]; omega,show ((b:Int) % ((2 ^ IntKind.i64.bits:Nat):Int)).toNat=b by rw [show IntKind.i64.bits=64 from rfl]; omega];exact gM (by omega) (by omega)
theorem Bu:∀ (l:List Nat) (a:Nat),(∀ x∈l,x≤65535)→a<65536→(l.map fun x:Nat=>(x:Int)).foldl (fun a b=>Ac .or .i64 a b) (a:Int)=((l.foldl (· ||| ·) a:Nat):Int)∧l.foldl (· ||| ·) a<65536
 | [],a,_,ha=>⟨rfl,ha⟩
 | x::l,a,h,ha=>by
  have hx:=h x rH;obtain⟨h1,h2⟩:=M4 ha (show x<65536 by omega);simp only [ow,E2,h1];exact Bu l _ (fun y hy=>h y (wJ _ hy)) h2
theorem vi {l:List aR} {n:Nat} {r:aR} (hR:bI l) (h:l[n]? = some r) {ls:List ByteArray} (hl:ls.length≤3):∃ m:Nat,tI r ls=m∧m<65536:=by
 have hb:∀ x∈ls.map gL,0≤x∧x≤65535:=fun x hx=>by
  obtain⟨s,_,rfl⟩:=io.1 hx;exact iX s
 have hs:=uF hb;rw [gc] at hs;have hr:=hR.each n r h;unfold tI;dsimp only;cases hg:r.Ring with
 | false =>
  obtain⟨h1,h2,h3,h4⟩:=hr.plain hg;have key:∀ z:Int,0≤z→z<65536→∃ m:Nat,z=m∧m<65536:=fun z h1 h2=>⟨z.toNat,by omega,by omega⟩;by_cases f1:r.Final=1
  ·rw [if_pos f1];refine key _ (xh _ (by omega)) ?_;have:=xg (r.C+(ls.map gL).sum) (b:=1000) (by omega);omega
  ·rw [if_neg f1];by_cases f2:r.Final=2
   ·rw [if_pos f2];have ht:0≤(r.C+(ls.map gL).sum).tdiv 2:=by rw [Int.tdiv_eq_ediv_of_nonneg (by omega)]; omega
    refine key _ (xh _ ht) ?_;have:=xg ((r.C+(ls.map gL).sum).tdiv 2) (b:=1000) (by omega);omega
   ·rw [if_neg f2];by_cases f3:r.Final=3
    ·rw [if_pos f3];have hm:∀ (xs:List Int) (c:Int),(∀ x∈xs,0≤x∧x≤65535)→0≤c→c≤65535→0≤xs.foldl max c∧xs.foldl max c≤65535:=by
      intro xs
      induction xs with
      | nil=>intro c _ h1 h2; exact⟨h1,h2⟩
      | cons x xs ih =>
       intro c hx h1 h2;have:=hx x rH;exact ih _ (fun y hy=>hx y (wJ _ hy)) (by omega) (by omega)
     have:=hm (ls.map gL) r.C hb (by omega) (by omega);exact key _ this.1 (by omega)
    ·rw [if_neg f3,if_pos (by omega)];refine key _ (xh _ (by omega)) ?_;have:=xg (r.C+(ls.map gL).sum) (b:=2) (by omega);omega
 | true =>
  obtain⟨h1,h2,h3⟩:=hr.ring hg;rw [if_neg (by omega),if_neg (by omega),if_neg (by omega),if_neg (by omega)];obtain⟨c,hc⟩:∃ c:Nat,r.C=c:=⟨r.C.toNat,by omega⟩;have e:ls.map gL=(ls.map fun s=>(gL s).toNat).map fun x:Nat=>(x:Int):=by
   rw [List.map_map];refine List.map_congr_left fun s _=>?_;have:=iX s;simp only [Function.comp];omega
  rw [e,hc];have:=Bu (ls.map fun s=>(gL s).toNat) c (fun x hx=>by
   obtain⟨s,_,rfl⟩:=io.1 hx;have:=iX s;omega) (by omega)
  exact⟨_,this.1,this.2⟩
end
section
open Go.RowKit
open Go.Lib hiding intOf
theorem El:∀ a:List UInt8,compareBytes a a=0
 | []=>rfl
 | x::r=>by
  have:¬ x<x:=UInt8.lt_irrefl x;simp [compareBytes,this,El r]
theorem Jx:∀ {a b:List UInt8},compareBytes a b=0→a=b
 | [],[],_=>rfl
 | [],_::_,h=>by simp [compareBytes] at h
 | _::_,[],h=>by simp [compareBytes] at h
 | x::a,y::b,h=>by
  unfold compareBytes at h;split at h
  ·cases h
  ·split at h
   ·cases h
   ·rename_i h1 h2;have e:x=y:=UInt8.le_antisymm (Ba.1 h2) (Ba.1 h1);rw [e,Jx h]
theorem Ej:∀ a b:List UInt8,compareBytes b a = -compareBytes a b
 | [],[]=>rfl
 | [],_::_=>rfl
 | _::_,[]=>rfl
 | x::a,y::b=>by
  unfold compareBytes;by_cases h1:x<y
  ·have h2:¬ y<x:=fun h=>UInt8.lt_irrefl _ (UInt8.lt_trans h1 h);simp [h1,h2]
  ·by_cases h2:y<x
   ·simp [h1,h2]
   ·simp [h1,h2,Ej a b]
theorem Gb (a b:List UInt8):compareBytes a b = -1∨compareBytes a b=0∨compareBytes a b=1:=by
 induction a generalizing b with
 | nil=>cases b <;> simp [compareBytes]
 | cons x a ih =>
  cases b with
  | nil=>simp [compareBytes]
  | cons y b =>
   unfold compareBytes;split
   ·simp
   ·split
    ·simp
    ·exact ih b
theorem Cp:∀ {a b c:List UInt8},compareBytes a b<0→compareBytes b c<0→compareBytes a c<0
 | [],[],_,h,_=>by simp [compareBytes] at h
 | [],_::_,[],_,h=>by simp [compareBytes] at h
 | [],_::_,_::_,_,_=>by simp [compareBytes]
 | _::_,[],_,h,_=>by simp [compareBytes] at h
 | _::_,_::_,[],_,h=>by simp [compareBytes] at h
 | x::a,y::b,z::c,h1,h2=>by
  unfold compareBytes at h1 h2 ⊢;by_cases e1:x<y
  ·by_cases e2:y<z
   ·simp [UInt8.lt_trans e1 e2]
   ·by_cases e3:z<y
    ·simp [e2,e3] at h2
    ·have e:y=z:=UInt8.le_antisymm (Ba.1 e3) (Ba.1 e2);subst e; simp [e1]
  ·by_cases e2:y<x
   ·simp [e1,e2] at h1
   ·have e:x=y:=UInt8.le_antisymm (Ba.1 e2) (Ba.1 e1);subst e;simp only [e1,if_false] at h1;by_cases e3:x<z
    ·simp [e3]
    ·by_cases e4:z<x
     ·simp [e3,e4] at h2
     ·simp only [e3,e4,if_false] at h2 ⊢;exact Cp h1 h2
def cu (a b:ah):Int:=if a.Kind<b.Kind then -1 else if b.Kind<a.Kind then 1 else compareBytes a.Text.toList b.Text.toList
theorem toList_inj {a b:ByteArray} (h:a.toList=b.toList):a=b:=by
 rw [ByteArray.toList_eq,ByteArray.toList_eq] at h;exact ByteArray.ext (Do.1 h)
theorem sB (a:ah):cu a a=0:=by simp [cu,El]
theorem By {a b:ah} (h:cu a b=0):a=b:=by
 unfold cu at h;split at h
 ·cases h
 ·split at h
  ·cases h
  ·obtain⟨k,t⟩:=a;obtain⟨l,s⟩:=b;simp only [ah.mk.injEq] at *;exact⟨by omega,toList_inj (Jx h)⟩
theorem sA (a b:ah):cu b a = -cu a b:=by
 unfold cu;by_cases h1:a.Kind<b.Kind
 ·have h2:¬ b.Kind<a.Kind:=by omega
  simp [h1,h2]
 ·by_cases h2:b.Kind<a.Kind
  ·simp [h1,h2]
  ·simp [h1,h2,Ej a.Text.toList]
theorem rb (a b:ah):cu a b = -1∨cu a b=0∨cu a b=1:=by
 unfold cu;split
 ·simp
 ·split
  ·simp
  ·exact Gb _ _
theorem ni {a b c:ah} (h1:cu a b<0) (h2:cu b c<0):cu a c<0:=by
 unfold cu at h1 h2 ⊢;by_cases e1:a.Kind<b.Kind
 ·by_cases e2:b.Kind<c.Kind
  ·rw [if_pos (by omega)]; omega
  ·by_cases e3:c.Kind<b.Kind
   ·simp [e2,e3] at h2
   ·rw [if_pos (by omega)]; omega
 ·by_cases e2:b.Kind<a.Kind
  ·simp [e1,e2] at h1
  ·simp only [e1,e2,if_false] at h1;by_cases e3:b.Kind<c.Kind
   ·rw [if_pos (by omega)]; omega
   ·by_cases e4:c.Kind<b.Kind
    ·simp [e3,e4] at h2
    ·simp only [e3,e4,if_false] at h2;rw [if_neg (by omega),if_neg (by omega)];exact Cp h1 h2
theorem pB {a b:ah}:0<cu a b↔cu b a<0:=by rw [sA a b]; omega
theorem GM {a:ah}:¬ cu a a<0:=by rw [sB]; omega
theorem sW {a b:ah} (h:cu a b<0):a≠b:=fun e=>by subst e; exact GM h
theorem sC (a b:ah):cu a b<0∨a=b∨cu b a<0:=by
 rcases rb a b with h | h | h
 ·exact .inl (by omega)
 ·exact .inr (.inl (By h))
 ·exact .inr (.inr (by rw [sA a b]; omega))
theorem uT {a b c:ah} (h1:¬ cu b a<0) (h2:cu b c<0):cu a c<0:=by
 rcases sC a b with h | h | h
 ·exact ni h h2
 ·subst h; exact h2
 ·exact absurd h h1
def dU (a b:ah):Bool:=a.Kind==b.Kind&&a.Text.toList==b.Text.toList
theorem kv {a b:ah}:dU a b=true↔a=b:=by
 unfold dU;obtain⟨k,t⟩:=a;obtain⟨l,s⟩:=b;simp only [pR,beq_iff_eq,ah.mk.injEq];exact⟨fun h=>⟨h.1,toList_inj h.2⟩,fun h=>⟨h.1,by rw [h.2]⟩⟩
theorem sX {a b:ah}:dU a b=false↔a≠b:=by rw [← E6,kv]
theorem Bg (x y:Int):lc x y=some (if x<y then -1 else if y<x then 1 else 0):=by
 unfold lc mo;by_cases h1:x<y
 ·simp [h1]
 ·by_cases h2:y<x <;> simp [h1,h2]
theorem Lz (a b:Int):tE [a,b]=some (if a≠0 then a else b):=by
 unfold tE;by_cases h:a=0
 ·subst h;rw [jh (s':=1)]
  ·by_cases hb:b=0
   ·subst hb;rw [jh (s':=2)]
    ·rw [cN (r:=.go ())]
     ·rfl
     ·rfl
    ·rfl
   ·rw [cN (r:=.out b)]
    ·simp [Fl.el]
    ·unfold lQ;have:(b != 0)=true:=by simpa using hb
     simp [bg,this]
  ·rfl
 ·rw [cN (r:=.out a)]
  ·simp [Fl.el,h]
  ·unfold lQ;have:(a != 0)=true:=by simpa using h
   simp [bg,this]
theorem yu (a b:ah):sY a b=some (cu a b):=by
 unfold sY cu su;rw [Bg];simp only [aq];rw [Lz];by_cases h1:a.Kind<b.Kind
 ·simp [h1]
 ·by_cases h2:b.Kind<a.Kind <;> simp [h1,h2]
section
variable {κ ν:Type} {q:κ→κ→Bool} (hq:∀ a b,q a b=true↔a=b)
def Nd (xs:List (κ×ν)):Prop:=(xs.map (·.1)).Nodup
include hq
theorem rj (a:κ):q a a=true:=(hq a a).2 rfl
theorem wX {a b:κ} (h:a≠b):q a b=false:=by rw [← E6,hq]; exact h
theorem yX {k:κ} {v:ν}:∀ {xs:List (κ×ν)},Nd xs→(cV q k xs=some v↔(k,v)∈xs)
 | [],_=>by simp [cV]
 | x::r,h=>by
  have h':=vb.1 (show (x.1::r.map (·.1)).Nodup from h);have ih:=yX (k:=k) (v:=v) (xs:=r) h'.2;by_cases e:k=x.1
  ·subst e;rw [cV,rj hq,cond_true];constructor
   ·intro h; injection h with h; rw [← h]; exact rH
   ·intro hm;rcases ee.1 hm with hm | hm
    ·rw [← hm]
    ·exact absurd (Bb (f:=(·.1)) hm) h'.1
  ·rw [cV,wX hq e,cond_false,ih,ee];constructor
   ·exact .inr
   ·rintro (h | h)
    ·exact absurd (congrArg (·.1) h) e
    ·exact h
theorem AS {k:κ}:∀ {xs:List (κ×ν)},cV q k xs=none↔∀ v,(k,v) ∉ xs
 | []=>by simp [cV]
 | x::r=>by
  by_cases e:k=x.1
  ·rw [cV,e,rj hq,cond_true];constructor
   ·intro h; cases h
   ·intro h; exact absurd rH (h x.2)
  ·rw [cV,wX hq e,cond_false,AS];constructor
   ·intro h v hv;rcases ee.1 hv with hv | hv
    ·exact e (congrArg (·.1) hv)
    ·exact h v hv
   ·intro h v hv; exact h v (wJ _ hv)
theorem wd (k k':κ) (v:ν):∀ (xs:List (κ×ν)),cV q k (d9 q k' v xs)=if q k k' then some v else cV q k xs
 | []=>by simp [d9,cV,Bool.cond_eq_ite]
 | x::r=>by
  by_cases e:k'=x.1
  ·rw [d9,e,rj hq,cond_true,cV,cV];cases q k x.1 <;> simp
  ·rw [d9,wX hq e,cond_false,cV,cV,wd k k' v r];by_cases e2:k=x.1
   ·have:q k k'=false:=wX hq (fun h=>e (h.symm.trans e2));rw [e2,rj hq,cond_true,cond_true,← e2,this]; rfl
   ·rw [wX hq e2]; rfl
theorem AT (k:κ) (v:ν):∀ {xs:List (κ×ν)},Nd xs→(d9 q k v xs).Perm ((k,v)::xs.filter fun y=>!q k y.1)
 | [],_=>by simp [d9]
 | x::r,h=>by
  have h':=vb.1 (show (x.1::r.map (·.1)).Nodup from h);by_cases e:k=x.1
  ·rw [d9,e,rj hq,cond_true,u7 (by simp [rj hq])];rw [u9.2];intro y hy;rw [wX hq]; rfl;intro e2;exact h'.1 (e2▸Bb hy)
  ·rw [d9,wX hq e,cond_false,zN (by simp [wX hq e])];exact ((AT k v h'.2).cons x).trans (List.Perm.swap _ _ _)
theorem tM (k:κ):∀ {xs:List (κ×ν)},Nd xs→r6 q k xs=xs.filter fun y=>!q k y.1
 | [],_=>rfl
 | x::r,h=>by
  have h':=vb.1 (show (x.1::r.map (·.1)).Nodup from h);by_cases e:k=x.1
  ·rw [r6,e,rj hq,cond_true,u7 (by simp [rj hq])];rw [u9.2];intro y hy;rw [wX hq]; rfl;intro e2;exact h'.1 (e2▸Bb hy)
  ·rw [r6,wX hq e,cond_false,zN (by simp [wX hq e]),tM k h'.2]
omit hq in
theorem Nd.perm {xs ys:List (κ×ν)} (h:Nd xs) (p:xs.Perm ys):Nd ys:=(p.map _).nodup_iff.1 h
omit hq in
theorem Nd.filter {xs:List (κ×ν)} (h:Nd xs) (p:κ×ν→Bool):Nd (xs.filter p):=h.sublist (List.Sublist.map _ E7)
theorem Nd.put {xs:List (κ×ν)} (h:Nd xs) (k:κ) (v:ν):Nd (d9 q k v xs):=by
 refine Nd.perm ?_ (AT hq k v h).symm;show (k::(xs.filter fun y=>!q k y.1).map (·.1)).Nodup;refine vb.2 ⟨fun hm=>?_,h.filter _⟩;obtain⟨y,hy,e⟩:=io.1 hm;have:=(iN.1 hy).2;rw [e,rj hq] at this;cases this
theorem Nd.del {xs:List (κ×ν)} (h:Nd xs) (k:κ):Nd (r6 q k xs):=by rw [tM hq k h]; exact h.filter _
theorem GX (k k':κ) {xs:List (κ×ν)} (h:Nd xs):cV q k (r6 q k' xs)=if q k k' then none else cV q k xs:=by
 rw [tM hq k' h];by_cases e:k=k'
 ·subst e;rw [rj hq,if_pos rfl,AS hq];intro v hv;have:=(iN.1 hv).2;simp [rj hq] at this
 ·rw [wX hq e,if_neg (by simp)];refine Option.ext fun v=>?_;rw [yX hq (h.filter _),yX hq h,iN];simp [wX hq (fun h=>e h.symm)]
end
end
section
open Go.RowKit
open Go.Lib hiding intOf
def Ch (l:List ah):Prop:=l.Pairwise fun a b=>cu a b<0
structure xl (l m:List ah):Prop where
 asc:Ch m
 mem:∀ x,x∈m↔x∈l
 len:m.length≤l.length
def Bc (l:List ab):Prop:=Rm l.length∧∀ r∈l,Rm r.Reads.length
def xV (l:List ab):Prop:=l.Pairwise fun a b=>cu a.Key b.Key<0
def pZ (l:List ab) (r:ab):List ab:=(l.filter fun x=>decide (cu x.Key r.Key<0))++r::(l.filter fun x=>decide (0<cu x.Key r.Key))
theorem sD (a:ah):dU a a=true:=kv.2 rfl
theorem AL (a b:ah):dU a b=dU b a:=by
 by_cases h:a=b
 ·rw [h]
 ·rw [sX.2 h,sX.2 fun e=>h e.symm]
def Oy:ab:=⟨⟨0,⟨#[]⟩⟩,⟨#[]⟩,[],0,0,0,false⟩
def cq (l:List ab) (k:ah):ab×Bool:=match l.find? (fun r=>dU r.Key k) with | some r=>(r,true) | none=>(Oy,false)
theorem Br {α:Type} {p:α→Bool} {l:List α} {k:Nat} {x:α} (h1:l[k]? = some x) (h2:p x=true) (h3:∀ j z,j<k→l[j]? = some z→p z=false):l.find? p=some x:=by
 obtain⟨h,e⟩:=bH.1 h1;have:l=l.take k++x::l.drop (k+1):=by rw [← e]; simp
 rw [this,List.find?_append,List.find?_cons_of_pos h2];have:(l.take k).find? p=none:=by
  rw [A9];intro z hz;obtain⟨j,hj⟩:=gt.1 hz;rw [mO] at hj;split at hj
  ·rename_i hjk;rw [h3 j z hjk hj]; simp
  ·cases hj
 rw [this]; rfl
theorem jK (a b:ah):iu a b=some (cu a b):=by
 unfold iu cu su;by_cases h1:a.Kind<b.Kind
 ·simp [h1]
 ·by_cases h2:b.Kind<a.Kind <;> simp [h1,h2]
theorem qS {r:ab} (h:Rm r.Reads.length):gq r=some r:=by
 unfold gq Rm at *;rw [show bT (([]:List ah).length+r.Reads.length)=true from dX (by simp; omega)]; rfl
theorem A0 {l:List ab} {r:ab} (h:xV l) (hl:Rm l.length) (hr:Rm r.Reads.length):l6 l r=some (pZ l r):=by
 unfold Rm at hl;have hpl:∀ i,((l.take i).filter fun x=>decide (cu x.Key r.Key<0)).length+((l.take i).filter fun x=>decide (0<cu x.Key r.Key)).length≤l.length:=fun i=>by
  have h1:∀ m:List ab,(m.filter fun x=>decide (cu x.Key r.Key<0)).length+(m.filter fun x=>decide (0<cu x.Key r.Key)).length≤m.length:=by
   intro m
   induction m with
   | nil=>simp
   | cons y m ih =>
    by_cases a:cu y.Key r.Key<0
    ·rw [zN (by simpa using a),u7 (by simp; omega)]; simp only [d8]; omega
    ·by_cases b:0<cu y.Key r.Key
     ·rw [u7 (by simpa using a),zN (by simpa using b)]; simp only [d8]; omega
     ·rw [u7 (by simpa using a),u7 (by simpa using b)]; simp only [d8]; omega
  have:=h1 (l.take i);rw [dh] at this; omega
 have key:Ok (l6 l r) fun y=>y=pZ l r:=by
  unfold l6;refine bG (fun n t=>n≤l.length∧t.2.2=(n:Int)∧((t.1=l.take n∧t.2.1=false∧∀ x∈l.take n,cu x.Key r.Key<0)∨(t.1=pZ (l.take n) r∧t.2.1=true∧∃ x∈l.take n,¬ cu x.Key r.Key<0)))
   (fun t=>(t.1=l∧t.2=false∧∀ x∈l,cu x.Key r.Key<0)∨(t.1=pZ l r∧t.2=true)) l.length ⟨fE _,rfl,.inl ⟨rfl,rfl,by simp⟩⟩ (fun n t hn hI=>?_) (fun t ht=>?_)
  ·obtain⟨out,put,i⟩:=t;obtain⟨_,h1,h2⟩:=hI;dsimp only at h1 h2;subst h1;unfold qs;dsimp only;by_cases hi:n<l.length
   ·have hx:l[n]? = some l[n]:=bq hi;obtain⟨x,hxe⟩:∃ x,x=l[n]:=⟨_,rfl⟩;rw [← hxe] at hx;rw [dlt hi,cond_true,aM,hx,aq,jK,aq];have tk:=bw hx;have hle:=hpl n;rcases h2 with⟨rfl,rfl,h3⟩|⟨rfl,rfl,y,hy,h3⟩
    ·have e0:((l.take n).filter fun x=>decide (cu x.Key r.Key<0))=l.take n:=u9.2 fun x hx=>by simpa using h3 x hx
     have e1:((l.take n).filter fun x=>decide (0<cu x.Key r.Key))=[]:=E5.2 fun x hx=>by have:=h3 x hx; simp; omega
     rcases rb x.Key r.Key with hc | hc | hc
     ·rw [hc];unfold iJ iI iH;rw [show bT ((l.take n).length+[x].length)=true from dX (by simp; omega),cc (by omega)];refine ap ⟨hi,hi,rfl,.inl ⟨tk.symm,rfl,fun z hz=>?_⟩⟩;rw [tk] at hz;rcases dc.1 hz with hz | hz
      ·exact h3 z hz
      ·simp only [ee,ou,or_false] at hz; subst hz; omega
     ·rw [hc];unfold iJ iI iH;rw [qS hr,cc (by omega)];simp only [aq];rw [show bT ((l.take n).length+[r].length)=true from dX (by simp; omega)];refine ap ⟨hi,hi,rfl,.inr ⟨?_,rfl,x,by rw [tk]; simp,by omega⟩⟩;unfold pZ;rw [tk,kH,kH,e0,e1];simp [hc]
     ·rw [hc];unfold iJ iI iH;rw [qS hr,cc (by omega)];simp only [aq];rw [show bT ((l.take n).length+[r].length)=true from dX (by simp; omega),show bT ((l.take n++[r]).length+[x].length)=true from dX (by simp; omega)];refine ap ⟨hi,hi,rfl,.inr ⟨?_,rfl,x,by rw [tk]; simp,by omega⟩⟩;unfold pZ;rw [tk,kH,kH,e0,e1];simp [hc]
    ·have hyx:cu y.Key x.Key<0:=by
      obtain⟨j,hj⟩:=gt.1 hy;rw [mO] at hj;split at hj
      ·rename_i hjn;obtain⟨q1,q2⟩:=bH.1 hj;have:=gv.1 h j n q1 hi hjn;rw [q2,← hxe] at this; exact this
      ·cases hj
     have hc:0<cu x.Key r.Key:=by
      rw [pB];exact uT (b:=y.Key) h3 hyx
     have hc1:cu x.Key r.Key=1:=by rcases rb x.Key r.Key with h | h | h <;> omega
     rw [hc1];unfold iJ iI iH;rw [cc (by omega),show bT ((pZ (l.take n) r).length+[x].length)=true from dX (by unfold pZ; simp only [bL,d8,jR]; omega)];refine ap ⟨hi,hi,rfl,.inr ⟨?_,rfl,y,by rw [tk]; exact me _ hy,h3⟩⟩;unfold pZ;rw [tk,kH,kH];simp [hc1]
   ·have hn2:n=l.length:=by omega
    rw [hn2,bA,cond_false];rw [hn2,i7] at h2;refine ap ?_;rcases h2 with⟨a,b,c⟩|⟨a,b,c⟩
    ·exact .inl ⟨a,b,c⟩
    ·exact .inr ⟨a,b⟩
  ·obtain⟨out,put⟩:=t;dsimp only at ht;unfold oa n9;rcases ht with⟨rfl,rfl,h3⟩|⟨rfl,rfl⟩
   ·rw [qS hr];simp only [nM,cond_true,aq];rw [show bT (out.length+[r].length)=true from dX (by simp; omega)];refine ap ?_;unfold pZ;rw [u9.2 fun x hx=>by simpa using h3 x hx,E5.2 fun x hx=>by have:=h3 x hx; simp; omega]
   ·exact ap rfl
 obtain⟨y,e,rfl⟩:=key;exact e
theorem mK {l:List ah} (h:Rm l.length):dI l l=some true:=by
 unfold Rm at h;unfold dI;rw [show ((l.length:Int) != (l.length:Int))=false by simp,cond_false];refine d7 (cG (xs:=l) (fun i=>(i:Int)) rfl (r:=.go ()) (fun i x hx=>?_) ?_) rfl
 ·unfold iF;rw [cM hx,cond_true,aM,hx,aq,aq,cc (by have:=aV hx; omega)];show cond (!dU x x) _ _=_;rw [sD]; rfl
 ·unfold iF;rw [bA]; rfl
theorem Hf {l:List ab} {r x:ab} (h:x∈pZ l r):x∈l∨x=r:=by
 unfold pZ at h;rcases dc.1 h with h | h
 ·exact .inl (iN.1 h).1
 ·rcases ee.1 h with h | h
  ·exact .inr h
  ·exact .inl (iN.1 h).1
theorem CZ {l:List ab} (h:xV l) (r:ab):xV (pZ l r):=by
 unfold xV pZ;rw [oF];refine⟨E4 _ h,si.2 ⟨fun x hx=>?_,E4 _ h⟩,fun x hx y hy=>?_⟩
 ·have:=(iN.1 hx).2;simp only [decide_eq_true_eq] at this;exact pB.1 this
 ·have h1:=(iN.1 hx).2;simp only [decide_eq_true_eq] at h1;rcases ee.1 hy with rfl | hy
  ·exact h1
  ·have h2:=(iN.1 hy).2;simp only [decide_eq_true_eq] at h2;exact ni h1 (pB.1 h2)
theorem kj {l:List ab} (hl:Bc l) (k:ah):bX l k=some (cq l k):=by
 have h1:=hl.1;unfold Rm at h1;unfold bX;have key:=iO (B:=fun t:Int=>iS l k t) (xs:=l) (fun r=>dU r.Key k) (fun i=>(i:Int)) (s0:=0) rfl (y:=fun i x=>Fl.out (x,true)) (n:=Fl.go ()) (fun i x hx hp=>by
   unfold iS;rw [cM hx,cond_true,aM,hx,aq,cc (by have:=aV hx; omega)];show cond (dU x.Key k) _ _=_;rw [hp]; rfl) (fun i x hx hp=>by
   unfold iS;rw [cM hx,cond_true,aM,hx,aq];show cond (dU x.Key k) _ _=_;rw [hp,qS (hl.2 x (aG hx))]; rfl) (by
   unfold iS;rw [bA]; rfl)
 unfold cq;rcases key with⟨i,x,h1,h2,h3,h4⟩|⟨h1,h2⟩
 ·rw [h4,Br (p:=fun r=>dU r.Key k) h1 h2 h3]; rfl
 ·rw [h2,show l.find? (fun r=>dU r.Key k)=none from A9.2 fun x hx=>by rw [h1 x hx]; simp]; rfl
theorem qM {l:List ah} (hl:Rm l.length) (k:ah):nx l k=some (l.any fun x=>dU k x):=by
 unfold Rm at hl;unfold nx;refine d7 (nY (xs:=l) (fun x=>dU k x) (fun i=>(i:Int)) rfl (y:=Fl.out true) (n:=Fl.go ()) (fun i x hx hp=>?_) (fun i x hx hp=>?_) ?_) ?_
 ·unfold lZ;rw [cM hx,cond_true,aM,hx,aq,cc (by have:=aV hx; omega)];show cond (dU x k) _ _=_;rw [AL,hp]; rfl
 ·unfold lZ;rw [cM hx,cond_true,aM,hx,aq];show cond (dU x k) _ _=_;rw [AL,hp]; rfl
 ·unfold lZ;rw [bA]; rfl
 ·cases l.any fun x=>dU k x <;> rfl
theorem IU {out:List ah} (h:Ch out) {i:Nat} {k:ah} (h1:∀ y∈out.take i,cu y k<0) (h2:∀ y∈out.drop i,cu k y<0):Ch (out.take i++[k]++out.drop i):=by
 unfold Ch at *;rw [eT,oF];refine⟨h.sublist (Dl _ _),si.2 ⟨fun y hy=>h2 y hy,h.sublist (List.drop_sublist _ _)⟩,fun a ha b hb=>?_⟩;rcases ee.1 hb with rfl | hb
 ·exact h1 a ha
 ·exact ni (h1 a ha) (h2 b hb)
theorem IV {out:List ah} {i:Nat} {k x:ah}:x∈out.take i++[k]++out.drop i↔x∈out∨x=k:=by
 conv=>rhs; rw [← qi i out]
 simp only [dc,ee,ou,or_false];constructor
 ·rintro ((h | h) | h)
  ·exact .inl (.inl h)
  ·exact .inr h
  ·exact .inl (.inr h)
 ·rintro ((h | h) | h)
  ·exact .inl (.inl h)
  ·exact .inr h
  ·exact .inl (.inr h)
theorem sf {l:List ah} (hl:Rm l.length):∃ m,iG l=some m∧xl l m:=by
 unfold Rm at hl;have key:Ok (iG l) fun m=>xl l m:=by
  unfold iG;refine bG (fun n s=>s.2=(n:Int)∧n≤l.length∧xl (l.take n) s.1) (fun r=>xl l r) l.length ⟨rfl,fE _,uL,fun x=>by simp,by simp⟩ (fun n s hn hI=>?_) (fun r hr=>ap hr);obtain⟨out,g⟩:=s;obtain⟨h1,h2,h3⟩:=hI;dsimp only at h1 h3;subst h1;have hol:=h3.len;rw [dh] at hol;unfold mW;dsimp only;by_cases hi:n<l.length
  ·have hx:l[n]? = some l[n]:=bq hi;obtain⟨k,hk⟩:∃ k,k=l[n]:=⟨_,rfl⟩;rw [← hk] at hx;rw [dlt hi,cond_true,aM,hx,aq];have stay:k∈out→xl (l.take (n+1)) out:=fun hm=>⟨h3.asc,fun x=>by
    rw [bw hx,dc,h3.mem];constructor
    ·exact .inl
    ·rintro (h | h)
     ·exact h
     ·simp only [ee,ou,or_false] at h;subst h; exact (h3.mem _).1 hm,by rw [dh]; omega⟩
   have put:∀ i:Nat,i≤out.length→(∀ y∈out.take i,cu y k<0)→(∀ y∈out.drop i,cu k y<0)→xl (l.take (n+1)) (out.take i++[k]++out.drop i):=fun i hio q1 q2=>⟨IU h3.asc q1 q2,fun x=>by
    rw [IV,bw hx,dc,h3.mem];simp,by simp only [bL,dh,pS,d8,jR]; omega⟩
   have j3:∀ i:Nat,i≤out.length→(∀ y∈out.take i,cu y k<0)→(∀ y∈out.drop i,cu k y<0)→Ok (eQ out (n:Int) k (i:Int) true) fun r=>match r with
     | .go s'=>n<l.length∧s'.2=((n+1:Nat):Int)∧n+1≤l.length∧xl (l.take (n+1)) s'.1
     | .out r=>xl l r:=fun i hio q1 q2=>by
    unfold eQ iw;rw [cond_true,oX hio,aq,uD hio,aq,cc (by omega)];have r1:bT (([]:List ah).length+(out.take i).length)=true:=dX (by simp; omega);have r2:bT ((([]:List ah)++out.take i).length+[k].length)=true:=dX (by simp; omega);have r3:bT (((([]:List ah)++out.take i)++[k]).length+(out.drop i).length)=true:=dX (by simp; omega);rw [r1,r2,r3];simp only [gd,cond_true,rW];exact ap ⟨hi,rfl,hi,put i hio q1 q2⟩
   have inner:=iO (B:=fun t:Int=>fT out k t) (xs:=out) (fun y=>!decide (cu y k<0)) (fun i=>(i:Int)) (s0:=0) rfl (y:=fun i _=>(i:Int)) (n:=(out.length:Int)) (fun i y hy hp=>by
     unfold fT;simp only [Bool.not_eq_false'] at hp;rw [cM hy,cond_true,aM,hy,aq,jK,aq,hp,cond_true,cc (by have:=aV hy; omega)]) (fun i y hy hp=>by
     unfold fT;simp only [uh] at hp;rw [cM hy,cond_true,aM,hy,aq,jK,aq,hp,cond_false]) (by
     unfold fT;rw [bA]; rfl)
   rcases inner with⟨i,y,a1,a2,a3,a4⟩|⟨a1,a2⟩
   ·rw [a4,aq];have hio:=aV a1;have hge:¬ cu y k<0:=by simpa using a2
    have hb:∀ z∈out.take i,cu z k<0:=fun z hz=>by
     obtain⟨j,hj⟩:=gt.1 hz;rw [mO] at hj;split at hj
     ·rename_i hji;simpa using a3 j z hji hj
     ·cases hj
    unfold kw;rw [show ((i:Int)==(out.length:Int))=false from by simp; omega,cond_false,aM,a1,aq];show Ok (eQ out (n:Int) k (i:Int) (!dU y k)) _;cases hq:dU y k
    ·rw [nM];refine (j3 i (by omega) hb fun z hz=>?_).mono fun y hy=>by cases y <;> exact hy
     have hyk:cu k y<0:=by
      rcases sC y k with h | h | h
      ·exact absurd h hge
      ·exact absurd h (sX.1 hq)
      ·exact h
     obtain⟨j,hj⟩:=gt.1 hz;rw [qj] at hj;obtain⟨q1,q2⟩:=bH.1 hj;obtain⟨q3,q4⟩:=bH.1 a1;by_cases hj0:j=0
     ·subst hj0;rw [qk,a1] at hj;injection hj with hj;rw [← hj]; exact hyk
     ·have:=gv.1 h3.asc i (i+j) q3 q1 (by omega);rw [q4,q2] at this;exact ni hyk this
    ·unfold eQ iw;rw [eI,cond_false,cc (by omega)];exact ap ⟨hi,rfl,hi,stay (by rw [← kv.1 hq]; exact aG a1)⟩
   ·rw [a2,aq];unfold kw;rw [beq_self_eq_true,cond_true];refine (j3 out.length (ce _) (fun z hz=>?_) (fun z hz=>by rw [Dm] at hz; cases hz)).mono fun y hy=>by cases y <;> exact hy
    rw [i7] at hz;simpa using a1 z hz
  ·rw [Gr hi,cond_false];have:n=l.length:=by omega
   subst this;rw [i7] at h3;exact ap h3
 obtain⟨m,e,h⟩:=key;exact⟨m,e,h⟩
end
section
open Go.RowKit
open Go.Lib hiding intOf
instance Pe:DecidableEq ah:=fun a b=>decidable_of_iff (dU a b=true) kv
inductive mf {α:Type} (E:α→α→Prop) (x:α):α→Prop
 | refl:mf E x x
 | snoc {y z:α}:mf E x y→E y z→mf E x z
theorem mf.trans {α:Type} {E:α→α→Prop} {x y z:α} (h:mf E x y) (k:mf E y z):mf E x z:=by
 induction k with
 | refl=>exact h
 | snoc _ e ih=>exact .snoc ih e
theorem mf.head {α:Type} {E:α→α→Prop} {x y z:α} (h:E x y) (k:mf E y z):mf E x z:=(mf.snoc .refl h).trans k
def Dx {α:Type} (E:α→α→Prop) (x z:α):Prop:=∃ y,mf E x y∧E y z
theorem Dx.star {α:Type} {E:α→α→Prop} {x z:α} (h:Dx E x z):mf E x z:=by obtain⟨y,h1,h2⟩:=h; exact .snoc h1 h2
theorem mf.plus {α:Type} {E:α→α→Prop} {x z:α} (h:mf E x z) (hne:x≠z):Dx E x z:=by
 cases h with
 | refl=>exact absurd rfl hne
 | snoc h1 h2=>exact⟨_,h1,h2⟩
theorem lX {α:Type}:∀ {l m:List α},l.Nodup→(∀ x∈l,x∈m)→l.length≤m.length
 | [],m,_,_=>fE _
 | x::l,m,h,hs=>by
  have h':=vb.1 h;obtain⟨a,b,rfl⟩:=List.append_of_mem (hs x rH);have:=lX (l:=l) (m:=a++b) h'.2 fun y hy=>by
   have h1:=hs y (wJ _ hy);rw [dc,ee] at h1;rw [dc];rcases h1 with h1 | rfl | h1
   ·exact .inl h1
   ·exact absurd hy h'.1
   ·exact .inr h1
  simp only [d8,bL] at this ⊢;omega
theorem o5:∀ a b:ah,aP a b=true↔a=b:=fun a b=>kv (a:=a) (b:=b)
theorem Hg {m:List (ah×Bool)} {M:List ah} (h:∀ x,(cV aP x m).getD false=decide (x∈M)) (e:ah):∀ x,(cV aP x (d9 aP e true m)).getD false=decide (x∈M++[e]):=fun x=>by
 rw [wd o5];by_cases hx:x=e
 ·subst hx; rw [if_pos ((o5 _ _).2 rfl)]; simp
 ·rw [if_neg (fun h=>hx ((o5 _ _).1 h)),h]; simp [hx]
section
variable {succ:ah→List ah} {filt:ah→Bool}
def Dw (succ:ah→List ah) (filt:ah→Bool) (T:List ah) (i g:Nat) (x r:ah):Prop :=
 ∃ j,T[j]? = some x∧filt r=true∧((j<i∧r∈succ x)∨(j=i∧r∈(succ x).take g))
theorem Dw.grow {T T':List ah} {i g:Nat} {x r:ah} (hi:i<T.length):Dw succ filt (T++T') i g x r↔Dw succ filt T i g x r:=by
 constructor
 ·rintro⟨j,h1,h2,h3⟩;rw [lM (by omega)] at h1;exact⟨j,h1,h2,h3⟩
 ·rintro⟨j,h1,h2,h3⟩;exact⟨j,by rw [lM (by omega)]; exact h1,h2,h3⟩
theorem Dw.step {T:List ah} {i g:Nat} {c e:ah} (hc:T[i]? = some c) (he:(succ c)[g]? = some e) {x r:ah}:Dw succ filt T i (g+1) x r↔Dw succ filt T i g x r∨(x=c∧r=e∧filt e=true):=by
 constructor
 ·rintro⟨j,h1,h2,h3 | ⟨rfl,h3⟩⟩
  ·exact .inl ⟨j,h1,h2,.inl h3⟩
  ·rw [hc] at h1;injection h1 with h1;subst h1;rw [bw he,dc,kG] at h3;rcases h3 with h3 | rfl
   ·exact .inl ⟨j,hc,h2,.inr ⟨rfl,h3⟩⟩
   ·exact .inr ⟨rfl,rfl,h2⟩
 ·rintro (⟨j,h1,h2,h3 | ⟨rfl,h3⟩⟩|⟨rfl,rfl,h⟩)
  ·exact⟨j,h1,h2,.inl h3⟩
  ·rw [hc] at h1;injection h1 with h1;subst h1;exact⟨j,hc,h2,.inr ⟨rfl,by rw [bw he]; exact me _ h3⟩⟩
  ·exact⟨i,hc,h,.inr ⟨rfl,by rw [bw he]; simp⟩⟩
theorem Dw.next {T:List ah} {i:Nat} {c:ah} (hc:T[i]? = some c) {x r:ah}:Dw succ filt T i (succ c).length x r↔Dw succ filt T (i+1) 0 x r:=by
 constructor
 ·rintro⟨j,h1,h2,h3 | ⟨rfl,h3⟩⟩
  ·exact⟨j,h1,h2,.inl ⟨by omega,h3.2⟩⟩
  ·rw [hc] at h1;injection h1 with h1;subst h1;rw [i7] at h3;exact⟨j,hc,h2,.inl ⟨by omega,h3⟩⟩
 ·rintro⟨j,h1,h2,h3 | ⟨rfl,h3⟩⟩
  ·by_cases hj:j=i
   ·subst hj;rw [hc] at h1;injection h1 with h1;subst h1;exact⟨j,hc,h2,.inr ⟨rfl,by rw [i7]; exact h3.2⟩⟩
   ·exact⟨j,h1,h2,.inl ⟨by omega,h3.2⟩⟩
  ·simp at h3
structure WL (succ:ah→List ah) (filt:ah→Bool) (Rch:ah→Prop) (pre:List ah) (seen:List (ah×Bool)) (M:List ah) (i g:Nat):Prop where
 nd:M.Nodup
 see:∀ x,(cV aP x seen).getD false=decide (x∈M)
 rch:∀ x∈M,Rch x
 con:∀ x r,Dw succ filt (pre++M) i g x r→r∈M
variable {Rch:ah→Prop} {pre:List ah} {seen:List (ah×Bool)} {M:List ah} {i g:Nat} {c e:ah}
theorem WL.skip (h:WL succ filt Rch pre seen M i g) (hc:(pre++M)[i]? = some c) (he:(succ c)[g]? = some e) (hf:filt e=false):WL succ filt Rch pre seen M i (g+1) :=
 ⟨h.nd,h.see,h.rch,fun x r hx=>by
  rcases (Dw.step hc he).1 hx with h1 | ⟨_,_,h1⟩
  ·exact h.con x r h1
  ·rw [hf] at h1; cases h1⟩
theorem WL.old (h:WL succ filt Rch pre seen M i g) (hc:(pre++M)[i]? = some c) (he:(succ c)[g]? = some e) (hm:e∈M):WL succ filt Rch pre seen M i (g+1) :=
 ⟨h.nd,h.see,h.rch,fun x r hx=>by
  rcases (Dw.step hc he).1 hx with h1 | ⟨_,rfl,_⟩
  ·exact h.con x r h1
  ·exact hm⟩
theorem WL.new (h:WL succ filt Rch pre seen M i g) (hc:(pre++M)[i]? = some c) (he:(succ c)[g]? = some e) (hm:e ∉ M) (hr:Rch e):WL succ filt Rch pre (d9 aP e true seen) (M++[e]) i (g+1) :=
 ⟨List.nodup_append.2 ⟨h.nd,by simp,fun a ha b hb e2=>by rw [kG] at hb; subst hb e2; exact hm ha⟩,Hg h.see e,fun x hx=>by
  rcases dc.1 hx with hx | hx
  ·exact h.rch x hx
  ·rw [kG] at hx; subst hx; exact hr,fun x r hx=>by
  have hi:i<(pre++M).length:=(bH.1 hc).1;rw [← eT,Dw.grow hi] at hx;rcases (Dw.step hc he).1 hx with h1 | ⟨_,rfl,_⟩
  ·exact me _ (h.con x r h1)
  ·simp⟩
theorem WL.next (h:WL succ filt Rch pre seen M i g) (hc:(pre++M)[i]? = some c) (hg:g=(succ c).length):WL succ filt Rch pre seen M (i+1) 0 :=
 ⟨h.nd,h.see,h.rch,fun x r hx=>h.con x r (by subst hg; exact (Dw.next hc).2 hx)⟩
theorem WL.fin (h:WL succ filt Rch pre seen M i g) (hi:(pre++M).length≤i) {x r:ah} (hx:x∈pre++M) (hr:r∈succ x) (hf:filt r=true):r∈M:=by
 obtain⟨j,hj⟩:=gt.1 hx;exact h.con x r ⟨j,hj,hf,.inl ⟨by have:=(bH.1 hj).1; omega,hr⟩⟩
end
section
variable {rd:ah→List ah} {op:ah→Bool} {k:ah}
def Eg (rd:ah→List ah) (op:ah→Bool) (x y:ah):Prop:=op x=true∧y∈rd x∧op y=true
theorem I8 (hk:op k=true) {x:ah} (h:mf (Eg rd op) k x):op x=true:=by
 cases h with
 | refl=>exact hk
 | snoc _ e=>exact e.2.2
end
def pA (k:ah):Bool:=decide (k.Kind=32)||(decide (k.Kind=7)||decide (k.Kind=14)||decide (k.Kind=17)||decide (k.Kind=18))
theorem fL (k:ah):cB k=some (pA k):=by
 unfold cB qq pA fQ fP;have hb:∀ n:Int,((k.Kind:Int)==n)=decide (k.Kind=n):=fun n=>by rw [Bool.eq_iff_iff]; simp
 rw [hb,hb,hb,hb,hb];by_cases h32:k.Kind=32
 ·simp [h32]
 ·by_cases h7:k.Kind=7
  ·simp [h7]
  ·by_cases h14:k.Kind=14
   ·simp [h14]
   ·by_cases h17:k.Kind=17
    ·simp [h17]
    ·by_cases h18:k.Kind=18
     ·simp [h18]
     ·simp only [h32,h7,h14,h17,h18,decide_false,Bool.or_false,cond_false];cases decide ((1:Int)≤k.Kind) <;> cases decide ((k.Kind:Int)≤22) <;> rfl
def G5 (r:ab) (rev:Int):Bool:=pA r.Key&&decide (r.Verified<rev) && !r.Dirty
theorem G6 (r:ab) (rev:Int):G5 r rev=(pA r.Key&&decide (r.Verified<rev) && !r.Dirty):=rfl
noncomputable def Cf (l:List ab) (rev:Int) (k:ah):Bool:=(cq l k).2&&G5 (cq l k).1 rev
def AX (l:List ab) (k:ah):List ah:=(cq l k).1.Reads
theorem kJ {l:List ab} {k:ah} (h:(cq l k).2=true):(cq l k).1∈l∧(cq l k).1.Key=k:=by
 unfold cq at *;cases hf:l.find? (fun r=>dU r.Key k) with
 | none=>rw [hf] at h; cases h
 | some r =>
  have h2:=List.find?_some hf;exact⟨List.mem_of_find?_eq_some hf,kv.1 h2⟩
theorem un {l:List ab} {k:ah} (h:(cq l k).2=false):cq l k=(Oy,false)∧∀ r∈l,r.Key≠k:=by
 unfold cq at *;cases hf:l.find? (fun r=>dU r.Key k) with
 | none =>
  refine⟨rfl,fun r hr e=>?_⟩;have:=A9.1 hf r hr;exact this (kv.2 e)
 | some r=>rw [hf] at h; cases h
theorem BG {l:List ab} {rev:Int} {k:ah} (h:Cf l rev k=true):k∈l.map ab.Key:=by
 unfold Cf at h;simp only [pR] at h;obtain⟨h1,h2⟩:=kJ h.1;exact io.2 ⟨_,h1,h2⟩
theorem vB {l:List ab} (hl:Bc l) (rev:Int) (k:ah):oR l rev k=some (Cf l rev k):=by
 unfold oR iU;rw [kj hl,aq];cases hf:(cq l k).2 with
 | false=>simp [Cf,hf]
 | true =>
  have hk:=(kJ hf).2;unfold Cf;rw [hf,G6,hk,cond_true,fL,aq];cases pA k <;> cases decide (((cq l k).1.Verified:Int)<rev) <;> rfl
structure Fd (l:List ab):Prop where
 asc:xV l
 len:l.length≤1000
 rds:∀ r∈l,r.Reads.length≤1000
theorem Fd.rm {l:List ab} (h:Fd l):Bc l:=⟨by have:=h.len; unfold Rm; omega,fun r hr=>by have:=h.rds r hr; unfold Rm; omega⟩
theorem Fd.rd {l:List ab} (h:Fd l) (k:ah):(AX l k).length≤1000:=by
 unfold AX;cases hf:(cq l k).2 with
 | true=>exact h.rds _ (kJ hf).1
 | false=>rw [(un hf).1]; exact fE _
noncomputable abbrev Ek (l:List ab) (rev:Int):=Eg (AX l) (Cf l rev)
def NF (l:List ab) (rev:Int) (k:ah) (m:List ah):Prop:=Ch m∧∀ x,x∈m↔mf (Ek l rev) k x∧mf (Ek l rev) x k
section
variable {l:List ab} (hl:Fd l) {rev:Int} {k:ah} (hk:Cf l rev k=true)
theorem tZ (hk:Cf l rev k=true) {x:ah} (h:mf (Ek l rev) k x):Cf l rev x=true:=I8 hk h
abbrev B1 (l:List ab) (rev:Int) (k:ah) (seen:List (ah×Bool)) (M:List ah) (i g:Nat):Prop:=WL (AX l) (Cf l rev) (Dx (Ek l rev) k) [k] seen M i g
theorem B1.len {seen:List (ah×Bool)} {M:List ah} {i g:Nat} (h:B1 l rev k seen M i g):M.length≤l.length:=by
 have:=lX (m:=l.map ab.Key) h.nd fun x hx=>by
  obtain⟨y,_,e⟩:=h.rch x hx;exact BG e.2.2
 rwa [gc] at this
include hl hk in
theorem GS {seen:List (ah×Bool)} {M:List ah} {i:Nat} {c:ah} (hc:([k]++M)[i]? = some c) (h:B1 l rev k seen M i 0) :
  Ok (loop (fun s:(List (ah×Bool))×(List ah)×Int=>fy l rev (cq l c) s.1 s.2.1 s.2.2) (seen,[k]++M,0)) fun r=>∃ M',r.2=[k]++M'∧B1 l rev k r.1 M' (i+1) 0∧i<([k]++M').length:=by
 have hcs:mf (Ek l rev) k c:=by
  cases i with
  | zero=>simp at hc; subst hc; exact .refl
  | succ i =>
   rw [lN (by simp)] at hc;exact (h.rch c (aG hc)).star
 have hcop:=tZ hk hcs;have hrl:=hl.rd c;have hll:=hl.len;refine qF (B:=fun s:(List (ah×Bool))×(List ah)×Int=>fy l rev (cq l c) s.1 s.2.1 s.2.2)
  (fun g s=>s.2.2=(g:Int)∧∃ M',s.2.1=[k]++M'∧B1 l rev k s.1 M' i g∧([k]++M')[i]? = some c) _ (AX l c).length ?_ ?_ ⟨rfl,M,rfl,h,hc⟩
 ·rintro g ⟨sn,L,gi⟩ hg ⟨rfl,M',rfl,hA,hLc⟩;dsimp only at hA hLc ⊢;have hge:(AX l c)[g]? = some (AX l c)[g]:=bq hg;have hlen:=B1.len hA;have hLi:i<([k]++M').length:=(bH.1 hLc).1;refine .inl ?_;have hgu:(cq l c).1.Reads=AX l c:=rfl;unfold fy;rw [hgu,dlt hg,cond_true,aM,hge,aq];generalize (AX l c)[g]=e at hge;rw [vB hl.rm,aq];unfold lC lB;rw [cc (by omega)];cases hf:Cf l rev e with
  | false=>exact⟨_,rfl,rfl,M',rfl,hA.skip hLc hge hf,hLc⟩
  | true =>
   have hEg:Ek l rev c e:=⟨hcop,aG hge,hf⟩;rw [cond_true,hA.see e,aq];by_cases hm:e∈M'
   ·rw [decide_eq_true hm];exact⟨_,rfl,rfl,M',rfl,hA.old hLc hge hm,hLc⟩
   ·rw [decide_eq_false hm];simp only [nM,cond_true];rw [gd,dX (by simp only [nN,bL]; omega),cond_true];refine⟨_,rfl,rfl,M'++[e],by simp,hA.new hLc hge hm ⟨c,hcs,hEg⟩,?_⟩;rw [← eT,lM hLi]; exact hLc
 ·rintro⟨sn,L,gi⟩ ⟨rfl,M',rfl,hA,hLc⟩;dsimp only at hA hLc ⊢;have hend:fy l rev (cq l c) sn ([k]++M') ((AX l c).length:Int)=some (.out (sn,[k]++M')):=by
   unfold fy;rw [show (cq l c).1.Reads=AX l c from rfl,bA]; rfl
  exact⟨_,hend,M',rfl,hA.next hLc rfl,(bH.1 hLc).1⟩
include hl hk in
theorem CO:Ok (nE l rev k) fun m=>∀ x,(cV aP x m).getD false=true↔Dx (Ek l rev) k x:=by
 have hll:=hl.len;have h0:B1 l rev k [] [] 0 0:=⟨List.nodup_nil,fun x=>by simp [cV],fun x hx=>by simp at hx,fun x r h=>by
  obtain⟨j,h1,h2,h3 | ⟨_,h3⟩⟩:=h
  ·omega
  ·simp at h3⟩
 have fin:∀ {sn M i},B1 l rev k sn M i 0→([k]++M).length≤i→∀ x,(cV aP x sn).getD false=true↔Dx (Ek l rev) k x:=by
  intro sn M i hA hL x;rw [hA.see,decide_eq_true_iff];refine⟨hA.rch x,?_⟩;rintro⟨y,hy,e⟩;have hall:∀ z,mf (Ek l rev) k z→z∈[k]++M:=fun z hz=>by
   induction hz with
   | refl=>simp
   | snoc _ e ih=>exact tw _ (hA.fin hL ih e.2.1 e.2.2)
  exact hA.fin hL (hall y hy) e.2.1 e.2.2
 unfold nE oe;refine aL (Q:=fun m=>∀ x,(cV aP x m).getD false=true↔Dx (Ek l rev) k x) ?_ fun m hm=>ap hm;refine qF (B:=fun s:(List (ah×Bool))×(List ah)×Int=>gY l rev s.1 s.2.1 s.2.2)
  (fun i s=>s.2.2=(i:Int)∧∃ M,s.2.1=[k]++M∧B1 l rev k s.1 M i 0∧i≤([k]++M).length) _ (l.length+1) ?_ ?_ ⟨rfl,[],rfl,h0,fE _⟩
 ·rintro i ⟨sn,L,ii⟩ hi ⟨rfl,M,rfl,hA,hiL⟩;dsimp only at hA hiL ⊢;by_cases hlt:i<([k]++M).length
  ·refine .inl ?_;have hc:([k]++M)[i]? = some ([k]++M)[i]:=bq hlt;obtain⟨⟨s2,L2⟩,e2,M',rfl,h2,h3⟩:=GS hl hk hc hA;refine⟨(s2,[k]++M',((i+1:Nat):Int)),?_,rfl,M',rfl,h2,h3⟩;unfold gY lA;rw [dlt hlt,cond_true,aM,hc,aq,kj hl.rm,aq,e2,aq,cc (by omega)]
  ·refine .inr ⟨sn,?_,fin hA (by omega)⟩;unfold gY;rw [Gr hlt]; rfl
 ·rintro⟨sn,L,ii⟩ ⟨rfl,M,rfl,hA,hiL⟩;dsimp only at hA hiL ⊢;have hlen:=B1.len hA;have hlen2:([k]++M).length≤l.length+1:=by rw [bL,nN]; omega
  refine⟨sn,?_,fin hA hlen2⟩;unfold gY;rw [Gr (by omega)]; rfl
include hl hk in
theorem Hj:Ok (mE l rev k) (NF l rev k):=by
 have hll:=hl.len;unfold mE;rw [vB hl.rm,aq,hk];simp only [eI,cond_false];refine aL (CO hl hk) fun tm htm=>?_;unfold rR;refine aL (Q:=fun out=>out.length≤1001∧∀ x,x∈out↔mf (Ek l rev) k x∧mf (Ek l rev) x k) ?_ fun out ⟨h1,h2⟩=>?_
 ·refine qF (B:=fun s:(List ah)×Int=>nD l rev k tm s.1 s.2)
   (fun i s=>s.2=(i:Int)∧s.1.length≤i+1∧∀ x,x∈s.1↔x=k∨(∃ r∈l.take i,r.Key=x)∧mf (Ek l rev) k x∧mf (Ek l rev) x k) _ l.length ?_ ?_ ⟨rfl,by simp,fun x=>by simp⟩
  ·rintro i ⟨out,ii⟩ hi ⟨rfl,hlen,hm⟩;dsimp only at hlen hm ⊢;refine .inl ?_;have hr:l[i]? = some l[i]:=bq hi;generalize l[i]=r at hr;have hkeep:¬ (r.Key≠k∧mf (Ek l rev) k r.Key∧mf (Ek l rev) r.Key k)→∀ x,x∈out↔x=k∨(∃ r∈l.take (i+1),r.Key=x)∧mf (Ek l rev) k x∧mf (Ek l rev) x k:=fun hn x=>by
    rw [hm,bw hr];constructor
    ·rintro (h | ⟨⟨r',h1,h2⟩,h3⟩)
     ·exact .inl h
     ·exact .inr ⟨⟨r',me _ h1,h2⟩,h3⟩
    ·rintro (h | ⟨⟨r',h1,h2⟩,h3⟩)
     ·exact .inl h
     ·rcases dc.1 h1 with h1 | h1
      ·exact .inr ⟨⟨r',h1,h2⟩,h3⟩
      ·rw [kG] at h1;subst h1 h2;by_cases hx:r'.Key=k
       ·exact .inl hx
       ·exact absurd ⟨hx,h3⟩ hn
   have hadd:mf (Ek l rev) k r.Key→mf (Ek l rev) r.Key k→∀ x,x∈out++[r.Key]↔x=k∨(∃ r∈l.take (i+1),r.Key=x)∧mf (Ek l rev) k x∧mf (Ek l rev) x k:=fun ha hb x=>by
    rw [dc,hm,bw hr,kG];constructor
    ·rintro ((h | ⟨⟨r',h1,h2⟩,h3⟩) | rfl)
     ·exact .inl h
     ·exact .inr ⟨⟨r',me _ h1,h2⟩,h3⟩
     ·exact .inr ⟨⟨r,by simp,rfl⟩,ha,hb⟩
    ·rintro (h | ⟨⟨r',h1,h2⟩,h3⟩)
     ·exact .inl (.inl h)
     ·rcases dc.1 h1 with h1 | h1
      ·exact .inl (.inr ⟨⟨r',h1,h2⟩,h3⟩)
      ·rw [kG] at h1;subst h1 h2; exact .inr rfl
   unfold nD nC pK;rw [dlt hi,cond_true,aM,hr,aq,cc (by omega)];show ∃ s',cond (!(dU r.Key k)) _ _=_∧_;by_cases hx:r.Key=k
   ·rw [kv.2 hx];exact⟨_,rfl,rfl,by dsimp only; omega,hkeep fun h=>h.1 hx⟩
   ·rw [sX.2 hx];simp only [nM,cond_true,aq];cases ht:(cV aP r.Key tm).getD false with
    | false =>
     refine⟨_,rfl,rfl,by dsimp only; omega,hkeep fun h=>?_⟩;have:=(htm r.Key).2 (h.2.1.plus (fun e=>hx e.symm));rw [ht] at this; cases this
    | true =>
     have hp:=(htm r.Key).1 ht;obtain⟨m2,e2,h2⟩:=CO hl (tZ hk hp.star);rw [cond_true,e2,aq];cases ht2:(cV aP k m2).getD false with
     | false =>
      refine⟨_,rfl,rfl,by dsimp only; omega,hkeep fun h=>?_⟩;have:=(h2 k).2 (h.2.2.plus hx);rw [ht2] at this; cases this
     | true =>
      have hp2:=(h2 k).1 ht2;rw [cond_true,gd,dX (by simp only [nN]; omega),cond_true];exact⟨_,rfl,rfl,by simp only [bL,nN]; omega,hadd hp.star hp2.star⟩
  ·rintro⟨out,ii⟩ ⟨rfl,hlen,hm⟩;dsimp only at hlen hm ⊢;refine⟨out,by unfold nD; rw [bA]; rfl,by omega,fun x=>(hm x).trans ?_⟩;rw [i7];constructor
   ·rintro (rfl | ⟨_,h⟩)
    ·exact⟨.refl,.refl⟩
    ·exact h
   ·intro h;by_cases hx:x=k
    ·exact .inl hx
    ·obtain⟨r,hr,e⟩:=io.1 (BG (tZ hk h.1));exact .inr ⟨⟨r,hr,e⟩,h⟩
 ·obtain⟨m,e,hm⟩:=sf (l:=out) (by unfold Rm; omega);rw [e];exact ap ⟨hm.asc,fun x=>(hm.mem x).trans (h2 x)⟩
end
theorem NF.len {l:List ab} (hl:Fd l) {rev:Int} {k:ah} (hk:Cf l rev k=true) {m:List ah} (h:NF l rev k m):m.length≤1000:=by
 have hn:m.Nodup:=List.Pairwise.imp (fun {a b} h=>sW h) h.1;have:=lX (m:=l.map ab.Key) hn fun x hx=>BG (tZ hk ((h.2 x).1 hx).1);rw [gc] at this;exact cx this hl.len
def Ge (l:List ab) (g:List ah) (m:ah):List cT:=((AX l m).filter fun x=>!(g.any fun y=>dU x y)).map fun x=>⟨m,x⟩
def fH (l:List ab) (g h:List ah):List cT:=h.flatMap (Ge l g)
theorem Gf {l:List ab} (hl:Fd l) (g:List ah) (m:ah):(Ge l g m).length≤1000:=by
 unfold Ge;rw [gc];exact cx (Dn _ _) (hl.rd m)
theorem rL {l:List ab} (hl:Fd l) (g:List ah):∀ h:List ah,(fH l g h).length≤h.length*1000
 | []=>fE _
 | m::h=>by
  have:=rL hl g h;have:=Gf hl g m;unfold fH at *;rw [BZ,bL,d8]; omega
theorem AC {l:List ab} (hl:Fd l) {g:List ah} (hg:g.length≤2000):iK l g=some (fH l g g):=by
 unfold iK m5;refine d7 (cG (xs:=g) (fun k=>(fH l g (g.take k),(k:Int))) rfl (r:=fH l g g) (fun k m hm=>?_) ?_) rfl
 ·have hk:=aV hm;have hc:=rL hl g (g.take k);have hct:(g.take k).length≤2000:=by rw [dh]; omega
  unfold kD m6;dsimp only;rw [cM hm,cond_true,aM,hm,aq,kj hl.rm,aq,cc (by omega)];have hin:loop (fun s:List cT×Int=>ix g m (cq l m) s.1 s.2) (fH l g (g.take k),0)=some (fH l g (g.take k)++Ge l g m):=by
   have hrl:=hl.rd m;refine cG (xs:=AX l m) (fun i=>(fH l g (g.take k)++(((AX l m).take i).filter fun x=>!(g.any fun y=>dU x y)).map (fun x=>(⟨m,x⟩:cT)),(i:Int))) (by simp) (fun i x hx=>?_) ?_
   ·have hi:=aV hx;unfold ix kC;dsimp only;rw [show (cq l m).1.Reads=AX l m from rfl,cM hx,cond_true,aM,hx,aq,qM (by unfold Rm; omega),aq,cc (by omega),bw hx,kH,sK];have hpl:((((AX l m).take i).filter fun x=>!(g.any fun y=>dU x y)).map (fun x=>(⟨m,x⟩:cT))).length≤1000:=by
     rw [gc];exact cx (tp _ _ _) hrl
    cases hh:g.any fun y=>dU x y with
    | true=>simp [hh]
    | false =>
     simp only [nM,cond_true];rw [gd,dX (by simp only [bL,nN]; omega),cond_true];simp [hh]
   ·unfold ix;dsimp only;rw [show (cq l m).1.Reads=AX l m from rfl,bA,i7]; rfl
  rw [hin,aq,bw hm];unfold fH;rw [List.flatMap_append,List.flatMap_singleton]
 ·unfold kD;dsimp only;rw [bA,i7]; rfl
end
section
open Go.RowKit
open Go.Lib hiding intOf
noncomputable def rk (l:List aR) (n:Nat):ah:=⟨if (bz l)[n]? = some true then 32 else 31,cj n⟩
section
variable {l:List aR} {n a b:Nat}
theorem AK (ha:a<65536) (hb:b<65536) (h:cj (a:Int)=cj b):a=b:=by
 have h1:=wG ha;rw [h,wG hb] at h1;omega
theorem zj (ha:a<100) (hb:b<100) (h:rk l a=rk l b):a=b:=AK (by omega) (by omega) (congrArg ah.Text h)
theorem Hn (h:n<l.length):rk l n=ET l[n] n:=by
 unfold rk ET;rw [pO h];cases l[n].Ring <;> simp
theorem zm (h:n<l.length) (hl:l.length≤100):lp l n=some (rk l n):=by rw [Hn h]; exact FI h (by omega)
theorem qv:(rk l n).Kind=31∧(bz l)[n]? ≠ some true∨(rk l n).Kind=32∧(bz l)[n]? = some true:=by
 unfold rk;by_cases h:(bz l)[n]? = some true
 ·exact .inr ⟨by simp [h],h⟩
 ·exact .inl ⟨by simp [h],h⟩
theorem CU (h:n<100):y6 99 (cj (n:Int)).toList=n:=by
 unfold y6;rw [q9,lf,yD (by omega),if_pos (by omega)]
theorem zk (h:n<100):xM (rk l n)=n:=by
 unfold xM;rw [if_pos (by rcases qv (l:=l) (n:=n) with⟨h,_⟩|⟨h,_⟩ <;> rw [h] <;> decide)];exact CU h
theorem Gc (h:n<100):xM (gN n)=n:=by
 unfold xM;rw [if_pos ⟨by show (30:Int)≤30; omega,by show (30:Int)≤32; omega⟩];exact CU h
theorem nW (k:ah):cC k=some (decide (k.Kind=1)||(decide (k.Kind=2)||decide (k.Kind=30))):=by
 unfold cC jz;by_cases h1:k.Kind=1
 ·simp [h1]
 ·by_cases h2:k.Kind=2
  ·simp [h2]
  ·by_cases h3:k.Kind=30
   ·simp [h3]
   ·have hb:∀ n:Int,k.Kind≠n→(k.Kind==n)=false:=fun n h=>by simpa using h
    rw [hb 1 h1,hb 2 h2,hb 30 h3];simp [h1,h2,h3]
theorem wB:cC (rk l n)=some false:=by
 rw [nW];rcases qv (l:=l) (n:=n) with⟨h,_⟩|⟨h,_⟩ <;> rw [h] <;> rfl
theorem qQ:cC (gN n)=some true:=by rw [nW]; rfl
theorem EQ:pA (rk l n)=decide ((bz l)[n]? = some true):=by
 unfold pA;rcases qv (l:=l) (n:=n) with⟨h,k⟩|⟨h,k⟩
 ·rw [h,decide_eq_false k]; rfl
 ·rw [h,decide_eq_true k]; rfl
theorem Fj:pA (gN n)=false:=rfl
theorem Em:gN a≠rk l b:=fun h=>by
 have h30:(30:Int)=(rk l b).Kind:=congrArg ah.Kind h;rcases qv (l:=l) (n:=b) with⟨h,_⟩|⟨h,_⟩ <;> rw [h] at h30 <;> omega
theorem A6 {k:ah} (h:30≤k.Kind∧k.Kind≤32):cW k=some (decide (0≤xM k)):=by
 unfold cW fj;rw [decide_eq_true h.1,decide_eq_true h.2,cond_true,cond_true,oU];rfl
theorem C3 (h:n<100):cW (rk l n)=some true:=by
 rw [A6 (by rcases qv (l:=l) (n:=n) with⟨h,_⟩|⟨h,_⟩ <;> rw [h] <;> decide),zk h,decide_eq_true (by omega)]
theorem vf (h:n<100):cW (gN n)=some true:=by
 rw [A6 (k:=gN n) ⟨by show (30:Int)≤30; omega,by show (30:Int)≤32; omega⟩,Gc h,decide_eq_true (by omega)]
def oA (l:List aR) (k:ah):Prop:=(∃ c,c<10∧k=gN c)∨∃ n,n<l.length∧k=rk l n
theorem oA.valid (hl:l.length≤8) {k:ah} (h:oA l k):cW k=some true:=by
 rcases h with⟨c,hc,rfl⟩|⟨n,hn,rfl⟩
 ·exact vf (by omega)
 ·exact C3 (by omega)
theorem yU (h:n<l.length):Ce (bz l) n≤l.length:=by
 unfold Ce;split
 ·have:=(F8 (rs:=bz l) (n:=n) (by unfold bz; rwa [gc])).2.2;unfold bz at this ⊢;rwa [gc] at this
 ·omega
noncomputable def sr (x:dd) (ls:List ByteArray):Int:=if x.Pick=true∧(ls.length=0∨gL (ls.getD (ls.length-1) ⟨#[]⟩) % 2=0) then x.Else else x.N
noncomputable def so (l:List aR) (x:dd) (ls:List ByteArray):ah:=if x.Cell=true then gN (sr x ls).toNat else rk l (sr x ls).toNat
theorem pv (hR:bI l) {r:aR} (h:l[n]? = some r) {k:Nat} {x:dd} (hx:r.Asks[k]? = some x) (ls:List ByteArray) :
  0≤sr x ls∧((x.Cell=true∧∃ c,c<10∧(sr x ls)=(c:Nat)∧so l x ls=gN c)∨(x.Cell=false∧∃ j,j<Ce (bz l) n∧(sr x ls)=(j:Nat)∧so l x ls=rk l j)):=by
 have hA:=(hR.each n r h).each k x hx;have h0:0≤sr x ls:=by unfold sr; split; exact hA.low2; exact hA.low
 refine⟨h0,?_⟩;cases hc:x.Cell with
 | true =>
  have:sr x ls<4:=by unfold sr; split; exact hA.cell2 hc; exact hA.cell hc
  exact .inl ⟨rfl,(sr x ls).toNat,by omega,by omega,by unfold so; rw [if_pos hc]⟩
 | false =>
  have:sr x ls<Ce (bz l) n:=by unfold sr; split; exact hA.rule2 hc; exact hA.rule hc
  exact .inr ⟨rfl,(sr x ls).toNat,by omega,by omega,by unfold so; rw [if_neg (by rw [hc]; simp)]⟩
theorem C6 (hR:bI l) {r:aR} (h:l[n]? = some r) {ls:List ByteArray} (hn:r.Asks.length≤ls.length) :
  gS l (rk l n) ls=some ⟨true,cj (tI r (ls.take r.Asks.length)),⟨0,⟨#[]⟩⟩⟩:=by
 have hlt:=aV h;have h8:=hR.high;have h3:=(hR.each n r h).asks;have hC:0≤r.C∧r.C≤65535:=by
  have hr:=hR.each n r h;cases hg:r.Ring with
  | true=>have:=hr.ring hg; omega
  | false=>have:=hr.plain hg; omega
 obtain⟨m,hm,hm2⟩:=vi hR h (ls:=ls.take r.Asks.length) (by rw [dh]; omega);unfold gS;rw [oU,aq,zk (by omega),decide_eq_false (by omega),cond_false,decide_eq_false (by omega),cond_false,zm hlt (by omega),aq];rw [show (!((rk l n).Kind==(rk l n).Kind&&(rk l n).Text.toList==(rk l n).Text.toList))=false by simp,cond_false,aM,h,aq,decide_eq_true (by omega),cond_true];rw [oX (by omega),aq,GB hC (by rw [dh]; omega),aq,hm,qE (by omega),aq]
theorem D2 (hR:bI l) {r:aR} (h:l[n]? = some r) {ls:List ByteArray} {x:dd} (hx:r.Asks[ls.length]? = some x) :
  gS l (rk l n) ls=some ⟨false,⟨#[]⟩,so l x ls⟩:=by
 have hlt:=aV h;have hla:=aV hx;have h8:=hR.high;have h3:=(hR.each n r h).asks;have hA:=(hR.each n r h).each _ x hx;obtain⟨g0,hg⟩:=pv hR h hx ls;have hll:=yU hlt;have j1:∀ z:Int,z=sr x ls→kQ l x z=some ⟨false,⟨#[]⟩,so l x ls⟩:=by
  rintro _ rfl;unfold kQ;rcases hg with⟨hc,c,h4,e1,e2⟩|⟨hc,j,h4,e1,e2⟩
  ·rw [hc,cond_true,e1,vu (by omega),aq,e2]
  ·rw [hc,cond_false,e1,zm (by omega) (by omega),aq,e2]
 unfold gS;rw [oU,aq,zk (by omega),decide_eq_false (by omega),cond_false,decide_eq_false (by omega),cond_false,zm hlt (by omega),aq];rw [show (!((rk l n).Kind==(rk l n).Kind&&(rk l n).Text.toList==(rk l n).Text.toList))=false by simp,cond_false,aM,h,aq,decide_eq_false (by omega),cond_false,aM,hx,aq];unfold kR;cases hp:x.Pick with
 | false=>exact j1 _ (by unfold sr; rw [if_neg (by rw [hp]; simp)])
 | true =>
  obtain⟨_,hk⟩:=hA.pick hp;rw [cond_true,show (((ls.length:Nat):Int)==0)=false from beq_eq_false_iff_ne.2 (by omega),cond_false];have hw:IntKind.i64.wrap ((ls.length:Int)-1)=((ls.length-1:Nat):Int):=by rw [gM (by omega) (by omega)]; omega
  have hg2:=bq (l:=ls) (i:=ls.length-1) (by omega);rw [hw,aM,hg2,aq,C8,aq];have hv:=iX ls[ls.length-1];have hd:ls.getD (ls.length-1) ⟨#[]⟩=ls[ls.length-1]:=by rw [D8,hg2]; rfl
  have ht:Int.tmod (gL ls[ls.length-1]) 2=gL ls[ls.length-1] % 2:=Int.tmod_eq_emod_of_nonneg (by omega);by_cases hz:gL ls[ls.length-1] % 2=0
  ·rw [ht,hz];exact j1 _ (by unfold sr; rw [if_pos ⟨hp,.inr (by rw [hd]; exact hz)⟩])
  ·rw [ht,show (gL ls[ls.length-1] % 2==0)=false by simpa using hz];exact j1 _ (by unfold sr; rw [if_neg (by rw [hd]; rintro⟨_,h | h⟩; exact absurd h (by omega); exact hz h)])
theorem HJ (k:ah) (hk:k.Kind=31∨k.Kind=32) (ls:List ByteArray):dP l k ls=gS l k ls:=by
 unfold dP;rcases hk with h | h
 ·rw [h]; cases gS l k ls <;> rfl
 ·rw [h]; cases gS l k ls <;> rfl
theorem C2:(rk l n).Kind=31∨(rk l n).Kind=32:=by rcases qv (l:=l) (n:=n) with⟨h,_⟩|⟨h,_⟩; exact .inl h; exact .inr h
theorem xc (hR:bI l) {r:aR} (h:l[n]? = some r) {ls:List ByteArray} (hn:r.Asks.length≤ls.length) :
  dP l (rk l n) ls=some ⟨true,cj (tI r (ls.take r.Asks.length)),⟨0,⟨#[]⟩⟩⟩:=(HJ _ C2 _).trans (C6 hR h hn)
theorem zz (hR:bI l) {r:aR} (h:l[n]? = some r) {ls:List ByteArray} {x:dd} (hx:r.Asks[ls.length]? = some x) :
  dP l (rk l n) ls=some ⟨false,⟨#[]⟩,so l x ls⟩:=(HJ _ C2 _).trans (D2 hR h hx)
end
end
section
open Go.RowKit
open Go.Lib hiding intOf
section
variable {rs:List Bool}
theorem EE:∀ {a j:Nat},ZZ rs a≤j→j<a→rs[j]? = some true
 | 0,_,_,h=>absurd h (by omega)
 | a+1,j,h1,h2=>by
  rw [BC] at h1;split at h1
  ·rename_i h;rcases i6 j a with h3 | h3
   ·exact EE h1 h3
   ·have:j=a:=by omega
    rw [this]; exact h
  ·omega
theorem GT {a:Nat}:∀ {j:Nat},a≤j→(∀ i,a≤i→i<j→rs[i]? = some true)→ZZ rs j≤a
 | 0,h,_=>by have:=AQ rs 0; omega
 | j+1,h,hr=>by
  rcases i6 j a with h3 | h3
  ·have:=AQ rs (j+1); omega
  ·rw [BC,if_pos (hr j h3 (by omega))];exact GT h3 fun i h1 h2=>hr i h1 (by omega)
theorem CE:∀ {f b j:Nat},b≤j→j<Fv rs f b→rs[j]? = some true
 | 0,b,j,h1,h2=>by have:Fv rs 0 b=b:=rfl; omega
 | f+1,b,j,h1,h2=>by
  rw [CF] at h2;split at h2
  ·rename_i h;rcases Nat.eq_or_lt_of_le h1 with h3 | h3
   ·rw [← h3]; exact h
   ·exact CE h3 h2
  ·omega
def tB (rs:List Bool) (n:Nat):Nat:=(blk rs n).1
theorem uB {n:Nat} (h:rs[n]? ≠ some true):tB rs n=n:=by unfold tB blk; rw [if_neg h]
theorem wC {n:Nat} (h:rs[n]? = some true):tB rs n=ZZ rs n:=by unfold tB blk; rw [if_pos h]
theorem Ho (n:Nat):tB rs n≤n:=by
 by_cases h:rs[n]? = some true
 ·rw [wC h]; exact AQ rs n
 ·rw [uB h]; omega
theorem Cn {n j:Nat} (h:rs[n]? = some true) (h1:ZZ rs n≤j) (h2:j<Ce rs n):rs[j]? = some true:=by
 unfold Ce at h2;rw [if_pos h] at h2;unfold blk at h2;rw [if_pos h] at h2;rcases Nat.lt_trichotomy j n with h3 | h3 | h3
 ·exact EE h1 h3
 ·rw [h3]; exact h
 ·exact CE h3 h2
theorem zi {n j:Nat} (h:rs[n]? = some true) (hj:j<Ce rs n) (hp:rs[j]? ≠ some true):j<tB rs n:=by
 rw [wC h];rcases i6 j (ZZ rs n) with h3 | h3
 ·exact h3
 ·exact absurd (Cn h h3 hj) hp
theorem A1 {n j:Nat} (h:rs[n]? = some true) (hj:j<Ce rs n) (hp:rs[j]? = some true):tB rs j≤tB rs n:=by
 rw [wC h,wC hp];rcases i6 j (ZZ rs n) with h3 | h3
 ·have:=AQ rs j; omega
 ·exact GT h3 fun i h1 h2=>Cn h h1 (by omega)
theorem AW {n j:Nat} (h:rs[n]? ≠ some true) (hj:j<Ce rs n):tB rs j<tB rs n:=by
 unfold Ce at hj;rw [if_neg h] at hj;rw [uB h];have:=Ho (rs:=rs) j;omega
end
def vQ (p:Nat→Bool):Nat→Nat
 | 0=>0
 | k+1=>if p k then 2 ^ k+vQ p k else vQ p k
theorem ym (p:Nat→Bool):∀ k,vQ p k<2 ^ k
 | 0=>by simp [vQ]
 | k+1=>by
  have:=ym p k;have h2:2 ^ (k+1)=2 ^ k+2 ^ k:=by rw [zI]; omega
  unfold vQ;split <;> omega
theorem yn (p:Nat→Bool):∀ k b,(vQ p k).testBit b=(decide (b<k)&&p b)
 | 0,b=>by simp [vQ]
 | k+1,b=>by
  have ih:=yn p k b;have hlt:=ym p k;unfold vQ;rcases Nat.lt_trichotomy b k with h | h | h
  ·rw [decide_eq_true (by omega),ue];rw [decide_eq_true h,ue] at ih;split
   ·rw [Nat.testBit_two_pow_add_gt h]; exact ih
   ·exact ih
  ·subst h;rw [decide_eq_true (by omega),ue];split
   ·rename_i hp;rw [Nat.testBit_two_pow_add_eq,B8 hlt,hp]; rfl
   ·rename_i hp;rw [B8 hlt];simpa using hp
  ·rw [decide_eq_false (by omega),Bool.false_and];have h2:2 ^ (k+1)=2 ^ k+2 ^ k:=by rw [zI]; omega
   have h3:2 ^ (k+1)≤2 ^ b:=B6 (by omega) (by omega);split <;> exact B8 (by omega)
section
variable (l:List aR) (inp:ah→ByteArray)
noncomputable def sP (V:Nat→ByteArray) (x:dd) (ls:List ByteArray):ByteArray:=if x.Cell=true then inp (so l x ls) else V (sr x ls).toNat
noncomputable def qn (V:Nat→ByteArray) (r:aR):Nat→List ByteArray
 | 0=>[]
 | k+1=>match r.Asks[k]? with
  | none=>qn V r k
  | some x=>qn V r k++[sP l inp V x (qn V r k)]
inductive RB (V:Nat→ByteArray):Nat→Nat→Prop
 | own {n b:Nat} {r:aR}:l[n]? = some r→r.C.toNat.testBit b=true→RB V n b
 | ask {n b:Nat} {r:aR} {x:dd}:l[n]? = some r→x∈r.Asks→(x.Cell=true∨(bz l)[x.N.toNat]? ≠ some true)→(gL (sP l inp V x [])).toNat.testBit b=true→RB V n b
 | ring {n b:Nat} {r:aR} {x:dd}:l[n]? = some r→x∈r.Asks→x.Cell=false→(bz l)[x.N.toNat]? = some true→RB V x.N.toNat b→RB V n b
open Classical in
noncomputable def FR (V:Nat→ByteArray) (n:Nat):ByteArray:=match l[n]? with
 | none=>⟨#[]⟩
 | some r=>if r.Ring=true then cj (vQ (fun b=>decide (RB l inp V n b)) 16:Nat) else cj (tI r (qn l inp V r r.Asks.length))
noncomputable def Wd:Nat→Nat→ByteArray
 | 0=>fun _=>⟨#[]⟩
 | k+1=>fun n=>if tB (bz l) n<k then Wd k n else FR l inp (Wd k) n
noncomputable def Vd (n:Nat):ByteArray:=Wd l inp (tB (bz l) n+1) n
theorem Ju:∀ {k n:Nat},tB (bz l) n<k→Wd l inp k n=Vd l inp n
 | 0,n,h=>absurd h (by omega)
 | k+1,n,h=>by
  rcases i6 (tB (bz l) n) k with h1 | h1
  ·show (if tB (bz l) n<k then Wd l inp k n else _)=_;rw [if_pos h1];exact Ju h1
  ·obtain rfl:k=tB (bz l) n:=by omega
   rfl
variable {l inp}
theorem EP (hR:bI l) {n:Nat} {r:aR} (h:l[n]? = some r) (hr:r.Ring=true) {k:Nat} {x:dd} (hx:r.Asks[k]? = some x) (ls:List ByteArray):sr x ls=x.N:=by
 have:=(hR.each n r h).each k x hx;unfold sr;rw [if_neg];rintro⟨hp,_⟩;have:=(this.pick hp).1;rw [hr] at this; cases this
theorem nr {n:Nat} {r:aR} (h:l[n]? = some r):(bz l)[n]? = some r.Ring:=by
 have:=aV h;rw [pO this];rw [bq this] at h;rw [cR h]
theorem yh {V V':Nat→ByteArray} (hR:bI l) {n:Nat} {r:aR} (h:l[n]? = some r) (hr:r.Ring=false) (hV:∀ j,tB (bz l) j<tB (bz l) n→V j=V' j):∀ k,qn l inp V r k=qn l inp V' r k
 | 0=>rfl
 | k+1=>by
  have ih:=yh hR h hr hV k;unfold qn;cases hx:r.Asks[k]? with
  | none=>exact ih
  | some x =>
   dsimp only;rw [ih];congr 2;unfold sP;obtain⟨_,⟨hc,_⟩|⟨hc,j,hj,e1,_⟩⟩:=pv hR h hx (qn l inp V' r k)
   ·rw [if_pos hc,if_pos hc]
   ·rw [if_neg (by rw [hc]; simp),if_neg (by rw [hc]; simp),e1];exact hV _ (AW (by rw [nr h,hr]; simp) hj)
theorem Ci {V V':Nat→ByteArray} (hR:bI l) {n0:Nat} (hV:∀ j,tB (bz l) j<tB (bz l) n0→V j=V' j) {n b:Nat} (h:RB l inp V n b):(bz l)[n]? = some true→tB (bz l) n≤tB (bz l) n0→RB l inp V' n b:=by
 induction h with
 | own h1 h2=>exact fun _ _=>.own h1 h2
 | @ask n b r x h1 h2 h3 h4 =>
  intro hr hn;obtain⟨k,hk⟩:=gt.1 h2;have hrr:r.Ring=true:=by rw [nr h1] at hr; exact cR hr
  have e:=EP hR h1 hrr hk [];refine .ask h1 h2 h3 ?_;rw [← h4];congr 3;unfold sP;obtain⟨_,⟨hc,_⟩|⟨hc,j,hj,e1,_⟩⟩:=pv hR h1 hk []
  ·rw [if_pos hc,if_pos hc]
  ·rw [if_neg (by rw [hc]; simp),if_neg (by rw [hc]; simp),e1];have e2:x.N.toNat=j:=by omega
   rw [hc,e2] at h3;have hp:(bz l)[j]? ≠ some true:=by rcases h3 with h3 | h3; cases h3; exact h3
   have:=zi hr hj hp;exact (hV _ (by rw [show ((j:Nat):Int).toNat=j by omega,uB hp]; omega)).symm
 | @ring n b r x h1 h2 h3 h4 h5 ih =>
  intro hr hn;obtain⟨k,hk⟩:=gt.1 h2;have hrr:r.Ring=true:=by rw [nr h1] at hr; exact cR hr
  have e:=EP hR h1 hrr hk [];refine .ring h1 h2 h3 h4 (ih h4 ?_);obtain⟨_,⟨hc,_⟩|⟨hc,j,hj,e1,_⟩⟩:=pv hR h1 hk []
  ·rw [h3] at hc; cases hc
  ·have e2:x.N.toNat=j:=by omega
   rw [e2] at h4 ⊢;have:=A1 hr hj h4;omega
theorem Eh (hR:bI l) {n:Nat} (hn:n<l.length):Vd l inp n=FR l inp (Vd l inp) n:=by
 have hg:=bq hn;have e:Vd l inp n=FR l inp (Wd l inp (tB (bz l) n)) n:=by
  show (if tB (bz l) n<tB (bz l) n then _ else _)=_;rw [if_neg (by omega)]
 rw [e];have hV:∀ j,tB (bz l) j<tB (bz l) n→Wd l inp (tB (bz l) n) j=Vd l inp j:=fun j hj=>Ju l inp hj;unfold FR;rw [hg];dsimp only;cases hr:l[n].Ring with
 | false=>rw [if_neg (by simp),if_neg (by simp),yh hR hg hr hV]
 | true =>
  rw [if_pos rfl,if_pos rfl];have hr2:(bz l)[n]? = some true:=by rw [nr hg,hr]
  have:∀ b,RB l inp (Wd l inp (tB (bz l) n)) n b↔RB l inp (Vd l inp) n b:=fun b =>
   ⟨fun h=>Ci hR hV h hr2 (ce _),fun h=>Ci hR (fun j hj=>(hV j hj).symm) h hr2 (ce _)⟩
  congr 3;funext b;rw [decide_eq_decide];exact this b
end
structure Ee (l:List aR) (inp:ah→ByteArray) (V:Nat→ByteArray):Prop where
 plain:∀ n r,l[n]? = some r→r.Ring=false→V n=cj (tI r (qn l inp V r r.Asks.length))
 ring:∀ n r,l[n]? = some r→r.Ring=true→∃ u:Nat,V n=cj u∧u<65536∧∀ b,u.testBit b=true↔RB l inp V n b
theorem zw {u b:Nat} (h:u<65536) (ht:u.testBit b=true):b<16:=by
 rcases i6 b 16 with h1 | h1
 ·exact h1
 ·have:2 ^ 16≤2 ^ b:=B6 (by omega) h1;rw [B8 (by have:2 ^ 16=65536:=rfl; omega)] at ht;cases ht
theorem Mb {l:List aR} {inp:ah→ByteArray} {V:Nat→ByteArray} (hR:bI l) {n b:Nat} (h:RB l inp V n b):b<16:=by
 induction h with
 | own h1 h2 =>
  rename_i n b r;have hr:=hR.each _ _ h1;refine zw ?_ h2;cases hg:r.Ring with
  | true=>have:=hr.ring hg; omega
  | false=>have:=hr.plain hg; omega
 | ask h1 h2 h3 h4 =>
  refine zw ?_ h4;rename_i x;have:=iX (sP l inp V x []);omega
 | ring _ _ _ _ _ ih=>exact ih
theorem Gq {l:List aR} (inp:ah→ByteArray) (hR:bI l):Ee l inp (Vd l inp):=by
 refine⟨fun n r h hr=>?_,fun n r h hr=>?_⟩
 ·rw [Eh hR (aV h)];unfold FR;rw [h];dsimp only;rw [if_neg (by rw [hr]; simp)]
 ·classical
  rw [Eh hR (aV h)];unfold FR;rw [h];dsimp only;rw [if_pos hr];refine⟨_,rfl,ym _ 16,fun b=>?_⟩;rw [yn,pR,decide_eq_true_eq,decide_eq_true_eq];exact⟨fun h=>h.2,fun h=>⟨Mb hR h,h⟩⟩
end
section
open Go.RowKit
open Go.Lib hiding intOf
theorem GN {a b:ah} (h:a≠b):aP a b=false:=by rw [← E6]; exact fun e=>h ((o5 a b).1 e)
theorem CL (a:ah):aP a a=true:=(o5 a a).2 rfl
theorem gn {ν:Type} (k:ah) (v:ν) (m:List (ah×ν)):cV aP k (d9 aP k v m)=some v:=by rw [wd o5,CL]; rfl
theorem lh {ν:Type} {k k':ah} (h:k≠k') (v:ν) (m:List (ah×ν)):cV aP k (d9 aP k' v m)=cV aP k m:=by rw [wd o5,GN h]; rfl
def GE (b:am) (k:ah):aZ:=match b.Inputs.find? (fun x=>dU x.Key k) with | some x=>x | none=>⟨k,⟨#[]⟩,0⟩
theorem AZ {b:am} (hb:Rm b.Inputs.length) (k:ah):oQ b k=some (GE b k):=by
 unfold Rm at hb;have key:loop (fun s:Int=>gr b k s) 0=some (match b.Inputs.find? (fun x=>dU x.Key k) with | some x=>Fl.out x | none=>Fl.go ()):=by
  rcases iO (xs:=b.Inputs) (B:=fun s:Int=>gr b k s) (fun x=>dU x.Key k) (fun i=>(i:Int)) (s0:=0) rfl (y:=fun _ x=>Fl.out x) (n:=Fl.go ()) (fun i x hx hp=>by
   unfold gr;rw [cM hx,cond_true,aM,hx,aq,cc (by have:=aV hx; omega)];show cond (dU x.Key k) _ _=_;rw [hp]; rfl) (fun i x hx hp=>by
   unfold gr;rw [cM hx,cond_true,aM,hx,aq];show cond (dU x.Key k) _ _=_;rw [hp]; rfl) (by unfold gr; rw [bA]; rfl) with⟨i,x,h1,h2,h3,h4⟩|⟨h1,h2⟩
  ·rw [h4,Br (p:=fun x=>dU x.Key k) h1 h2 h3]
  ·rw [h2,A9.2 fun x hx=>by rw [h1 x hx]; simp]
 unfold oQ;rw [key];unfold GE;cases b.Inputs.find? (fun x=>dU x.Key k) <;> rfl
theorem GD {b:am} (hb:Rm b.Inputs.length) (k:ah):oP b k=some (GE b k).Value:=by
 unfold oP;rw [AZ hb]; rfl
theorem Bx:cj ((0:Nat):Int)=⟨#[48]⟩:=by
 unfold cj;rw [lf];unfold decDigits;simp
def kr (m m':List (ah×ByteArray)):Prop:=∀ k v,cV aP k m=some v→cV aP k m'=some v
theorem kr.refl (m:List (ah×ByteArray)):kr m m:=fun _ _ h=>h
theorem kr.trans {a b c:List (ah×ByteArray)} (h:kr a b) (k:kr b c):kr a c:=fun x v e=>k x v (h x v e)
theorem kr.has {a b:List (ah×ByteArray)} (h:kr a b) {k:ah} (e:cV aP k a≠none):cV aP k b≠none:=by
 cases hk:cV aP k a with
 | none=>exact absurd hk e
 | some v=>rw [h k v hk]; simp
structure sj (l:List aR) (V:Nat→ByteArray) (b:am) (s:ar):Prop where
 rules:s.Rules=l
 base:s.Base=b
 memo:∀ n,n<l.length→∀ v,cV aP (rk l n) s.Memo=some v→v=V n
 cell:∀ c,cV aP (gN c) s.Memo=none
section
variable {l:List aR} {V:Nat→ByteArray} {b:am} {inp:ah→ByteArray}
theorem sj.put {s:ar} (h:sj l V b s) {n:Nat} (hn:n<l.length) (hl:l.length≤8):sj l V b ⟨s.Rules,s.Base,d9 aP (rk l n) (V n) s.Memo,s.Seen⟩∧kr s.Memo (d9 aP (rk l n) (V n) s.Memo):=by
 refine⟨⟨h.rules,h.base,fun m hm v e=>?_,fun c=>?_⟩,fun k v e=>?_⟩
 ·by_cases hk:m=n
  ·subst hk;rw [gn] at e;exact (cR e).symm
  ·rw [lh (fun e=>hk (zj (by omega) (by omega) e))] at e;exact h.memo m hm v e
 ·rw [lh Em];exact h.cell c
 ·by_cases hk:k=rk l n
  ·subst hk;rw [gn,h.memo n hn v e]
  ·rw [lh hk,e]
def F3 (l:List aR) (x:dd):Prop:=x.Cell=true∨(bz l)[x.N.toNat]? ≠ some true
def uM (l:List aR) (V:Nat→ByteArray) (inp:ah→ByteArray) (memo0 memo:List (ah×ByteArray)) (idx:List Nat) (a:Nat→Nat) (x:dd) (v:ByteArray):Prop :=
 (F3 l x∧v=sP l inp V x [])∨(¬ F3 l x∧((cV aP (rk l x.N.toNat) memo≠none∧v=V x.N.toNat)∨(x.N.toNat∈idx∧v=cj (a x.N.toNat:Nat)∧cV aP (rk l x.N.toNat) memo0=none)))
theorem uM.mono {memo0 memo memo':List (ah×ByteArray)} {idx idx':List Nat} {a:Nat→Nat} {x:dd} {v:ByteArray} (h:uM l V inp memo0 memo idx a x v) (hg:kr memo memo') (hi:∀ i∈idx,i∈idx'):uM l V inp memo0 memo' idx' a x v:=by
 rcases h with h | ⟨h0,⟨h1,h2⟩|⟨h1,h2,h3⟩⟩
 ·exact .inl h
 ·exact .inr ⟨h0,.inl ⟨hg.has h1,h2⟩⟩
 ·exact .inr ⟨h0,.inr ⟨hi _ h1,h2,h3⟩⟩
def Vw (l:List aR) (V:Nat→ByteArray) (inp:ah→ByteArray) (memo:List (ah×ByteArray)) (a:Nat→Nat) (x:dd) (q:Nat):Prop :=
 (F3 l x∧(gL (sP l inp V x [])).toNat.testBit q=true)∨(¬ F3 l x∧((cV aP (rk l x.N.toNat) memo≠none∧RB l inp V x.N.toNat q)∨(a x.N.toNat).testBit q=true))
def Fb (l:List aR) (V:Nat→ByteArray) (inp:ah→ByteArray) (memo:List (ah×ByteArray)) (a:Nat→Nat) (i q:Nat):Prop:=∃ r,l[i]? = some r∧(r.C.toNat.testBit q=true∨∃ x∈r.Asks,Vw l V inp memo a x q)
theorem Fb.mono {memo memo':List (ah×ByteArray)} {a a':Nat→Nat} {i q:Nat} (h:Fb l V inp memo a i q) (hg:kr memo memo') (ha:∀ j q,(a j).testBit q=true→(a' j).testBit q=true):Fb l V inp memo' a' i q:=by
 obtain⟨r,h1,h2 | ⟨x,h2,h3⟩⟩:=h
 ·exact⟨r,h1,.inl h2⟩
 ·refine⟨r,h1,.inr ⟨x,h2,?_⟩⟩;rcases h3 with h3 | ⟨h0,⟨h3,h4⟩ | h3⟩
  ·exact .inl h3
  ·exact .inr ⟨h0,.inl ⟨hg.has h3,h4⟩⟩
  ·exact .inr ⟨h0,.inr (ha _ _ h3)⟩
structure xH (l:List aR) (V:Nat→ByteArray) (inp:ah→ByteArray) (n0:Nat) (memo:List (ah×ByteArray)) (m:List (ah×ByteArray)) (list:List ah) (idx:List Nat) (a:Nat→Nat):Prop where
 eq:list=idx.map (rk l)
 nd:idx.Nodup
 ring:∀ i∈idx,i<l.length∧(bz l)[i]? = some true∧tB (bz l) i≤tB (bz l) n0
 head:n0∈idx
 get:∀ i,i<l.length→cV aP (rk l i) m=if i∈idx then some (cj (a i:Nat)) else none
 zero:∀ i,i ∉ idx→a i=0
 lt:∀ i,a i<65536
 le:∀ i q,(a i).testBit q=true→RB l inp V i q
 up:∀ i∈idx,∀ q,(a i).testBit q=true→Fb l V inp memo a i q
theorem G0 {idx:List Nat} (hn:idx.Nodup) {N:Nat} (h:∀ i∈idx,i<N):idx.length≤N:=by
 have:=lX hn (m:=List.range N) fun x hx=>vG.2 (h x hx);rwa [xF] at this
theorem xH.len {n0:Nat} {memo m:List (ah×ByteArray)} {list:List ah} {idx:List Nat} {a:Nat→Nat} (h:xH l V inp n0 memo m list idx a):list.length=idx.length∧idx.length≤l.length :=
 ⟨by rw [h.eq,gc],G0 h.nd fun i hi=>(h.ring i hi).1⟩
theorem xH.grow {n0:Nat} {memo memo' m:List (ah×ByteArray)} {list:List ah} {idx:List Nat} {a:Nat→Nat} (h:xH l V inp n0 memo m list idx a) (hg:kr memo memo'):xH l V inp n0 memo' m list idx a :=
 ⟨h.eq,h.nd,h.ring,h.head,h.get,h.zero,h.lt,h.le,fun i hi q hq=>(h.up i hi q hq).mono hg fun _ _ e=>e⟩
theorem xH.add {n0:Nat} {memo m:List (ah×ByteArray)} {list:List ah} {idx:List Nat} {a:Nat→Nat} (h:xH l V inp n0 memo m list idx a) (hl:l.length≤8) {j:Nat} (hj:j<l.length) (hr:(bz l)[j]? = some true) (hk:tB (bz l) j≤tB (bz l) n0) (hn:j ∉ idx) :
  xH l V inp n0 memo (d9 aP (rk l j) ⟨#[48]⟩ m) (list++[rk l j]) (idx++[j]) a:=by
 refine⟨by rw [h.eq,sK]; rfl,?_,?_,me _ h.head,?_,fun i hi=>h.zero i fun e=>hi (me _ e),h.lt,h.le,?_⟩
 ·rw [List.nodup_append];exact⟨h.nd,by simp,fun x hx y hy=>by rw [kG.1 hy]; exact fun e=>hn (e▸hx)⟩
 ·intro i hi;rcases dc.1 hi with hi | hi
  ·exact h.ring i hi
  ·rw [kG.1 hi]; exact⟨hj,hr,hk⟩
 ·intro i hi;by_cases e:i=j
  ·subst e;rw [gn,if_pos (tw _ (kG.2 rfl)),h.zero i hn,Bx]
  ·rw [lh (fun e2=>e (zj (by omega) (by omega) e2)),h.get i hi];have:(i∈idx++[j])↔i∈idx:=by rw [dc,kG]; exact⟨fun h=>h.resolve_right e,.inl⟩
   simp only [this]
 ·intro i hi q hq;rcases dc.1 hi with hi | hi
  ·exact h.up i hi q hq
  ·rw [kG.1 hi,h.zero j hn] at hq;simp at hq
end
end
section
open Go.RowKit
open Go.Lib hiding intOf
theorem CC:∀ (xs:List Nat) (c q:Nat),(xs.foldl (· ||| ·) c).testBit q=true↔c.testBit q=true∨∃ x∈xs,x.testBit q=true
 | [],c,q=>by simp
 | x::xs,c,q=>by
  rw [E2,CC xs (c ||| x) q,Nat.testBit_or,xC];simp only [ee];constructor
  ·rintro ((h | h) | ⟨y,h1,h2⟩)
   ·exact .inl h
   ·exact .inr ⟨x,.inl rfl,h⟩
   ·exact .inr ⟨y,.inr h1,h2⟩
  ·rintro (h | ⟨y,rfl | h1,h2⟩)
   ·exact .inl (.inl h)
   ·exact .inl (.inr h2)
   ·exact .inr ⟨y,h1,h2⟩
section
variable {l:List aR} {V:Nat→ByteArray} {b:am} {inp:ah→ByteArray}
theorem GA (hR:bI l) {n:Nat} {r:aR} (h:l[n]? = some r) (hr:r.Ring=true) (ls:List ByteArray) :
  ∃ m:Nat,tI r ls=m∧m<65536∧∀ q,m.testBit q=true↔r.C.toNat.testBit q=true∨∃ v∈ls,(gL v).toNat.testBit q=true:=by
 obtain⟨h1,h2,h3⟩:=(hR.each n r h).ring hr;obtain⟨c,hc⟩:∃ c:Nat,r.C=c:=⟨r.C.toNat,by omega⟩;have e:ls.map gL=(ls.map fun s=>(gL s).toNat).map fun x:Nat=>(x:Int):=by
  rw [List.map_map];refine List.map_congr_left fun s _=>?_;have:=iX s;simp only [Function.comp];omega
 have:=Bu (ls.map fun s=>(gL s).toNat) c (fun x hx=>by
  obtain⟨s,_,rfl⟩:=io.1 hx;have:=iX s;omega) (by omega)
 refine⟨(ls.map fun s=>(gL s).toNat).foldl (· ||| ·) c,?_,this.2,fun q=>?_⟩
 ·unfold tI;dsimp only;rw [if_neg (by omega),if_neg (by omega),if_neg (by omega),if_neg (by omega),e,hc];exact this.1
 ·rw [CC,hc];rw [show ((c:Nat):Int).toNat=c from pQ c];refine or_congr Iff.rfl ⟨fun ⟨x,hx,hq⟩=>?_,fun ⟨v,hv,hq⟩=>⟨_,io.2 ⟨v,hv,rfl⟩,hq⟩⟩;obtain⟨v,hv,rfl⟩:=io.1 hx;exact⟨v,hv,hq⟩
def L7 (l:List aR) (V:Nat→ByteArray) (b:am) (inp:ah→ByteArray) (n0:Nat) (a:Nat→Nat) (i:Nat) (r:aR) (memo0:List (ah×ByteArray)) (idx0:List Nat) (ch0:Bool) (k:Nat) :
  (List (ah×ByteArray))×(List ah)×Bool×(List ByteArray)×(List aR)×Int×(List aZ)×(List ab)×(List (ah×ByteArray))×(List (ah×(List ah)))×Bool×ByteArray×Int×ByteArray→Prop
 | (m,list,ch,ws,rules,rev,inps,recs,memo,seen,d,v,ak,at_) =>
  ∃ (idx:List Nat),xH l V inp n0 memo m list idx a∧sj l V b (ar.mk rules (am.mk rev inps recs) memo seen)∧kr memo0 memo∧idx0 <+: idx∧((ch=ch0∧idx=idx0)∨(ch=true∧idx0.length<idx.length)) ∧
   ws.length=k∧(∀ q x,q<k→r.Asks[q]? = some x→∃ v,ws[q]? = some v∧uM l V inp memo0 memo idx a x v)∧dP l (rk l i) ws=some ⟨d,v,⟨ak,at_⟩⟩
def F4 (l:List aR) (V:Nat→ByteArray) (b:am) (inp:ah→ByteArray) (n0:Nat) (a:Nat→Nat) (i:Nat) (r:aR) (memo0:List (ah×ByteArray)) (idx0:List Nat) (ch0:Bool) :
  (List (ah×ByteArray))×(List ah)×Bool×(List aR)×Int×(List aZ)×(List ab)×(List (ah×ByteArray))×(List (ah×(List ah)))×Bool×ByteArray×Int×ByteArray→Prop
 | (m,list,ch,rules,rev,inps,recs,memo,seen,d,v,ak,at_) =>
  ∃ (idx:List Nat) (ws:List ByteArray),xH l V inp n0 memo m list idx a∧sj l V b (ar.mk rules (am.mk rev inps recs) memo seen)∧kr memo0 memo∧idx0 <+: idx∧((ch=ch0∧idx=idx0)∨(ch=true∧idx0.length<idx.length)) ∧
   ws.length=r.Asks.length∧(∀ (q:Nat) (x:dd),r.Asks[q]? = some x→∃ (w:ByteArray),ws[q]? = some w∧uM l V inp memo0 memo idx a x w)∧v=cj (tI r ws)
section
variable {n0:Nat} {a:Nat→Nat} {i p:Nat} {r:aR} {memo0:List (ah×ByteArray)} {idx0:List Nat} {ch0:Bool} (hR:bI l) (hi:l[i]? = some r) (hr:r.Ring=true) (hp:idx0[p]? = some i)
include hR hi
theorem uG {ws:List ByteArray} (h:ws.length≤r.Asks.length):∃ t,dP l (rk l i) ws=some t∧((ws.length=r.Asks.length∧t=⟨true,cj (tI r ws),⟨0,⟨#[]⟩⟩⟩)∨∃ x,r.Asks[ws.length]? = some x∧t=⟨false,⟨#[]⟩,so l x ws⟩):=by
 rcases i6 ws.length r.Asks.length with h1 | h1
 ·exact⟨_,zz hR hi (bq h1),.inr ⟨_,bq h1,rfl⟩⟩
 ·exact⟨_,xc hR hi h1,.inl ⟨by omega,by rw [xD (by omega)]⟩⟩
include hp
theorem MX {k:Nat} {m:List (ah×ByteArray)} {list:List ah} {ch:Bool} {ws:List ByteArray} {rules:List aR} {rev:Int} {inps:List aZ} {recs:List ab} {memo:List (ah×ByteArray)} {seen:List (ah×(List ah))} {idx:List Nat} {x:dd} {v:ByteArray}
  (h1:xH l V inp n0 memo m list idx a) (h2:sj l V b (ar.mk rules (am.mk rev inps recs) memo seen)) (h3:kr memo0 memo) (h4:idx0 <+: idx) (h5:(ch=ch0∧idx=idx0)∨(ch=true∧idx0.length<idx.length))
  (h6:ws.length=k) (h7:∀ q x,q<k→r.Asks[q]? = some x→∃ v,ws[q]? = some v∧uM l V inp memo0 memo idx a x v) (hx:r.Asks[k]? = some x) (hv:uM l V inp memo0 memo idx a x v) :
  Ok (cH p ws m list ch v rules rev inps recs memo seen) fun y=>match y with
   | .go s'=>k<r.Asks.length∧L7 l V b inp n0 a i r memo0 idx0 ch0 (k+1) s'
   | .out y=>F4 l V b inp n0 a i r memo0 idx0 ch0 y:=by
 have hk:=aV hx;have h3l:=(hR.each i r hi).asks;obtain⟨t,ht,_⟩:=uG hR hi (ws:=ws++[v]) (by rw [bL,h6]; simp; omega);have hlist:bg list (p:Int)=some (rk l i):=by
  obtain⟨u,rfl⟩:=h4;rw [aM,h1.eq,qf,lM (aV hp),hp]; rfl
 have hru:rules=l:=h2.rules;unfold cH;refine fF (dX (by simp; omega)) (aN hlist (aN (by rw [hru]; exact ht) (ap ⟨hk,idx,h1,h2,h3,h4,h5,by rw [bL,h6]; rfl,fun q y hq hy=>?_,ht⟩)));rcases i6 q k with h | h
 ·obtain⟨w,hw1,hw2⟩:=h7 q y h hy;exact⟨w,by rw [lM (aV hw1)]; exact hw1,hw2⟩
 ·obtain rfl:q=k:=by omega
  rw [hx] at hy;obtain rfl:=cR hy;exact⟨v,by rw [lN (by omega),h6]; simp,hv⟩
end
end
end
section
open Go.RowKit
open Go.Lib hiding intOf
structure Kf (l:List aR) (V:Nat→ByteArray) (b:am) (inp:ah→ByteArray) (ρ:Nat) (vrec:ar→ah→Option (ByteArray×ar)):Prop where
 rule:∀ s n,sj l V b s→n<l.length→tB (bz l) n<ρ→Ok (vrec s (rk l n)) fun y=>y.1=V n∧sj l V b y.2∧kr s.Memo y.2.Memo
 cell:∀ s c,sj l V b s→c<10→Ok (vrec s (gN c)) fun y=>y.1=inp (gN c)∧y.2=s
section
variable {l:List aR} {V:Nat→ByteArray} {b:am} {inp:ah→ByteArray} {vrec:ar→ah→Option (ByteArray×ar)}
variable {n0:Nat} {a:Nat→Nat} {i p:Nat} {r:aR} {memo0:List (ah×ByteArray)} {idx0:List Nat} {ch0:Bool} (hR:bI l) (hv:Kf l V b inp (tB (bz l) n0) vrec) (hi:l[i]? = some r) (hr:r.Ring=true) (hp:idx0[p]? = some i)
include hR hv hi hr hp
theorem MZ {k:Nat} (hk:k≤r.Asks.length):∀ s,L7 l V b inp n0 a i r memo0 idx0 ch0 k s→Ok (dF vrec p s.1 s.2.1 s.2.2.1 s.2.2.2.1 s.2.2.2.2.1 s.2.2.2.2.2.1 s.2.2.2.2.2.2.1 s.2.2.2.2.2.2.2.1 s.2.2.2.2.2.2.2.2.1 s.2.2.2.2.2.2.2.2.2.1 s.2.2.2.2.2.2.2.2.2.2.1 s.2.2.2.2.2.2.2.2.2.2.2.1 s.2.2.2.2.2.2.2.2.2.2.2.2.1 s.2.2.2.2.2.2.2.2.2.2.2.2.2) fun y=>match y with
   | .go s'=>k<r.Asks.length∧L7 l V b inp n0 a i r memo0 idx0 ch0 (k+1) s'
   | .out y=>F4 l V b inp n0 a i r memo0 idx0 ch0 y:=by
 rintro⟨m,list,ch,ws,rules,rev,inps,recs,memo,seen,d,v,ak,at_⟩ ⟨idx,h1,h2,h3,h4,h5,h6,h7,h8⟩;dsimp only;have hl8:=hR.high;obtain⟨t,ht,hcase⟩:=uG hR hi (ws:=ws) (by omega);rw [h8] at ht;obtain rfl:=cR ht;have hiI:i∈idx:=h4.subset (aG hp);unfold dF;rcases hcase with⟨e1,e2⟩|⟨x,hx,e2⟩
 ·injection e2 with ed ev ea;subst ed;simp only [eI,cond_false];exact ap ⟨idx,ws,h1,h2,h3,h4,h5,e1,fun q x hx=>h7 q x (by have:=aV hx; omega) hx,ev⟩
 ·injection e2 with ed ev ea;subst ed;rw [h6] at hx;have n1:=EP hR hi hr hx ws;have n2:=EP hR hi hr hx [];obtain⟨g0,hg⟩:=pv hR hi hx ws;simp only [nM,cond_true,aq];rw [ea];have done:∀ {m list ch rules rev inps recs memo seen} {idx:List Nat} {w:ByteArray},xH l V inp n0 memo m list idx a→sj l V b (ar.mk rules (am.mk rev inps recs) memo seen)→kr memo0 memo→idx0 <+: idx→((ch=ch0∧idx=idx0)∨(ch=true∧idx0.length<idx.length)) →
    (∀ q x,q<k→r.Asks[q]? = some x→∃ v,ws[q]? = some v∧uM l V inp memo0 memo idx a x v)→uM l V inp memo0 memo idx a x w→Ok (cH p ws m list ch w rules rev inps recs memo seen) fun y=>match y with
   | .go s'=>k<r.Asks.length∧L7 l V b inp n0 a i r memo0 idx0 ch0 (k+1) s'
   | .out y=>F4 l V b inp n0 a i r memo0 idx0 ch0 y:=fun q1 q2 q3 q4 q5 q6 q7=>MX hR hi hp q1 q2 q3 q4 q5 h6 q6 hx q7
  rcases hg with⟨hc,c,hc4,e3,e4⟩|⟨hc,j,hj,e3,e4⟩
  ·have hB:F3 l x:=.inl hc;have hA:sP l inp V x []=inp (gN c):=by
    unfold sP so;rw [if_pos hc,if_pos hc,n2,← n1,e3]; rfl
   rw [e4,h2.cell c];simp only [Option.isSome_none,cond_false];refine aN (fL _) ?_;rw [Fj];simp only [nM,cond_true];refine aL (hv.cell _ c h2 hc4) fun y hy=>?_;obtain⟨y1,y2⟩:=y;obtain⟨f1,f2⟩:=hy;simp only at f1 f2;subst f1 f2;exact done h1 h2 h3 h4 h5 h7 (.inl ⟨hB,hA.symm⟩)
  ·have hll:=yU (aV hi);have hjl:j<l.length:=by omega
   have hxj:x.N.toNat=j:=by omega
   have hri:(bz l)[i]? = some true:=by rw [nr hi,hr]
   have hio:=h1.ring i hiI;rw [e4];cases hm:cV aP (rk l j) memo with
   | some w =>
    have hw:=h2.memo j hjl w hm;simp only [Option.isSome_some,cond_true,xf];refine done h1 h2 h3 h4 h5 h7 ?_;by_cases hB:F3 l x
    ·refine .inl ⟨hB,?_⟩;unfold sP;rw [if_neg (by rw [hc]; simp),n2,hxj,hw]
    ·exact .inr ⟨hB,.inl ⟨by rw [hxj,hm]; simp,by rw [hxj,hw]⟩⟩
   | none =>
    simp only [Option.isSome_none,cond_false];refine aN (fL _) ?_;rw [EQ];by_cases hrj:(bz l)[j]? = some true
    ·have hB:¬ F3 l x:=by
      rintro (h | h)
      ·rw [hc] at h; cases h
      ·rw [hxj] at h; exact h hrj
     have hm0:cV aP (rk l x.N.toNat) memo0=none:=by
      rw [hxj];cases h0:cV aP (rk l j) memo0 with
      | none=>rfl
      | some w=>rw [h3 _ _ h0] at hm; cases hm
     rw [decide_eq_true hrj];simp only [eI,cond_false];have hg:=h1.get j hjl;by_cases hjI:j∈idx
     ·rw [if_pos hjI] at hg;rw [hg];simp only [Option.isSome_some,eI,cond_false];unfold dE;rw [ea,e4,hg];exact done h1 h2 h3 h4 h5 h7 (.inr ⟨hB,.inr ⟨by rw [hxj]; exact hjI,by rw [hxj]; rfl,hm0⟩⟩)
     ·rw [if_neg hjI] at hg;rw [hg];simp only [Option.isSome_none,nM,cond_true];have hL:jP (rk l j)=some ⟨#[48]⟩:=by
       unfold jP;rcases qv (l:=l) (n:=j) with⟨_,h⟩|⟨h,_⟩
       ·exact absurd hrj h
       ·rw [h]; rfl
      have hadd:=h1.add hl8 hjl hrj (by have:=A1 hri hj hrj; omega) hjI;have hlen:=h1.len;refine aN hL (fF (dX (by simp; omega)) ?_);unfold dE;rw [ea,e4,gn];refine done hadd h2 h3 (h4.trans (List.prefix_append _ _)) (.inr ⟨rfl,?_⟩) (fun q y hq hy=>?_) (.inr ⟨hB,.inr ⟨by rw [hxj]; exact tw _ (kG.2 rfl),?_,hm0⟩⟩)
      ·have:=h4.length_le;rw [bL]; simp; omega
      ·obtain⟨w,q1,q2⟩:=h7 q y hq hy;exact⟨w,q1,q2.mono (kr.refl _) fun _ h=>me _ h⟩
      ·rw [hxj,h1.zero j hjI,Bx]; rfl
    ·have hB:F3 l x:=.inr (by rw [hxj]; exact hrj);have hA:sP l inp V x []=V j:=by
      unfold sP;rw [if_neg (by rw [hc]; simp),n2,hxj]
     rw [decide_eq_false hrj];simp only [nM,cond_true];have hlow:=zi hri hj hrj;refine aL (hv.rule _ j h2 hjl (by rw [uB hrj]; omega)) fun y hy=>?_;obtain⟨f1,f2,f3⟩:=hy;exact done (h1.grow f3) f2 (h3.trans f3) h4 h5 (fun q y hq hy=>by
      obtain⟨w,q1,q2⟩:=h7 q y hq hy;exact⟨w,q1,q2.mono f3 fun _ h=>h⟩) (.inl ⟨hB,by rw [hA,f1]⟩)
theorem HK {m:List (ah×ByteArray)} {list:List ah} {rules:List aR} {rev:Int} {inps:List aZ} {recs:List ab} {seen:List (ah×(List ah))} (h1:xH l V inp n0 memo0 m list idx0 a) (h2:sj l V b (ar.mk rules (am.mk rev inps recs) memo0 seen)) {t:pu} (ht:dP l (rk l i) []=some t) {β:Type} {R:β→Prop} {g:_→Option β} (hg:∀ y,F4 l V b inp n0 a i r memo0 idx0 ch0 y→Ok (g y) R) :
  Ok ((loop (fun s:(List (ah×ByteArray))×(List ah)×Bool×(List ByteArray)×(List aR)×Int×(List aZ)×(List ab)×(List (ah×ByteArray))×(List (ah×(List ah)))×Bool×ByteArray×Int×ByteArray=>dF vrec p s.1 s.2.1 s.2.2.1 s.2.2.2.1 s.2.2.2.2.1 s.2.2.2.2.2.1 s.2.2.2.2.2.2.1 s.2.2.2.2.2.2.2.1 s.2.2.2.2.2.2.2.2.1 s.2.2.2.2.2.2.2.2.2.1 s.2.2.2.2.2.2.2.2.2.2.1 s.2.2.2.2.2.2.2.2.2.2.2.1 s.2.2.2.2.2.2.2.2.2.2.2.2.1 s.2.2.2.2.2.2.2.2.2.2.2.2.2) (m,list,ch0,[],rules,rev,inps,recs,memo0,seen,t.Done,t.Value,t.Ask.Kind,t.Ask.Text)).bind g) R:=by
 refine bG (L7 l V b inp n0 a i r memo0 idx0 ch0) (F4 l V b inp n0 a i r memo0 idx0 ch0) r.Asks.length ?_ (fun k s hk hI=>(MZ hR hv hi hr hp hk s hI).mono fun y hy=>by cases y <;> exact hy) hg;exact⟨idx0,h1,h2,kr.refl _,List.prefix_refl _,.inl ⟨rfl,rfl⟩,rfl,fun q x hq=>absurd hq (by omega),ht⟩
end
end
section
open Go.RowKit
open Go.Lib hiding intOf
def w9 (a:Nat→Nat):Nat→Nat
 | 0=>0
 | n+1=>w9 a n+a n
theorem EV {a a':Nat→Nat} (h:∀ j,a j≤a' j):∀ n,w9 a n≤w9 a' n
 | 0=>ce _
 | n+1=>Nat.add_le_add (EV h n) (h n)
theorem EW {a a':Nat→Nat} (h:∀ j,a j≤a' j) {i:Nat} (hi:a i<a' i):∀ n,i<n→w9 a n<w9 a' n
 | 0,h0=>absurd h0 (by omega)
 | n+1,h0=>by
  have h1:=h n;have h2:=EV h n;show w9 a n+a n<w9 a' n+a' n;rcases i6 i n with h3 | h3
  ·have:=EW h hi n h3; omega
  ·obtain rfl:i=n:=by omega
   omega
theorem zu {a:Nat→Nat} (h:∀ j,a j<65536):∀ n,w9 a n≤n*65536
 | 0=>by simp [w9]
 | n+1=>by
  have:=zu h n;have:=h n;show w9 a n+a n≤_;omega
theorem H8 {a m:Nat} (h:∀ q,a.testBit q=true→m.testBit q=true):a≤m:=by
 have:a &&& m=a:=by
  apply Nat.eq_of_testBit_eq;intro q;rw [Nat.testBit_and];cases ha:a.testBit q with
  | false=>rfl
  | true=>rw [h q ha]; rfl
 rw [← this];exact Nat.and_le_right
section
variable {l:List aR} {V:Nat→ByteArray} {b:am} {inp:ah→ByteArray} {vrec:ar→ah→Option (ByteArray×ar)}
def ZY (l:List aR) (V:Nat→ByteArray) (inp:ah→ByteArray) (idx:List Nat) (a:Nat→Nat) (i:Nat):Prop :=
 ∃ r,l[i]? = some r∧(∀ q,r.C.toNat.testBit q=true→(a i).testBit q=true)∧∀ x∈r.Asks,(F3 l x→∀ q,(gL (sP l inp V x [])).toNat.testBit q=true→(a i).testBit q=true) ∧
  (¬ F3 l x→(∀ q,RB l inp V x.N.toNat q→(a i).testBit q=true)∨(x.N.toNat∈idx∧∀ q,(a x.N.toNat).testBit q=true→(a i).testBit q=true))
theorem DG {idx:List Nat} {a:Nat→Nat} (hc:∀ i∈idx,ZY l V inp idx a i) {i q:Nat} (h:RB l inp V i q):i∈idx→(a i).testBit q=true:=by
 induction h with
 | own h1 h2 =>
  intro hi;obtain⟨r,g1,g2,g3⟩:=hc _ hi;rw [h1] at g1;obtain rfl:=cR g1;exact g2 _ h2
 | ask h1 h2 h3 h4 =>
  intro hi;obtain⟨r,g1,g2,g3⟩:=hc _ hi;rw [h1] at g1;obtain rfl:=cR g1;exact (g3 _ h2).1 h3 _ h4
 | ring h1 h2 h3 h4 h5 ih =>
  intro hi;obtain⟨r,g1,g2,g3⟩:=hc _ hi;rw [h1] at g1;obtain rfl:=cR g1;rcases (g3 _ h2).2 (by rintro (h | h); rw [h3] at h; cases h; exact h h4) with h | ⟨h,k⟩
  ·exact h _ h5
  ·exact k _ (ih h)
theorem vU (hR:bI l) (hD:Ee l inp V) {j:Nat} (hj:(bz l)[j]? = some true):∃ u:Nat,V j=cj u∧u<65536∧(gL (V j)).toNat=u∧∀ q,u.testBit q=true↔RB l inp V j q:=by
 have hl:j<l.length:=by have:=aV hj; unfold bz at this; rwa [gc] at this
 have hg:=bq hl;obtain⟨u,h1,h2,h3⟩:=hD.ring j l[j] hg (by rw [pO hl] at hj; exact cR hj);exact⟨u,h1,h2,by rw [h1,wG h2]; omega,h3⟩
theorem zC {n:Nat} (h:n<65536):(gL (cj (n:Int))).toNat=n:=by rw [wG h]; omega
theorem DN {x:dd} (h:¬ F3 l x):x.Cell=false∧(bz l)[x.N.toNat]? = some true:=by
 constructor
 ·cases hc:x.Cell with
  | false=>rfl
  | true=>exact absurd (.inl hc) h
 ·exact u6 fun e=>h (.inr e)
theorem xH.set {n0:Nat} {memo m:List (ah×ByteArray)} {list:List ah} {idx:List Nat} {a:Nat→Nat} (h:xH l V inp n0 memo m list idx a) (hl:l.length≤8) {i u:Nat} (hi:i∈idx) (hu:u<65536) (hlow:∀ q,(a i).testBit q=true→u.testBit q=true) (hRB:∀ q,u.testBit q=true→RB l inp V i q) (hF:∀ q,u.testBit q=true→Fb l V inp memo a i q) :
  xH l V inp n0 memo (d9 aP (rk l i) (cj (u:Int)) m) list idx (fun j=>if j=i then u else a j):=by
 have hmono:∀ j q,(a j).testBit q=true→(if j=i then u else a j).testBit q=true:=by
  intro j q hq;by_cases e:j=i
  ·rw [if_pos e]; rw [e] at hq; exact hlow q hq
  ·rw [if_neg e]; exact hq
 refine⟨h.eq,h.nd,h.ring,h.head,fun j hj=>?_,fun j hj=>?_,fun j=>?_,fun j q hq=>?_,fun j hj q hq=>?_⟩
 ·by_cases e:j=i
  ·subst e;rw [gn,if_pos hi,if_pos rfl]
  ·rw [lh (fun e2=>e (zj (by omega) (by have:=(h.ring i hi).1; omega) e2)),h.get j hj];simp only [if_neg e]
 ·have:j≠i:=fun e=>hj (e▸hi);show (if j=i then u else a j)=0;rw [if_neg this]; exact h.zero j hj
 ·show (if j=i then u else a j)<65536;split
  ·exact hu
  ·exact h.lt j
 ·by_cases e:j=i
  ·rw [if_pos e] at hq; rw [e]; exact hRB q hq
  ·rw [if_neg e] at hq; exact h.le j q hq
 ·by_cases e:j=i
  ·rw [if_pos e] at hq; rw [e]; exact (hF q hq).mono (kr.refl _) hmono
  ·rw [if_neg e] at hq; exact (h.up j hj q hq).mono (kr.refl _) hmono
section
variable {n0:Nat} {a:Nat→Nat} {i:Nat} {r:aR} {memo0 memo m m0:List (ah×ByteArray)} {idx0 idx:List Nat} {list list0:List ah} {ws:List ByteArray} {u:Nat} (hR:bI l) (hD:Ee l inp V) (hi:l[i]? = some r) (hr:r.Ring=true)
 (h0:xH l V inp n0 memo0 m0 list0 idx0 a) (h1:xH l V inp n0 memo m list idx a) (hiI:i∈idx0) (hlen:ws.length=r.Asks.length) (hans:∀ (q:Nat) (x:dd),r.Asks[q]? = some x→∃ (w:ByteArray),ws[q]? = some w∧uM l V inp memo0 memo idx a x w)
 (hu:∀ q,u.testBit q=true↔r.C.toNat.testBit q=true∨∃ v∈ws,(gL v).toNat.testBit q=true)
include hR hD hi h0 h1 hiI hlen hans hu
omit hlen in
theorem I0 (q:Nat) (hq:(a i).testBit q=true):u.testBit q=true:=by
 obtain⟨r',g1,g2⟩:=h0.up i hiI q hq;rw [hi] at g1;obtain rfl:=cR g1;rcases g2 with g2 | ⟨x,g2,g3⟩
 ·exact (hu q).2 (.inl g2)
 ·obtain⟨k,hk⟩:=gt.1 g2;obtain⟨w,w1,w2⟩:=hans k x hk;refine (hu q).2 (.inr ⟨w,aG w1,?_⟩);rcases w2 with⟨w2,rfl⟩|⟨w2,w3⟩
  ·rcases g3 with⟨_,g3⟩|⟨g3,_⟩
   ·exact g3
   ·exact absurd w2 g3
  ·obtain⟨u',d1,d2,d3,d4⟩:=vU hR hD (DN w2).2;rcases g3 with⟨g3,_⟩|⟨_,g3⟩
   ·exact absurd g3 w2
   ·rcases w3 with⟨_,rfl⟩|⟨_,rfl,w5⟩
    ·rw [d3,d4];rcases g3 with⟨_,g3⟩ | g3
     ·exact g3
     ·exact h1.le _ _ g3
    ·rw [zC (h1.lt _)];rcases g3 with⟨g3,_⟩ | g3
     ·exact absurd w5 g3
     ·exact g3
omit h0 hiI in
theorem Lx (q:Nat) (hq:u.testBit q=true):RB l inp V i q∧Fb l V inp memo a i q:=by
 rcases (hu q).1 hq with g | ⟨w,g1,g2⟩
 ·exact⟨.own hi g,r,hi,.inl g⟩
 ·obtain⟨k,hk⟩:=gt.1 g1;have hk2:=aV hk;have hx:=bq (l:=r.Asks) (i:=k) (by omega);obtain⟨w',w1,w2⟩:=hans k _ hx;rw [hk] at w1;obtain rfl:=cR w1;have hm:=aG hx;rcases w2 with⟨w2,rfl⟩|⟨w2,w3⟩
  ·exact⟨.ask hi hm w2 g2,r,hi,.inr ⟨_,hm,.inl ⟨w2,g2⟩⟩⟩
  ·obtain⟨u',d1,d2,d3,d4⟩:=vU hR hD (DN w2).2;rcases w3 with⟨w3,rfl⟩|⟨_,rfl,w5⟩
   ·rw [d3,d4] at g2;exact⟨.ring hi hm (DN w2).1 (DN w2).2 g2,r,hi,.inr ⟨_,hm,.inr ⟨w2,.inl ⟨w3,g2⟩⟩⟩⟩
   ·rw [zC (h1.lt _)] at g2;exact⟨.ring hi hm (DN w2).1 (DN w2).2 (h1.le _ _ g2),r,hi,.inr ⟨_,hm,.inr ⟨w2,.inr g2⟩⟩⟩
omit h0 hiI hlen in
theorem Lw (hau:a i=u):ZY l V inp idx a i:=by
 refine⟨r,hi,fun q hq=>?_,fun x hx=>?_⟩
 ·rw [hau]; exact (hu q).2 (.inl hq)
 ·obtain⟨k,hk⟩:=gt.1 hx;obtain⟨w,w1,w2⟩:=hans k x hk;have hw:∀ q,(gL w).toNat.testBit q=true→(a i).testBit q=true:=fun q hq=>by
   rw [hau]; exact (hu q).2 (.inr ⟨w,aG w1,hq⟩)
  rcases w2 with⟨w2,rfl⟩|⟨w2,w3⟩
  ·exact⟨fun _ q hq=>hw q hq,fun h=>absurd w2 h⟩
  ·obtain⟨u',d1,d2,d3,d4⟩:=vU hR hD (DN w2).2;refine⟨fun h=>absurd h w2,fun _=>?_⟩;rcases w3 with⟨_,rfl⟩|⟨w3,rfl,_⟩
   ·exact .inl fun q hq=>hw q (by rw [d3,d4]; exact hq)
   ·exact .inr ⟨w3,fun q hq=>hw q (by rw [zC (h1.lt _)]; exact hq)⟩
end
end
end
section
open Go.RowKit
open Go.Lib hiding intOf
section
variable {l:List aR} {V:Nat→ByteArray} {b:am} {inp:ah→ByteArray} {vrec:ar→ah→Option (ByteArray×ar)}
def mu (l:List aR) (idx:List Nat) (a:Nat→Nat):Nat:=idx.length+w9 a l.length
def Jm (l:List aR) (V:Nat→ByteArray) (b:am) (inp:ah→ByteArray) (n0:Nat) (memo1:List (ah×ByteArray)) (idx1:List Nat) (a1:Nat→Nat) (k:Nat) :
  (List (ah×ByteArray))×(List ah)×Bool×Int×(List aR)×Int×(List aZ)×(List ab)×(List (ah×ByteArray))×(List (ah×(List ah)))→Prop
 | (m,list,ch,p,rules,rev,inps,recs,memo,seen) =>
  ∃ (idx:List Nat) (a:Nat→Nat),p=(k:Int)∧k≤idx.length∧xH l V inp n0 memo m list idx a∧sj l V b (ar.mk rules (am.mk rev inps recs) memo seen)∧kr memo1 memo ∧
   ((ch=false∧idx=idx1∧a=a1∧∀ (q i:Nat),q<k→idx[q]? = some i→ZY l V inp idx a i)∨(ch=true∧mu l idx1 a1<mu l idx a))
def Jo (l:List aR) (V:Nat→ByteArray) (b:am) (inp:ah→ByteArray) (n0:Nat) (memo1:List (ah×ByteArray)) (idx1:List Nat) (a1:Nat→Nat) :
  (List (ah×ByteArray))×(List ah)×Bool×(List aR)×Int×(List aZ)×(List ab)×(List (ah×ByteArray))×(List (ah×(List ah)))→Prop
 | (m,list,ch,rules,rev,inps,recs,memo,seen) =>
  ∃ (idx:List Nat) (a:Nat→Nat),xH l V inp n0 memo m list idx a∧sj l V b (ar.mk rules (am.mk rev inps recs) memo seen)∧kr memo1 memo ∧
   ((ch=false∧∀ i∈idx,ZY l V inp idx a i)∨(ch=true∧mu l idx1 a1<mu l idx a))
section
variable {n0:Nat} {memo1:List (ah×ByteArray)} {idx1:List Nat} {a1:Nat→Nat} (hR:bI l) (hD:Ee l inp V) (hv:Kf l V b inp (tB (bz l) n0) vrec)
include hR hD hv
theorem Lr {k:Nat} (hk:k≤l.length):∀ s,Jm l V b inp n0 memo1 idx1 a1 k s→Ok (eF vrec s.1 s.2.1 s.2.2.1 s.2.2.2.1 s.2.2.2.2.1 s.2.2.2.2.2.1 s.2.2.2.2.2.2.1 s.2.2.2.2.2.2.2.1 s.2.2.2.2.2.2.2.2.1 s.2.2.2.2.2.2.2.2.2) fun y=>match y with
   | .go s'=>k<l.length∧Jm l V b inp n0 memo1 idx1 a1 (k+1) s'
   | .out y=>Jo l V b inp n0 memo1 idx1 a1 y:=by
 rintro⟨m,list,ch,p,rules,rev,inps,recs,memo,seen⟩ ⟨idx,a,rfl,hkl,h1,h2,h3,h4⟩;dsimp only;have hl8:=hR.high;obtain⟨len1,len2⟩:=h1.len;unfold eF;refine aC (fun hb=>?_) (fun hb=>?_)
 ·have hlt:k<idx.length:=by have:=of_decide_eq_true hb; omega
  have hp:=bq hlt;have hiI:=aG hp;generalize idx[k]=i at hp hiI;obtain⟨hil,hir,hio⟩:=h1.ring i hiI;have hi:=bq hil;generalize l[i]=r at hi;have hr:r.Ring=true:=by rw [nr hi] at hir; exact cR hir
  obtain⟨t,ht,_⟩:=uG hR hi (ws:=[]) (by simp);have hget:bg list ((k:Nat):Int)=some (rk l i):=by rw [aM,h1.eq,qf,hp]; rfl
  have hru:rules=l:=h2.rules;refine aN hget (aN (by rw [hru]; exact ht) ?_);unfold gh;refine HK hR hv hi hr hp h1 h2 ht ?_;rintro⟨m',list',ch',rules',rev',inps',recs',memo',seen',d',v',ak',at'⟩ ⟨idx',ws,g1,g2,g3,g4,g5,g6,g7,g8⟩;dsimp only;obtain⟨u,hu1,hu2,hu3⟩:=GA hR hi hr ws;rw [hu1] at g8;subst g8;have hp':idx'[k]? = some i:=by
   obtain⟨z,rfl⟩:=g4;rw [lM hlt]; exact hp
  have hiI':i∈idx':=g4.subset hiI;have hget':bg list' ((k:Nat):Int)=some (rk l i):=by rw [aM,g1.eq,qf,hp']; rfl
  have hm:=g1.get i hil;rw [if_pos hiI'] at hm;have hlen':=g4.length_le;have hk1:k+1≤idx'.length:=aV hp';have hwr:IntKind.i64.wrap ((k:Int)+1)=((k+1:Nat):Int):=cc (by omega);unfold eX;refine aN hget' ?_;rw [hm];simp only [xf,aq];by_cases e:a i=u
  ·rw [e,show ((cj (u:Int)).toList==(cj (u:Int)).toList)=true by simp];simp only [eI,cond_false];unfold dD;rw [hwr];refine ap ⟨by omega,idx',a,rfl,hk1,g1,g2,h3.trans g3,?_⟩;rcases g5 with⟨e1,e2⟩|⟨e1,e2⟩
   ·subst e1 e2;rcases h4 with⟨q1,q2,q3,q4⟩|⟨q1,q2⟩
    ·refine .inl ⟨q1,q2,q3,fun q j hq hj=>?_⟩;rcases i6 q k with hq2 | hq2
     ·exact q4 q j hq2 hj
     ·obtain rfl:q=k:=by omega
      rw [hp'] at hj;obtain rfl:=cR hj;exact Lw hR hD hi g1 g7 hu3 e
    ·exact .inr ⟨q1,q2⟩
   ·refine .inr ⟨e1,?_⟩;unfold mu at h4 ⊢;rcases h4 with⟨q1,q2,q3,q4⟩|⟨q1,q2⟩
    ·rw [← q2,← q3]; omega
    ·omega
  ·have hne:((cj ((a i:Nat):Int)).toList==(cj (u:Int)).toList)=false:=by
    rw [beq_eq_false_iff_ne];exact fun h=>e (AK (g1.lt i) hu2 (toList_inj h))
   rw [hne];simp only [nM,cond_true];refine aN hget' ?_;unfold dD;rw [hwr];have hlow:=I0 hR hD hi h1 g1 hiI g7 hu3;have hup:=Lx hR hD hi g1 g6 g7 hu3;have pX:=g1.set hl8 hiI' hu2 hlow (fun q hq=>(hup q hq).1) (fun q hq=>(hup q hq).2);refine ap ⟨by omega,idx',_,rfl,hk1,pX,g2,h3.trans g3,.inr ⟨rfl,?_⟩⟩;have hle:a i≤u:=H8 hlow;have hs:w9 a l.length<w9 (fun j=>if j=i then u else a j) l.length:=by
    refine EW (i:=i) (fun j=>?_) ?_ _ hil
    ·show a j≤if j=i then u else a j;split
     ·rename_i hj; rw [hj]; exact hle
     ·exact ce _
    ·show a i<if i=i then u else a i;rw [if_pos rfl]; omega
   unfold mu at h4 ⊢;rcases h4 with⟨q1,q2,q3,q4⟩|⟨q1,q2⟩
   ·rw [← q2,← q3]; omega
   ·omega
 ·have hge:¬ k<idx.length:=by have:=of_decide_eq_false hb; omega
  refine ap ⟨idx,a,h1,h2,h3,?_⟩;rcases h4 with⟨q1,q2,q3,q4⟩|⟨q1,q2⟩
  ·refine .inl ⟨q1,fun i hi=>?_⟩;obtain⟨q,hq⟩:=gt.1 hi;exact q4 q i (by have:=aV hq; omega) hq
  ·exact .inr ⟨q1,q2⟩
def Io (l:List aR) (V:Nat→ByteArray) (b:am) (inp:ah→ByteArray) (n0:Nat) (memo1:List (ah×ByteArray)) (k:Nat) :
  (List (ah×ByteArray))×(List ah)×Bool×(List aR)×Int×(List aZ)×(List ab)×(List (ah×ByteArray))×(List (ah×(List ah)))→Prop
 | (m,list,ch,rules,rev,inps,recs,memo,seen) =>
  ∃ (idx:List Nat) (a:Nat→Nat),xH l V inp n0 memo m list idx a∧sj l V b (ar.mk rules (am.mk rev inps recs) memo seen)∧kr memo1 memo ∧
   ((ch=false∧∀ i∈idx,ZY l V inp idx a i)∨(ch=true∧k≤mu l idx a))
def Fo (l:List aR) (V:Nat→ByteArray) (b:am) (inp:ah→ByteArray) (n0:Nat) (memo1:List (ah×ByteArray)) :
  (List (ah×ByteArray))×(List ah)×(List aR)×Int×(List aZ)×(List ab)×(List (ah×ByteArray))×(List (ah×(List ah)))→Prop
 | (m,list,rules,rev,inps,recs,memo,seen) =>
  ∃ (idx:List Nat) (a:Nat→Nat),xH l V inp n0 memo m list idx a∧sj l V b (ar.mk rules (am.mk rev inps recs) memo seen)∧kr memo1 memo∧∀ i∈idx,ZY l V inp idx a i
omit hD hv in
theorem GY {memo m:List (ah×ByteArray)} {list:List ah} {idx:List Nat} {a:Nat→Nat} (h:xH l V inp n0 memo m list idx a):mu l idx a≤600000:=by
 have:=zu h.lt l.length;have:=h.len.2;have:=hR.high;unfold mu;omega
theorem Ls {k:Nat}:∀ s,Io l V b inp n0 memo1 k s→Ok (eG vrec s.1 s.2.1 s.2.2.1 s.2.2.2.1 s.2.2.2.2.1 s.2.2.2.2.2.1 s.2.2.2.2.2.2.1 s.2.2.2.2.2.2.2.1 s.2.2.2.2.2.2.2.2) fun y=>match y with
   | .go s'=>k<600001∧Io l V b inp n0 memo1 (k+1) s'
   | .out y=>Fo l V b inp n0 memo1 y:=by
 rintro⟨m,list,ch,rules,rev,inps,recs,memo,seen⟩ ⟨idx,a,h1,h2,h3,h4⟩;dsimp only;unfold eG;refine aC (fun hb=>?_) (fun hb=>?_)
 ·subst hb;have h5:k≤mu l idx a:=by
   rcases h4 with⟨h,_⟩|⟨_,h⟩
   ·cases h
   ·exact h
  have hbd:=GY hR h1;refine bG (Jm l V b inp n0 memo idx a) (Jo l V b inp n0 memo idx a) l.length ⟨idx,a,rfl,fE _,h1,h2,kr.refl _,.inl ⟨rfl,rfl,rfl,fun q i hq=>absurd hq (by omega)⟩⟩
   (fun k s hk hI=>(Lr hR hD hv hk s hI).mono fun y hy=>by cases y <;> exact hy) ?_
  rintro⟨m',list',ch',rules',rev',inps',recs',memo',seen'⟩ ⟨idx',a',g1,g2,g3,g4⟩;refine ap ⟨by omega,idx',a',g1,g2,h3.trans g3,?_⟩;rcases g4 with⟨q1,q2⟩|⟨q1,q2⟩
  ·exact .inl ⟨q1,q2⟩
  ·exact .inr ⟨q1,by omega⟩
 ·subst hb;refine ap ⟨idx,a,h1,h2,h3,?_⟩;rcases h4 with⟨_,h⟩|⟨h,_⟩
  ·exact h
  ·cases h
omit hv in
theorem Gz {m list memo idx a} (h1:xH l V inp n0 memo m list idx a) (hc:∀ i∈idx,ZY l V inp idx a i) {i:Nat} (hi:i∈idx):cj ((a i:Nat):Int)=V i:=by
 obtain⟨u,d1,d2,d3,d4⟩:=vU hR hD (h1.ring i hi).2.1;rw [d1];congr 2;apply Nat.eq_of_testBit_eq;intro q;rw [Bool.eq_iff_iff,d4];exact⟨h1.le i q,fun h=>DG hc h hi⟩
theorem HC {s:ar} (hs:sj l V b s) (hn:n0<l.length) (hr0:(bz l)[n0]? = some true) :
  Ok (gX vrec s (rk l n0)) fun s'=>sj l V b s'∧kr s.Memo s'.Memo∧cV aP (rk l n0) s'.Memo=some (V n0):=by
 have hl8:=hR.high;have hL:jP (rk l n0)=some ⟨#[48]⟩:=by
  unfold jP;rcases qv (l:=l) (n:=n0) with⟨_,h⟩|⟨h,_⟩
  ·exact absurd hr0 h
  ·rw [h]; rfl
 unfold gX;refine aN hL ?_;unfold gj;have hA:xH l V inp n0 s.Memo (d9 aP (rk l n0) ⟨#[48]⟩ []) [rk l n0] [n0] (fun _=>0):=by
  refine⟨rfl,by simp,fun i hi=>?_,kG.2 rfl,fun i hi=>?_,fun _ _=>rfl,fun _=>by simp,fun i q hq=>by simp at hq,fun i _ q hq=>by simp at hq⟩
  ·rw [kG.1 hi]; exact⟨hn,hr0,ce _⟩
  ·by_cases e:i=n0
   ·subst e;rw [gn,if_pos (kG.2 rfl),Bx]
   ·rw [lh (fun e2=>e (zj (by omega) (by omega) e2)),if_neg (by simpa using e)]; rfl
 refine bG (Io l V b inp n0 s.Memo) (Fo l V b inp n0 s.Memo) 600001 ⟨[n0],fun _=>0,hA,hs,kr.refl _,.inr ⟨rfl,fE _⟩⟩
  (fun k s hk hI=>(Ls hR hD hv s hI).mono fun y hy=>by cases y <;> exact hy) ?_
 rintro⟨m,list,rules,rev,inps,recs,memo,seen⟩ ⟨idx,a,h1,h2,h3,h4⟩;obtain⟨len1,len2⟩:=h1.len;dsimp only;unfold eW;refine bG (fun (k:Nat) (st:Int×List (ah×ByteArray))=>st.1=k∧k≤idx.length∧sj l V b (ar.mk rules (am.mk rev inps recs) st.2 seen)∧kr s.Memo st.2∧∀ (q i:Nat),q<k→idx[q]? = some i→cV aP (rk l i) st.2=some (V i))
  (fun memo'=>sj l V b (ar.mk rules (am.mk rev inps recs) memo' seen)∧kr s.Memo memo'∧cV aP (rk l n0) memo'=some (V n0)) idx.length ⟨rfl,fE _,h2,h3,fun q i hq=>absurd hq (by omega)⟩ ?_ ?_
 ·rintro k ⟨p,memo'⟩ hk ⟨rfl,_,g1,g2,g3⟩;dsimp only;unfold ic;refine aC (fun hb=>?_) (fun hb=>?_)
  ·have hlt:k<idx.length:=by have:=of_decide_eq_true hb; omega
   have hp:=bq hlt;have hiI:=aG hp;generalize idx[k]=i at hp hiI;obtain⟨hil,_⟩:=h1.ring i hiI;have hget:bg list ((k:Nat):Int)=some (rk l i):=by rw [aM,h1.eq,qf,hp]; rfl
   refine aN hget ?_;have hm:=h1.get i hil;rw [if_pos hiI,Gz hR hD h1 h4 hiI] at hm;rw [hm];simp only [xf,aq];obtain⟨p1,p2⟩:=g1.put hil hl8;refine ap ⟨hlt,cc (by omega),hlt,p1,g2.trans p2,fun q j hq hj=>?_⟩;rcases i6 q k with hq2 | hq2
   ·exact p2 _ _ (g3 q j hq2 hj)
   ·obtain rfl:q=k:=by omega
    rw [hp] at hj;obtain rfl:=cR hj;exact gn _ _ _
  ·have hge:¬ k<idx.length:=by have:=of_decide_eq_false hb; omega
   obtain⟨q,hq⟩:=gt.1 h1.head;exact ap ⟨g1,g2,g3 q n0 (by have:=aV hq; omega) hq⟩
 ·rintro memo' ⟨g1,g2,g3⟩;exact ap ⟨g1,g2,g3⟩
end
end
end
section
open Go.RowKit
set_option maxRecDepth 100000 in
set_option maxHeartbeats 4000000 in
theorem z6 (T:Nat→Prop) (W0:World) (hT:∀ k,T k→k<W0.heap.size) (hD:vL T W0 []) (g:(List bv)) (H:Value) (b1:aD ax (dT T []) W0 H g) (y:(List bv)) (hM:dW g=some y) (K:bv) (X:bg y (IntKind.i64.wrap ((y.length:Int)-1))=some K):bc aQ (MD []) 134 [H] W0 (fun v w'=>∃ (cl:bh) (P:Value) (N:bh) (Q:Value) (O:bh),aB (HR ax) (dT T [.own v 150 ax.size cl,.own P 31 ac.size N,.own Q 9 aS.str.size O]) w' cl (fi y (IntKind.i64.wrap ((y.length:Int)-1)) [aj K.Key.Kind,a8 K.Key.Text,.bool K.Running,aj K.At,P,Q])∧aB ac (dT T [.own v 150 ax.size cl,.own P 31 ac.size N,.own Q 9 aS.str.size O]) w' N K.Reads∧aB aS.str (dT T [.own v 150 ax.size cl,.own P 31 ac.size N,.own Q 9 aS.str.size O]) w' O K.Answers∧nO W0 w' [] [.own v 150 ax.size cl,.own P 31 ac.size N,.own Q 9 aS.str.size O]):=by
 refine gg (c:=_) Tryz.func134 rfl T 26 Tryz.ntmps134 hT rfl hD fun a hS=>?_;replace hS:=hS.fact (aK ax H g) b1;unfold dW at hM;refine rq fun K26 a4=>?_;refine qa hS fun a hS=>?_;refine rz (a4 _ _ ?_);refine rq fun K27 a5=>?_;refine qa hS fun a hS=>?_;refine rz (a5 _ _ ?_);refine aJ (J:=fun a w=>∃ (M:(List bv)) (I:Value) (t:(bh)) (G:List bv) (j:bv) (C:Value) (z:bh) (D:Value) (A:bh),M=G++[j]∧St W0 (MD []) T 26 [(3,I)] [.own I 150 ax.size t,.own C 31 ac.size z,.own D 9 aS.str.size A] [ao (HR ax) t (yS G [aj j.Key.Kind,a8 j.Key.Text,.bool j.Running,aj j.At,C,D]),ao ac z j.Reads,ao aS.str A j.Answers] a w∧cL M=some y) ?_ ?_
 ·skip;refine rq fun K40 af=>?_;refine qm hS fun a hS=>?_;refine qy hS (J5 (R:=ax) (xs:=g) hS tY rfl 0 rfl) fun a hS=>?_;refine qm hS fun a hS=>?_;refine rz (af _ _ ?_);refine wp_block ?_;replace hS:=hS.nilRow ax 150 (by decide);obtain⟨r1,b0,hMo1⟩:=bd hM;refine bB (fun s:(List bv)×Int=>bR g s.1 s.2) (fun s a w=>∃ (e:(List bv)) (f:Int) (q:Value) (o:(bh)),(e,f)=s∧((e=[]∧St W0 (MD []) T 26 [(3,q),(6,H),(7,aj (g.length:Int)),(8,aj f)] [.own q 150 ax.size o] [ao ax o e,aK ax H g] a w)∨∃ (G:List bv) (j:bv) (C:Value) (z:bh) (D:Value) (A:bh),e=G++[j]∧St W0 (MD []) T 26 [(3,q),(6,H),(7,aj (g.length:Int)),(8,aj f)] [.own q 150 ax.size o,.own C 31 ac.size z,.own D 9 aS.str.size A] [ao (HR ax) o (yS G [aj j.Key.Kind,a8 j.Key.Text,.bool j.Running,aj j.At,C,D]),ao ac z j.Reads,ao aS.str A j.Answers,aK ax H g] a w)) b0 ⟨([]:List bv),0,(.slice none 0 0),([]),rfl,.inl ⟨rfl,(hS.meet [0] (by decide) ⟨rfl,rfl,rfl,rfl,trivial⟩ ⟨rfl,trivial⟩ ⟨⟨0,rfl⟩,⟨1,rfl⟩,trivial⟩)⟩⟩ ?_;rintro s a w Z ⟨e,f,q,o,rfl,W⟩ hM hf1;by_cases hlt:f<(g.length:Int)
  ·skip;have hS:St W0 (MD []) T 26 [(3,q),(6,H),(7,aj (g.length:Int)),(8,aj f)] [.own q 150 ax.size o] [ao ax o e,aK ax H g] a w:=by
    rcases W with⟨_,hS⟩|⟨G,j,C,z,D,A,ho,hS⟩
    · exact hS
    replace hS:=(hS.freeze (R:=ac) 1 rfl 1 rfl).freeze (R:=aS.str) 1 rfl 3 rfl;replace hS:=hS.closeLast (R:=ax) (x:=j) 2 rfl ⟨_,_,rfl,hS.get 1 rfl,hS.get 0 rfl⟩;rw [← ho] at hS;exact hS.meet [0] (by decide) ⟨rfl,rfl,rfl,rfl,trivial⟩ ⟨rfl,trivial⟩ ⟨⟨0,rfl⟩,⟨6,rfl⟩,trivial⟩
   have hM:bR g e f=some Z:=hM;unfold bR at hM;refine rq fun K51 B=>?_;refine qy hS (Dh hS rfl rfl rfl) fun a hS=>?_;refine rz (B _ _ ?_);refine wp_seq_k fun K52 L=>?_;have p:decide (f<(g.length:Int))=true:=decide_eq_true hlt;replace hM:=ct p hM;refine OY hS rfl p ?_;refine wp_skip ?_;refine L _ _ ?_;refine wp_seq_k fun K53 ag=>?_;refine wp_block ?_;refine rq fun K54 ak=>?_;obtain⟨b,S,hM⟩:=bd hM;refine wl rfl (bD (R:=ax) hS tY ua rfl rfl 1 rfl S rfl fun b2 b9 b4 a0 a hS=>?_);obtain⟨E,F,rfl,U,V⟩:=a0;replace hS:=(hS.fact (aK ac E b.Reads) U).fact (aK aS.str F b.Answers) V;refine qy hS (wI (k:=0) hS ua 2 rfl rfl (fun _ h=>h.elim) (us:=[aj b.Key.Kind,a8 b.Key.Text,.bool b.Running,aj b.At,E,F]) rfl rfl (fun h=>by cases h)) fun a hS=>?_;refine wl rfl (cm hS sM rfl fun r b8 a w hk hS=>?_);refine wl rfl (sV hS rfl rfl (us:=[aj b.Key.Kind,a8 b.Key.Text,.bool b.Running,aj b.At,E,F]) rfl ua 0 rfl rfl rfl (oc rfl (oc rfl (oc rfl (oc rfl (oc (aD.one ((hS.get 1 rfl):aD ac _ _ _ _)) (oc (aD.one ((hS.get 0 rfl):aD aS.str _ _ _ _)) on)))))) fun w hk hS=>?_);refine rz (ak _ _ ?_);refine wp_seq_k fun K55 an=>?_;replace hS:=(hS.nilRow ac 31 (by decide)).nilRow aS.str 9 (by decide);refine JP [(2,.blk (Value.ownBlock (.slice none 0 0))),(5,.blk (Value.ownBlock (.slice none 0 0))),(7,.blk (some r)),(9,.blk (some r))] hS mixed rfl (fun c a d v w h=>by cases d <;> exact h) fun w hQ hS=>?_;refine dy 0 (v:=.pointer (some ⟨r,0+4,none⟩)) rfl (by kernel_rfl) (by kernel_rfl) (by kernel_rfl) rfl hQ hS (Dg hS rfl Bs) rfl rfl rfl fun a hS=>?_;refine dy (l:=[]) 1 (v:=E) rfl (by kernel_rfl) (by kernel_rfl) (by kernel_rfl) (by kernel_rfl) hQ hS (dQ hS rfl BS 2 rfl br (us:=[E]) rfl rfl (fun _=>rfl)) rfl rfl rfl fun a hS=>?_;refine dy 3 (v:=.pointer (some ⟨r,0+5,none⟩)) rfl (by kernel_rfl) (by kernel_rfl) (by kernel_rfl) rfl hQ hS (Dg hS rfl Bt) rfl rfl rfl fun a hS=>?_;refine dy (l:=[.blk (Value.ownBlock (.slice none 0 0))]) 4 (v:=F) rfl (by kernel_rfl) (by kernel_rfl) (by kernel_rfl) (by kernel_rfl) hQ hS (dQ hS rfl zA 2 rfl (iZ hS 2 rfl rfl 0 rfl rfl (by decide) br) (us:=[F]) rfl rfl (fun _=>rfl)) rfl rfl rfl fun a hS=>?_;obtain⟨a1,hM⟩:=bo hM;refine ti (i:=2) rfl (by kernel_rfl) rfl (bM (R:=ac) (xs:=([]:List ah)) (ys:=b.Reads) hS gf (by decide) (by decide) rfl rfl 1 rfl 1 rfl 3 rfl a1 rfl fun m b5 a w hk hS=>⟨jl rfl hk im,?_⟩);refine dy 6 (v:=.pointer (some ⟨r,0+4,none⟩)) rfl (by kernel_rfl) (by kernel_rfl) (by kernel_rfl) rfl hQ hS (Dg hS rfl Bs) rfl rfl rfl fun a hS=>?_;obtain⟨a2,hM⟩:=bo hM;refine ti (i:=5) rfl (by kernel_rfl) rfl (bM (R:=aS.str) (xs:=([]:List ByteArray)) (ys:=b.Answers) hS tG (by decide) (by decide) rfl rfl 0 rfl 1 rfl 3 rfl a2 rfl fun n b6 a w hk hS=>⟨jl rfl hk im,?_⟩);refine ti (i:=7) rfl (by kernel_rfl) rfl (sV hS rfl rfl (us:=[m]) (lb (iD (hS.own _ (aG (i:=1) rfl)).1)) BS 2 rfl rfl rfl (oc (iD (hS.own _ (aG (i:=1) rfl)).1) on) fun w hk hS=>⟨jl rfl hk jn,?_⟩);refine dy 8 (v:=.pointer (some ⟨r,0+5,none⟩)) rfl (by kernel_rfl) (by kernel_rfl) (by kernel_rfl) rfl hQ hS (Dg hS rfl Bt) rfl rfl rfl fun a hS=>?_;refine ti (i:=9) rfl (by kernel_rfl) rfl (sV hS rfl rfl (us:=[n]) (lb (iD (hS.own _ (aG (i:=0) rfl)).1)) zA 2 rfl rfl rfl (oc (iD (hS.own _ (aG (i:=0) rfl)).1) on) fun w hk hS=>⟨jl rfl hk jn,?_⟩);refine Dc (by kernel_rfl) ?_ _;refine an _ _ ?_;refine DS ?_;refine qm hS fun a hS=>?_;refine qy hS (dQ hS rfl ua 2 rfl id (us:=[aj b.Key.Kind,a8 b.Key.Text,.bool b.Running,aj b.At,m,n]) rfl rfl (fun h=>by cases h)) fun a hS=>?_;refine wl rfl (bf (ps:=[(0,.tmp 21)]) hS vV sM (zl:=[aj 0,a8 cr,.bool false,aj 0,.slice none 0 0,.slice none 0 0]) (by kernel_rfl) rfl (us:=[[aj b.Key.Kind,a8 b.Key.Text,.bool b.Running,aj b.At,m,n]]) ⟨rfl,trivial⟩ (ws:=[aj b.Key.Kind,a8 b.Key.Text,.bool b.Running,aj b.At,m,n]) rfl rfl rfl rfl fun b3 a w hk hS=>?_);have hone:∀ u∈([aj b.Key.Kind,a8 b.Key.Text,.bool b.Running,aj b.At,m,n]:bh),u.oneCell'=true:=oc rfl (oc rfl (oc rfl (oc rfl (oc (iD (hS.own _ (aG (i:=2) rfl)).1) (oc (iD (hS.own _ (aG (i:=1) rfl)).1) on)))));replace hS:=(hS.lit (R:=HR ax) (us:=[aj b.Key.Kind,a8 b.Key.Text,.bool b.Running,aj b.At,m,n]) (xs:=[Sum.inl [aj b.Key.Kind,a8 b.Key.Text,.bool b.Running,aj b.At,m,n]]) 0 rfl (by decide) (aB.one_ (R:=HR ax) (x:=Sum.inl [aj b.Key.Kind,a8 b.Key.Text,.bool b.Running,aj b.At,m,n]) ⟨rfl,rfl,hone⟩) rfl rfl).freeze (R:=HR ax) 0 rfl 0 rfl;obtain⟨a3,hM⟩:=bo hM;replace hS:=hS.openH (R:=ax) (cl:=o) (xs:=e) 9 rfl;refine wl rfl (bM (R:=HR ax) (xs:=e.map Sum.inr) (ys:=[Sum.inl [aj b.Key.Kind,a8 b.Key.Text,.bool b.Running,aj b.At,m,n]]) hS vV (by decide) (by decide) rfl rfl 3 rfl 0 rfl 1 rfl (by rw [gc]; exact a3) rfl fun av Y a w hk hS=>?_);refine qa hS fun a hS=>?_;refine rz (ag _ _ ?_);refine DS ?_;refine qy hS (Dh hS rfl rfl rfl) fun a hS=>?_;refine qm hS fun a hS=>?_;refine wpList_nil ?_;exact⟨((e++([(bv.mk b.Key b.Running b.At (([]:List ah)++b.Reads) (([]:List ByteArray)++b.Answers))])),IntKind.i64.wrap (f+1)),(cR hM).symm,(e++([(bv.mk b.Key b.Running b.At (([]:List ah)++b.Reads) (([]:List ByteArray)++b.Answers))])),(IntKind.i64.wrap (f+1)),av,Y,rfl,.inr ⟨e,(bv.mk b.Key b.Running b.At (([]:List ah)++b.Reads) (([]:List ByteArray)++b.Answers)),m,_,n,_,rfl,(hS.meet [3,1,0] (by decide) ⟨rfl,rfl,rfl,rfl,trivial⟩ ⟨rfl,rfl,rfl,trivial⟩ ⟨⟨0,rfl⟩,⟨5,rfl⟩,⟨4,rfl⟩,⟨12,rfl⟩,trivial⟩)⟩⟩
  rcases W with⟨ho,hS⟩|⟨G,j,C,z,D,A,ho,hS⟩
  ·have hM:bR g e f=some Z:=hM;unfold bR at hM;refine rq fun K51 B=>?_;refine qy hS (Dh hS rfl rfl rfl) fun a hS=>?_;refine rz (B _ _ ?_);refine wp_seq_k fun K52 L=>?_;have p:decide (f<(g.length:Int))=false:=decide_eq_false hlt;replace hM:=cf p hM;refine NM hS rfl p ?_;refine wp_exit ?_;injection hM with hM;subst hM;have hr:=hf1 _ rfl;subst hr;have hM:cL e=some y:=hMo1;subst ho;unfold cL at hM;obtain rfl:=cR hM;exact absurd X (by simp [bg])
  have hM:bR g e f=some Z:=hM;unfold bR at hM;refine rq fun K51 B=>?_;refine qy hS (Dh hS rfl rfl rfl) fun a hS=>?_;refine rz (B _ _ ?_);refine wp_seq_k fun K52 L=>?_;have p:decide (f<(g.length:Int))=false:=decide_eq_false hlt;replace hM:=cf p hM;refine NM hS rfl p ?_;refine wp_exit ?_;injection hM with hM;subst hM;have hr:=hf1 _ rfl;subst hr;have hM:cL e=some y:=hMo1;exact⟨e,q,o,G,j,C,z,D,A,ho,(hS.meet [0,1,2] (by decide) ⟨rfl,trivial⟩ ⟨rfl,rfl,rfl,trivial⟩ ⟨⟨0,rfl⟩,⟨1,rfl⟩,⟨2,rfl⟩,trivial⟩),hM⟩
 rintro a w ⟨M,I,t,G,j,C,z,D,A,ho,hS,hM⟩;unfold cL at hM;refine rq fun K39 a9=>?_;refine qm hS fun a hS=>?_;refine qa hS fun a hS=>?_;refine rz (a9 _ _ ?_);refine wp_ret ?_;injection hM with hM;subst hM;refine aH hS Tryz.results134 (az hS rfl aF) ?_;subst ho;obtain⟨rfl,hix⟩:=GQ (Nat.le_of_succ_le (by have:=Ha (R:=HR ax) hS 0 rfl 0 rfl; simpa [yS] using this)) X;have hZ:=hS.meet (G':=[]) (D':=[.own I 150 ax.size t,.own C 31 ac.size z,.own D 9 aS.str.size A]) (F':=[ao (HR ax) t (yS G [aj j.Key.Kind,a8 j.Key.Text,.bool j.Running,aj j.At,C,D]),ao ac z j.Reads,ao aS.str A j.Answers]) [0,1,2] (by decide) trivial ⟨rfl,rfl,rfl,trivial⟩ ⟨⟨0,rfl⟩,⟨1,rfl⟩,⟨2,rfl⟩,trivial⟩;exact⟨_,_,_,_,_,by rw [AJ hix]; exact hZ.get 0 rfl,hZ.get 1 rfl,hZ.get 2 rfl,hZ.dnew⟩
end
end Go.Proofs.YtdcojaccpnabkaaGreatDoor
