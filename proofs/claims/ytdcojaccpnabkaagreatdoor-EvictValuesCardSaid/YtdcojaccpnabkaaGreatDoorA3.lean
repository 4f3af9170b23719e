/- Texts of the proof, joined (3). -/
import Derived.Test.YtdcojaccpnabkaaGreatDoorA1
import Derived.Test.YtdcojaccpnabkaaGreatDoorA2
set_option linter.unusedVariables false
set_option linter.unusedSimpArgs false
set_option linter.unusedSectionVars false
namespace Go.Proofs.YtdcojaccpnabkaaGreatDoor
section
set_option maxRecDepth 100000
set_option maxHeartbeats 4000000
open Go.RowKit
noncomputable section
def kz:Option Bool:=some (true)
def bN (e:LO) (c:Int) (b:aX) (d:Bool):Option (Fl (LO×Int) (Fl (Unit) Bool)):=cond d (some (.out (.out false))) (some (.go ((de aM b.Key true e),IntKind.i64.wrap (c+1))))
def eI (e:ai) (d:LO) (c:Int) (b:aX) (g:(ad×Bool)) (f:Bool):Option (Fl (LO×Int) (Fl (Unit) Bool)):=cond b.Running (cond (b.At != 0) (bN d c b true) (bN d c b false)) (cond (!(g.2)) (cond (b.At != 0) (bN d c b true) (cond (decide ((0:Int)<(b.Reads.length:Int))) (bN d c b true) (cond f ((kP e.Records e.Revision b.Key).bind fun h=>(f6 e.Records h).bind fun i=>bN d c b (decide ((i.length:Int)<b.At))) (bN d c b false)))) (cond (decide ((0:Int)<(b.Reads.length:Int))) (bN d c b true) (cond f ((kP e.Records e.Revision b.Key).bind fun j=>(f6 e.Records j).bind fun k=>bN d c b (decide ((k.length:Int)<b.At))) (bN d c b false))))
def kA (g:LU) (f:ai) (h:LF) (e:LO) (d:Int):Option (Fl (LO×Int) (Fl (Unit) Bool)):=cond (decide (d<(h.length:Int))) ((bk h d).bind fun b=>(some ((cB aM b.Key e).getD false)).bind fun i=>cond i (some (.out (.out false))) ((cm b.Key).bind fun j=>cond j (some (.out (.out false))) ((jK g b.Key).bind fun k=>cond (!(k)) (some (.out (.out false))) (cond ((b.Reads.length:Int) != (b.Answers.length:Int)) (some (.out (.out false))) (cond (decide (b.At<0)) (some (.out (.out false))) ((cw f.Records b.Key).bind fun c=>cond c.2 (cond (!(c.1.Dirty)) (eI f e d b c (decide (c.1.Verified<f.Revision))) (eI f e d b c false)) (eI f e d b c false))))))) (some (.out (.go ())))
def gT (b:LU) (c:ai) (d:LF):Option Bool:=(loop (fun s:LO×Int=>kA b c d s.1 s.2) (([]:LO),0)).bind fun r=>Fl.el r (fun s=>kz) (fun y=>some (y))
theorem tH (T:Nat→Prop) (W0:World) (hT:TW T W0) (hLv:dc T W0) (e:LU) (b:ai) (h:LF) (m:Value) (n:Value) (o:Value) (p:Value) (c1:aC ar T W0 m e) (c2:aC ab T W0 n b.Inputs) (c3:aC aa T W0 o b.Records) (c4:aC au T W0 p h) (y:Bool) (hM:gT e b h=some y):a7 aO No 135 [m,.agg (a6 b n o).toArray,p] W0 (fun v w'=>v = .bool y):=by
 refine en Tryz.func135 Tryz.ntmps135 hT fun a hS=>?_;replace hS:=((((hS.fact br (dc.dn hLv)).fS (aC.dn c1)).fS (aC.dn c2)).fS (aC.dn c3)).fS (aC.dn c4);unfold gT at hM;refine am hS fun a hS=>?_;refine kb hS fun j cs a w hk hS=>?_;refine am hS fun a hS=>?_;refine wl rfl (pC ac true aR.bool false hS rfl fun k d0 a w hk hS=>?_);refine am hS fun a hS=>?_;refine aK (J:=fun a w=>St W0 No T 121 [] [] [br] a w∧kz=some y) ?_ ?_
 ·skip;refine am hS fun a hS=>?_;obtain⟨r1,c0,hMo1⟩:=bd hM;refine bx _ (fun s a w=>∃ (g:LO) (f:Int) (q:AM) (A:Nat),(g,f)=s∧St W0 No T 121 [(0,m),(4,pt j 0),(7,.map (some k)),(14,p),(15,al (h.length:Int)),(16,al f)] [om k q A,.box j (a6 b n o) 25] [aL ar m e,s7 q g,aL au p h,aL ab n b.Inputs,aL aa o b.Records,br] a w) c0 ⟨_,_,_,_,rfl,hS.mt [0,1] [4,0,1,3,2,5]⟩ ?_;rintro s a w f1 ⟨g,f,q,A,rfl,hS⟩ hM hf1;have hM:kA e b h g f=some f1:=hM;unfold kA at hM;refine am hS fun a hS=>?_;refine ay ?_;rcases cd hM with⟨af,hM⟩|⟨af,hM⟩
  ·refine am hS fun a hS=>?_;refine ay ?_;refine am hS fun a hS=>?_;obtain⟨d,S,hM⟩:=bd hM;refine wl rfl (bu (R:=au) hS se sj rfl rfl 2 rfl S rfl fun c5 d3 ca ag a hS=>?_);obtain⟨P,Q,rfl,a2,a3⟩:=ag;replace hS:=(hS.fS a2).fS a3;refine am hS fun a hS=>?_;refine ka hS qD fun z d1 a w hk hS=>?_;refine go hS fun a w hS=>?_;refine ay ?_;refine jg ?_;refine am hS fun a hS=>?_;obtain⟨bl,Z,hM⟩:=bd hM;obtain⟨ch,ak,av⟩:=kd hS xZ dv 1 rfl 4 rfl (c:=(aV d.Key)) (key:=d.Key) rfl I8 (zc:=[.bool false]) rfl rfl Z;obtain rfl:=ak;refine wl rfl (ky (v:=.bool bl) hS (av rfl rfl id) rfl rfl fun a hS=>?_);refine am hS fun a hS=>?_;rcases cd hM with⟨C,hM⟩|⟨C,hM⟩
   ·exact fz
   refine am hS fun a hS=>?_;obtain⟨dl,a0,hM⟩:=bd hM;refine wg hS rfl rfl rfl C (bz hS wG rfl rfl (da _ _ hS.dlt d.Key _ a0) fun _ w hR a hk hA=>?_);obtain rfl:=hR;have hS:=ce hA;refine am hS fun a hS=>?_;rcases cd hM with⟨D,hM⟩|⟨D,hM⟩
   ·exact fz
   refine am hS fun a hS=>?_;obtain⟨ds,a1,hM⟩:=bd hM;refine wg hS rfl rfl rfl D (bz hS Ib rfl rfl (pW _ _ hS.dlt (hS.get 8 rfl) e d.Key _ (hS.get 3 rfl) _ a1) fun _ w hR a hk hA=>?_);obtain rfl:=hR;have hS:=ce hA;refine am hS fun a hS=>?_;rcases cd hM with⟨b0,hM⟩|⟨b0,hM⟩
   ·exact fz
   refine am hS fun a hS=>?_;rcases cd hM with⟨b1,hM⟩|⟨b1,hM⟩
   ·exact fz
   refine am hS fun a hS=>?_;rcases cd hM with⟨b2,hM⟩|⟨b2,hM⟩
   ·exact fz
   refine am hS fun a hS=>?_;refine wl rfl (wY hS xZ dv 1 rfl 4 rfl (c:=(aV d.Key)) (cv:=[.bool true]) (key:=d.Key) (val:=true) rfl rfl rfl rfl rfl fun l B w hk hS=>?_);refine am hS fun a hS=>?_;obtain⟨O,U,hM⟩:=bd hM;refine kc hS pO (bH _ _ hS.dlt b.Records d.Key _ (hS.get 8 rfl) _ U) fun _ w hR a hk hA=>?_;obtain⟨e0,ck,he,I⟩:=hR;obtain rfl:=he.symm;have hS:=pz hA I;refine am hS fun a hS=>?_;refine ka hS dD fun c9 d2 a w hk hS=>?_;refine go hS fun a w hS=>?_;refine aK (J:=fun a w=>∃ (x:Bool),St W0 No T 121 [(0,m),(4,pt j 0),(7,.map (some k)),(9,pt z 0),(11,.bool O.2),(12,.bool x),(14,p),(15,al (h.length:Int)),(16,al f)] [om k l B,.box j (a6 b n o) 25,.box z (ku d P Q) 150] [aL ar m e,s7 l (de aM d.Key true g),aL au p h,aL ab n b.Inputs,aL aa o b.Records,aL ac P d.Reads,aL aR.str Q d.Answers,br] a w∧eI b g f d O x=some f1) ?_ ?_
   ·exact fz
   rintro a w ⟨x,hS,hM⟩;unfold eI at hM;refine aK (J:=fun a w=>∃ (r:Bool),St W0 No T 121 [(0,m),(4,pt j 0),(7,.map (some k)),(14,p),(15,al (h.length:Int)),(16,al f),(119,.bool r)] [om k l B,.box j (a6 b n o) 25] [aL ar m e,s7 l (de aM d.Key true g),aL au p h,aL ab n b.Inputs,aL aa o b.Records,br] a w∧bN g f d r=some f1) ?_ ?_
   ·skip;refine dr [] hS fun w hQ hS=>?_;refine gE [0,1,2] hS fun a hS=>?_;rcases cd hM with⟨b3,hM⟩|⟨b3,hM⟩
    ·refine gE [3,4,5,6,7,8,9,10,11] hS fun a hS=>?_;rcases cd hM with⟨b4,hM⟩|⟨b4,hM⟩
     ·refine gE [12,13,14,15,16,17,18,19,20,21,22,23,24,25,26,27,28,29,30,31,32,33,34,35,36,37,38,39,40,41,42,43,44,45] hS fun a hS=>?_;refine eD ?_;exact⟨_,hS.mt [0,1] [0,1,2,3,4,7],hM⟩
     refine gE [12,13,14,15,16,17,18,19,20,21,22,23,24,25,26,27,28,29,30,31,32,33,34,35,36,37,38,39,40,41,42,43,44,45] hS fun a hS=>?_;refine eD ?_;exact⟨_,hS.mt [0,1] [0,1,2,3,4,7],hM⟩
    refine gE [3,4,5,6] hS fun a hS=>?_;rcases cd hM with⟨b5,hM⟩|⟨b5,hM⟩
    ·refine gE [7,8,9,10,11] hS fun a hS=>?_;rcases cd hM with⟨b6,hM⟩|⟨b6,hM⟩
     ·refine gE [12,13,14,15,16,17,18,19,20,21,22,23,24,25,26,27,28,29,30,31,32,33,34,35,36,37,38,39,40,41,42,43,44,45] hS fun a hS=>?_;refine eD ?_;exact⟨_,hS.mt [0,1] [0,1,2,3,4,7],hM⟩
     refine gE [12,13,14,15,16,17,18,19,20,21,22] hS fun a hS=>?_;rcases cd hM with⟨b8,hM⟩|⟨b8,hM⟩
     ·refine gE [23,24,25,26,27,28,29,30,31,32,33,34,35,36,37,38,39,40,41,42,43,44,45] hS fun a hS=>?_;refine eD ?_;exact⟨_,hS.mt [0,1] [0,1,2,3,4,7],hM⟩
     refine gE [23,24,25,26,27,28,29] hS fun a hS=>?_;rcases cd hM with⟨t,hM⟩|⟨t,hM⟩
     ·refine gE [30,31,32,33,34,35,36,37,38,39] hS fun a hS=>?_;obtain⟨bb,V,hM⟩:=bd hM;refine cS (i:=40) rfl (by kernel_rfl) hS rfl rfl rfl t (bz hS Co rfl rfl (qS _ _ hS.dlt (hS.get 7 rfl) b.Records b.Revision d.Key _ (hS.get 4 rfl) _ V) fun _ w hR a hk hA=>⟨fA (hk),?_⟩);obtain⟨e2,cl,he,K⟩:=hR;obtain rfl:=he.symm;have hS:=pz hA K;have hL:=hS;replace hL:=hL.freeze (R:=ac) 0 rfl 0 rfl;obtain⟨d4,W,hM⟩:=bd hM;refine cS (i:=41) rfl (by kernel_rfl) hS rfl rfl rfl t (bz hS Cp rfl rfl (ma _ _ hL.dlt b.Records bb _ _ (hL.get 6 rfl) (hL.get 0 rfl) _ W) fun _ w hR a hk hA=>⟨fA (hk),?_⟩);obtain⟨bs,a4,he,⟨G,E,L⟩⟩:=hR;obtain rfl:=he.symm;have hS:=hA [kX bs a4] (jj ⟨G,by decide⟩ E) (xa _);replace hS:=hS.fR L;refine gE [42,43,44,45] hS fun a hS=>?_;refine eD ?_;exact⟨_,hS.mt [2,3] [2,3,4,5,6,9],hM⟩
     refine gE [30,31,32,33,34,35,36,37,38,39,40,41,42,43,44,45] hS fun a hS=>?_;refine eD ?_;exact⟨_,hS.mt [0,1] [0,1,2,3,4,7],hM⟩
    refine gE [7,8,9,10,11,12,13,14,15,16,17,18,19,20,21,22] hS fun a hS=>?_;rcases cd hM with⟨b9,hM⟩|⟨b9,hM⟩
    ·refine gE [23,24,25,26,27,28,29,30,31,32,33,34,35,36,37,38,39,40,41,42,43,44,45] hS fun a hS=>?_;refine eD ?_;exact⟨_,hS.mt [0,1] [0,1,2,3,4,7],hM⟩
    refine gE [23,24,25,26,27,28,29] hS fun a hS=>?_;rcases cd hM with⟨u,hM⟩|⟨u,hM⟩
    ·refine gE [30,31,32,33,34,35,36,37,38,39] hS fun a hS=>?_;obtain⟨bi,X,hM⟩:=bd hM;refine cS (i:=40) rfl (by kernel_rfl) hS rfl rfl rfl u (bz hS Co rfl rfl (qS _ _ hS.dlt (hS.get 7 rfl) b.Records b.Revision d.Key _ (hS.get 4 rfl) _ X) fun _ w hR a hk hA=>⟨fA (hk),?_⟩);obtain⟨e3,co,he,M⟩:=hR;obtain rfl:=he.symm;have hS:=pz hA M;have hL:=hS;replace hL:=hL.freeze (R:=ac) 0 rfl 0 rfl;obtain⟨d6,Y,hM⟩:=bd hM;refine cS (i:=41) rfl (by kernel_rfl) hS rfl rfl rfl u (bz hS Cp rfl rfl (ma _ _ hL.dlt b.Records bi _ _ (hL.get 6 rfl) (hL.get 0 rfl) _ Y) fun _ w hR a hk hA=>⟨fA (hk),?_⟩);obtain⟨bt,a5,he,⟨H,F,N⟩⟩:=hR;obtain rfl:=he.symm;have hS:=hA [kX bt a5] (jj ⟨H,by decide⟩ F) (xa _);replace hS:=hS.fR N;refine gE [42,43,44,45] hS fun a hS=>?_;refine eD ?_;exact⟨_,hS.mt [2,3] [2,3,4,5,6,9],hM⟩
    refine gE [30,31,32,33,34,35,36,37,38,39,40,41,42,43,44,45] hS fun a hS=>?_;refine eD ?_;exact⟨_,hS.mt [0,1] [0,1,2,3,4,7],hM⟩
   rintro a w ⟨r,hS,hM⟩;unfold bN at hM;exact fz
  exact fz
 rintro a w ⟨hS,hM⟩;unfold kz at hM;exact fz
def mf (b:Bool):Option Bool:=some (b)
def nR (b:cI):Option Bool:=(jP b.Rules b.Base b.Goals).bind fun c=>cond (c==0) ((gT b.Rules b.Base b.Stack).bind fun d=>mf d) (mf false)
theorem yc (T:Nat→Prop) (W0:World) (hT:TW T W0) (hLv:dc T W0) (b:cI) (m:Value) (n:Value) (o:Value) (p:Value) (q:Value) (r:Value) (g:aC ar T W0 m b.Rules) (h:aC ab T W0 n b.Base.Inputs) (i:aC aa T W0 o b.Base.Records) (j:aC ac T W0 p b.Goals) (k:aC au T W0 q b.Stack) (l:aC ac T W0 r b.Ran) (y:Bool) (hM:nR b=some y):a7 aO No 109 [.agg (sY b m n o p q r).toArray] W0 (fun v w'=>v = .bool y):=by
 refine en Tryz.func109 Tryz.ntmps109 hT fun a hS=>?_;replace hS:=((((((hS.fact br (dc.dn hLv)).fS (aC.dn g)).fS (aC.dn h)).fS (aC.dn i)).fS (aC.dn j)).fS (aC.dn k)).fS (aC.dn l);unfold nR at hM;refine am hS fun a hS=>?_;refine kb hS fun s t a w hk hS=>?_;refine am hS fun a hS=>?_;refine aK (J:=fun a w=>∃ (c:Bool),St W0 No T 20 [(2,.bool c)] [] [br] a w∧mf c=some y) ?_ ?_
 ·skip;refine am hS fun a hS=>?_;obtain⟨u,e,hM⟩:=bd hM;refine kc hS H6 (pX _ _ hS.dlt (hS.get 6 rfl) b.Rules b.Base b.Goals _ _ _ _ (hS.get 5 rfl) (hS.get 4 rfl) (hS.get 3 rfl) (hS.get 2 rfl) _ e) fun _ w hR a hk hA=>?_;obtain rfl:=hR;have hS:=ce hA;refine am hS fun a hS=>?_;rcases cd hM with⟨d,hM⟩|⟨d,hM⟩
  ·refine am hS fun a hS=>?_;obtain⟨x,f,hM⟩:=bd hM;refine wg hS rfl rfl rfl d (bz hS JA rfl rfl (tH _ _ hS.dlt (hS.get 6 rfl) b.Rules b.Base b.Stack _ _ _ _ (hS.get 5 rfl) (hS.get 4 rfl) (hS.get 3 rfl) (hS.get 1 rfl) _ f) fun _ w hR a hk hA=>?_);obtain rfl:=hR;have hS:=ce hA;exact fz
  exact fz
 rintro a w ⟨c,hS,hM⟩;unfold mf at hM;exact fz
def qn (b:LU) (c:ai):Option ao:=some ((ao.mk b c ([]:LB) ([]:LL)))
theorem pD (T:Nat→Prop) (W0:World) (hT:TW T W0) (j:LU) (i:ai) (q:Value) (r:Value) (s:Value) (hD:tU T W0 []) (u:aC ar (dT T []) W0 q j) (x:aC ab (dT T []) W0 r i.Inputs) (z:aC aa (dT T []) W0 s i.Records) (y:ao) (hM:qn j i=some y):a7 aO (MD []) 62 [q,.agg (a6 i r s).toArray] W0 (fun v w'=>∃ (m:Nat) (n:Value) (o:Value) (p:Value) (g:Nat) (h:Array MapEntry) (e:Nat) (b:Nat) (d:Array MapEntry) (f:Nat),v=pt m 0∧aC ar (dT T [xS m n y.Base.Revision o p g b,om g h e,om b d f]) w' n y.Rules∧aC ab (dT T [xS m n y.Base.Revision o p g b,om g h e,om b d f]) w' o y.Base.Inputs∧aC aa (dT T [xS m n y.Base.Revision o p g b,om g h e,om b d f]) w' p y.Base.Records∧bw ac true aR.str false (dT T [xS m n y.Base.Revision o p g b,om g h e,om b d f]) w' h y.Memo∧bw ac true (aR.slice ac) false (dT T [xS m n y.Base.Revision o p g b,om g h e,om b d f]) w' d y.Seen∧lK W0 w' [] [xS m n y.Base.Revision o p g b,om g h e,om b d f]):=by
 refine eL (c:=_) Tryz.func62 rfl T 11 Tryz.ntmps62 hT rfl hD fun a hS=>?_;replace hS:=((hS.fS u).fS x).fS z;unfold qn at hM;refine am hS fun a hS=>?_;refine kb hS fun A B a w hk hS=>?_;refine am hS fun a hS=>?_;refine wl rfl (pC ac true aR.str false hS rfl fun k C a w hk hS=>?_);refine wl rfl (pC ac true (aR.slice ac) false hS rfl fun l D a w hk hS=>?_);refine qy hS (bp (ps:=[(0,.tmp 5),(1,.tmp 6),(2,.tmp 7),(3,.tmp 8)]) hS Kd KC rfl (us:=[[q],(a6 i r s),[.map (some k)],[.map (some l)]]) ⟨(lh (aC.one ((hS.get 4 rfl):aC ar _ _ _ _))),⟨rfl,⟨rfl,⟨rfl,trivial⟩⟩⟩⟩ (ws:=[q,al i.Revision,r,s,.map (some k),.map (some l)]) rfl) fun a hS=>?_;refine kb hS fun t E a w hk hS=>?_;refine am hS fun a hS=>?_;cases hM
 refine aG hS rfl (aw hS rfl aF) ?_;have hZ:=hS.sl [0,2,1] [4,3,2,1,0];exact⟨t,q,r,s,k,#[],0,l,#[],0,rfl,(hZ.get 0 rfl),(hZ.get 1 rfl),(hZ.get 2 rfl),(hZ.get 3 rfl),(hZ.get 4 rfl),hZ.dnew⟩
def sd:Option Bool:=some (false)
def ig (e:LF) (d:ae) (b:Int):Option (Fl (Int) (Fl (Unit) Bool)):=cond (decide (b<(e.length:Int))) ((bk e b).bind fun c=>cond (c.Key.Kind==d.Kind&&c.Key.Text.toList==d.Text.toList) (some (.out (.out true))) (some (.go (IntKind.i64.wrap (b+1))))) (some (.out (.go ())))
def me (c:LF) (b:ae):Option Bool:=(loop (fun s:Int=>ig c b s) 0).bind fun r=>Fl.el r (fun s=>sd) (fun y=>some (y))
theorem tG (T:Nat→Prop) (W0:World) (hT:TW T W0) (d:LF) (b:ae) (j:Value) (n:aC au T W0 j d) (y:Bool) (hM:me d b=some y):a7 aO No 150 [j,.agg (aV b).toArray] W0 (fun v w'=>v = .bool y):=by
 refine en Tryz.func150 Tryz.ntmps150 hT fun a hS=>?_;replace hS:=hS.fS (aC.dn n);unfold me at hM;refine am hS fun a hS=>?_;refine kb hS fun e t a w hk hS=>?_;refine am hS fun a hS=>?_;refine aK (J:=fun a w=>St W0 No T 18 [] [] [] a w∧sd=some y) ?_ ?_
 ·skip;refine am hS fun a hS=>?_;obtain⟨B,m,hMo1⟩:=bd hM;refine bx _ (fun s a w=>∃ (c:Int),c=s∧St W0 No T 18 [(3,pt e 0),(7,j),(8,al (d.length:Int)),(9,al c)] [.box e (aV b) 31] [aL au j d] a w) m ⟨_,rfl,hS.mt [0] [0]⟩ ?_;rintro s a w r ⟨c,rfl,hS⟩ hM hf1;have hM:ig d b c=some r:=hM;unfold ig at hM;refine am hS fun a hS=>?_;refine ay ?_;rcases cd hM with⟨k,hM⟩|⟨k,hM⟩
  ·refine am hS fun a hS=>?_;refine ay ?_;refine am hS fun a hS=>?_;obtain⟨f,g,hM⟩:=bd hM;refine wl rfl (bu (R:=au) hS se sj rfl rfl 0 rfl g rfl fun o x q l a hS=>?_);obtain⟨z,A,rfl,h,i⟩:=l;replace hS:=(hS.fS h).fS i;refine am hS fun a hS=>?_;refine ka hS qD fun p u a w hk hS=>?_;refine go hS fun a w hS=>?_;refine wl rfl (ky (v:=.bool (f.Key.Kind==b.Kind&&f.Key.Text.toList==b.Text.toList)) hS (zj hS rfl rfl) rfl rfl fun a hS=>?_);exact fz
  exact fz
 rintro a w ⟨hS,hM⟩;unfold sd at hM;exact fz
def lf (b:Bool):Option Bool:=some (b)
def f7 (d:ai) (g:LF) (b:ae):Option Bool:=(cm b).bind fun e=>cond e (some (false)) ((me g b).bind fun f=>cond f (some (false)) ((cw d.Records b).bind fun c=>cond (!(c.2)) (lf true) (lf (c.1.Verified != d.Revision))))
theorem sc (T:Nat→Prop) (W0:World) (hT:TW T W0) (b:ai) (g:LF) (c:ae) (o:Value) (p:Value) (q:Value) (l:aC ab T W0 o b.Inputs) (m:aC aa T W0 p b.Records) (n:aC au T W0 q g) (y:Bool) (hM:f7 b g c=some y):a7 aO No 136 [.agg (a6 b o p).toArray,q,.agg (aV c).toArray] W0 (fun v w'=>v = .bool y):=by
 refine en Tryz.func136 Tryz.ntmps136 hT fun a hS=>?_;replace hS:=((hS.fS (aC.dn l)).fS (aC.dn m)).fS (aC.dn n);unfold f7 at hM;refine am hS fun a hS=>?_;refine kb hS fun r x a w hk hS=>?_;refine kb hS fun s z a w hk hS=>?_;refine am hS fun a hS=>?_;refine ay ?_;refine jg ?_;refine am hS fun a hS=>?_;obtain⟨B,h,hM⟩:=bd hM;refine kc hS wG (da _ _ hS.dlt c _ h) fun _ w hR a hk hA=>?_;obtain rfl:=hR;have hS:=ce hA;refine am hS fun a hS=>?_;rcases cd hM with⟨e,hM⟩|⟨e,hM⟩
 ·exact fz
 refine am hS fun a hS=>?_;obtain⟨C,i,hM⟩:=bd hM;refine wg hS rfl rfl rfl e (bz hS Eq rfl rfl (tG _ _ hS.dlt g c _ (hS.get 0 rfl) _ i) fun _ w hR a hk hA=>?_);obtain rfl:=hR;have hS:=ce hA;refine am hS fun a hS=>?_;rcases cd hM with⟨k,hM⟩|⟨k,hM⟩
 ·exact fz
 refine am hS fun a hS=>?_;obtain⟨D,j,hM⟩:=bd hM;refine kc hS pO (bH _ _ hS.dlt b.Records c _ (hS.get 1 rfl) _ j) fun _ w hR a hk hA=>?_;obtain⟨E,u,he,f⟩:=hR;obtain rfl:=he.symm;have hS:=pz hA f;refine am hS fun a hS=>?_;refine ka hS dD fun t A a w hk hS=>?_;refine go hS fun a w hS=>?_;refine aK (J:=fun a w=>∃ (d:Bool),St W0 No T 32 [(6,.bool d)] [] [] a w∧lf d=some y) ?_ ?_
 ·exact fz
 rintro a w ⟨d,hS,hM⟩;unfold lf at hM;exact fz
def lE (c:ByteArray):Option Int:=(iU c).bind fun b=>cond (decide (b<0)) (some (0)) (cond (decide ((65535:Int)<b)) (some (0)) (some (b)))
theorem tb (T:Nat→Prop) (W0:World) (hT:TW T W0) (b:ByteArray) (y:Int) (hM:lE b=some y):a7 aO No 144 [aZ b] W0 (fun v w'=>v=al y):=by
 refine en Tryz.func144 Tryz.ntmps144 hT fun a hS=>?_;unfold lE at hM;refine am hS fun a hS=>?_;obtain⟨d,c,hM⟩:=bd hM;refine kc hS Hj (rD _ _ hS.dlt b _ c) fun _ w hR a hk hA=>?_;obtain rfl:=hR;have hS:=ce hA;refine am hS fun a hS=>?_;refine ay ?_;refine jg ?_;exact fz
def jB (c:aI) (b:Int) (e:Int) (d:Int):Option Int:=cond (c.Final==1) (some (Int.tmod b 1000)) (cond (c.Final==2) (some (Int.tmod (IntKind.i64.wrap (Int.tdiv b 2)) 1000)) (cond (c.Final==3) (some (e)) (cond (c.Final==4) (some (Int.tmod b 2)) (some (d)))))
def gP (b:LY) (g:Int) (f:Int) (e:Int) (c:Int):Option (Fl (Int×Int×Int×Int) (Int×Int×Int)):=cond (decide (c<(b.length:Int))) ((bk b c).bind fun h=>(lE h).bind fun d=>some (.go (IntKind.i64.wrap (g+d),max f d,zr .or .i64 e d,IntKind.i64.wrap (c+1)))) (some (.out (g,f,e)))
def nL (c:aI) (b:LY):Option Int:=(loop (fun s:Int×Int×Int×Int=>gP b s.1 s.2.1 s.2.2.1 s.2.2.2) (c.C,c.C,c.C,0)).bind fun r=>jB c r.1 r.2.1 r.2.2
theorem x7 (T:Nat→Prop) (W0:World) (hT:TW T W0) (c:aI) (b:LY) (l:Value) (o:Value) (B:aC dJ T W0 l c.Asks) (C:aC aR.str T W0 o b) (y:Int) (hM:nL c b=some y):a7 aO No 143 [.agg (sX c l).toArray,o] W0 (fun v w'=>v=al y):=by
 refine en Tryz.func143 Tryz.ntmps143 hT fun a hS=>?_;replace hS:=(hS.fS (aC.dn B)).fS (aC.dn C);unfold nL at hM;refine am hS fun a hS=>?_;refine kb hS fun g G a w hk hS=>?_;refine am hS fun a hS=>?_;refine ay ?_;refine dr [] hS fun w hQ hS=>?_;refine gE [0,1,2,3,4,5,6,7,8] hS fun a hS=>?_;refine eD ?_;refine am hS fun a hS=>?_;refine aK (J:=fun a w=>∃ (k:Int) (j:Int) (i:Int),St W0 No T 54 [(2,pt g 0),(5,al k),(6,al j),(7,al i)] [.box g (sX c l) 115] [aL dJ l c.Asks] a w∧jB c k j i=some y) ?_ ?_
 ·skip;refine am hS fun a hS=>?_;obtain⟨K,A,hMo1⟩:=bd hM;refine bx _ (fun s a w=>∃ (f:Int) (e:Int) (d:Int) (h:Int),(f,e,d,h)=s∧St W0 No T 54 [(2,pt g 0),(5,al f),(6,al e),(7,al d),(17,o),(18,al (b.length:Int)),(19,al h)] [.box g (sX c l) 115] [aL aR.str o b,aL dJ l c.Asks] a w) A ⟨_,_,_,_,rfl,hS.mt [0] [0,1]⟩ ?_;rintro s a w F ⟨f,e,d,h,rfl,hS⟩ hM hf1;have hM:gP b f e d h=some F:=hM;unfold gP at hM;refine am hS fun a hS=>?_;refine ay ?_;rcases cd hM with⟨q,hM⟩|⟨q,hM⟩
  ·refine am hS fun a hS=>?_;refine ay ?_;refine am hS fun a hS=>?_;obtain⟨p,m,hM⟩:=bd hM;refine wl rfl (bu (R:=aR.str) hS A9 HK rfl rfl 0 rfl m rfl fun D H E r a hS=>?_);obtain rfl:=r;refine am hS fun a hS=>?_;obtain⟨I,n,hM⟩:=bd hM;refine kc hS Hy (tb _ _ hS.dlt p _ n) fun _ w hR a hk hA=>?_;obtain rfl:=hR;have hS:=ce hA;refine am hS fun a hS=>?_;refine qy hS (Kw hS rfl rfl) fun a hS=>?_;refine am hS fun a hS=>?_;refine qy hS (I1 hS rfl rfl rfl) fun a hS=>?_;exact fz
  refine am hS fun a hS=>?_;cases hM
  have hr:=hf1 _ rfl;subst hr;have hM:jB c f e d=some y:=hMo1;exact⟨_,_,_,hS.mt [0] [1],hM⟩
 rintro a w ⟨k,j,i,hS,hM⟩;unfold jB at hM;refine ay ?_;refine am hS fun a hS=>?_;rcases cd hM with⟨t,hM⟩|⟨t,hM⟩
 ·refine am hS fun a hS=>?_;refine qy hS (yT hS rfl rfl (by decide)) fun a hS=>?_;exact fz
 refine am hS fun a hS=>?_;rcases cd hM with⟨u,hM⟩|⟨u,hM⟩
 ·refine am hS fun a hS=>?_;refine qy hS (KA hS rfl rfl (by decide)) fun a hS=>?_;refine qy hS (yT hS rfl rfl (by decide)) fun a hS=>?_;exact fz
 refine am hS fun a hS=>?_;rcases cd hM with⟨x,hM⟩|⟨x,hM⟩
 ·exact fz
 refine am hS fun a hS=>?_;rcases cd hM with⟨z,hM⟩|⟨z,hM⟩
 ·refine am hS fun a hS=>?_;refine qy hS (yT hS rfl rfl (by decide)) fun a hS=>?_;exact fz
 exact fz
def iV (c:LU) (d:cD) (b:Int):Option nC:=cond d.Cell ((lp b).bind fun e=>some ((nC.mk false bW e))) ((jx c b).bind fun f=>some ((nC.mk false bW f)))
def iW (c:LU) (b:cD) (d:Bool):Option nC:=cond d (iV c b b.Else) (iV c b b.N)
def fb (c:LU) (g:ae) (b:LY):Option nC:=(fW g).bind fun f=>cond (decide (f<0)) (some ((nC.mk true bW (ae.mk 0 bW)))) (cond (decide ((c.length:Int)≤f)) (some ((nC.mk true bW (ae.mk 0 bW)))) ((jx c f).bind fun h=>cond (!(h.Kind==g.Kind&&h.Text.toList==g.Text.toList)) (some ((nC.mk true bW (ae.mk 0 bW)))) ((bk c f).bind fun e=>cond (decide ((e.Asks.length:Int)≤(b.length:Int))) ((pm b 0 (e.Asks.length:Int)).bind fun j=>(nL e j).bind fun k=>(vF k).bind fun l=>some ((nC.mk true l (ae.mk 0 bW)))) ((bk e.Asks (b.length:Int)).bind fun d=>cond d.Pick (cond ((b.length:Int)==0) (iW c d true) ((bk b (IntKind.i64.wrap ((b.length:Int)-1))).bind fun i=>(lE i).bind fun m=>iW c d ((Int.tmod m 2:Int)==0))) (iW c d false)))))
theorem un (T:Nat→Prop) (W0:World) (hT:TW T W0) (hLv:dc T W0) (b:LU) (j:ae) (d:LY) (p:Value) (v2:Value) (Z:aC ar T W0 p b) (a0:aC aR.str T W0 v2 d) (y:nC) (hM:fb b j d=some y):a7 aO No 123 [p,.agg (aV j).toArray,v2] W0 (fun v w'=>v = .agg (Hh y).toArray):=by
 refine en Tryz.func123 Tryz.ntmps123 hT fun a hS=>?_;replace hS:=((hS.fact br (dc.dn hLv)).fS (aC.dn Z)).fS (aC.dn a0);unfold fb at hM;refine am hS fun a hS=>?_;refine kb hS fun a2 av a w hk hS=>?_;refine ka hS mr fun e b0 a w hk hS=>?_;refine am hS fun a hS=>?_;obtain⟨W,A,hM⟩:=bd hM;refine kc hS Gb (l3 _ _ hS.dlt j _ A) fun _ w hR a hk hA=>?_;obtain rfl:=hR;have hS:=ce hA;refine am hS fun a hS=>?_;refine ay ?_;refine ay ?_;refine dr [] hS fun w hQ hS=>?_;refine gE [0,1,2] hS fun a hS=>?_;rcases cd hM with⟨I,hM⟩|⟨I,hM⟩
 ·refine gE [3,4,5,6,7,8,9,10,11,12,13,14] hS fun a hS=>?_;refine eD ?_;refine am hS fun a hS=>?_;refine qy hS (bp (ps:=[(0,.const (.bool true))]) hS uk mr rfl (us:=[[.bool true]]) ⟨rfl,trivial⟩ (ws:=[.bool true,aZ bW,al 0,aZ bW]) rfl) fun a hS=>?_;refine go hS fun a w hS=>?_;cases hM
  refine aG hS rfl (rC 0 hS) ?_;exact rfl
 refine gE [3,4,5,6,7,8] hS fun a hS=>?_;rcases cd hM with⟨l,hM⟩|⟨l,hM⟩
 ·refine gE [9,10,11,12,13,14] hS fun a hS=>?_;refine eD ?_;refine am hS fun a hS=>?_;refine qy hS (bp (ps:=[(0,.const (.bool true))]) hS uk mr rfl (us:=[[.bool true]]) ⟨rfl,trivial⟩ (ws:=[.bool true,aZ bW,al 0,aZ bW]) rfl) fun a hS=>?_;refine go hS fun a w hS=>?_;cases hM
  refine aG hS rfl (rC 0 hS) ?_;exact rfl
 refine gE [9,10,12] hS fun a hS=>?_;obtain⟨q,B,hM⟩:=bd hM;refine cS (i:=11) rfl (by kernel_rfl) hS rfl rfl rfl l (bz hS Dl rfl rfl (mO _ _ hS.dlt (hS.get 2 rfl) b W _ (hS.get 1 rfl) _ B) fun _ w hR a hk hA=>⟨fA (hk),?_⟩);obtain rfl:=hR;have hS:=ce hA;refine wO 13 (v:=.bool (!(q.Kind==j.Kind&&q.Text.toList==j.Text.toList))) rfl (by kernel_rfl) (by kernel_rfl) (by kernel_rfl) rfl hQ hS (yo hS rfl rfl) rfl rfl rfl l rfl rfl fun a hS=>?_;refine gE [14] hS fun a hS=>?_;refine eD ?_;refine am hS fun a hS=>?_;rcases cd hM with⟨K,hM⟩|⟨K,hM⟩
 ·refine am hS fun a hS=>?_;refine qy hS (bp (ps:=[(0,.const (.bool true))]) hS uk mr rfl (us:=[[.bool true]]) ⟨rfl,trivial⟩ (ws:=[.bool true,aZ bW,al 0,aZ bW]) rfl) fun a hS=>?_;refine go hS fun a w hS=>?_;cases hM
  refine aG hS rfl (rC 0 hS) ?_;exact rfl
 refine am hS fun a hS=>?_;obtain⟨G,s,hM⟩:=bd hM;refine wl rfl (bu (R:=ar) hS vk pM rfl rfl 1 rfl s rfl fun a3 b3 af L a hS=>?_);obtain⟨b8,rfl,F⟩:=L;replace hS:=hS.fS F;refine am hS fun a hS=>?_;refine ka hS rK fun a4 b1 a w hk hS=>?_;refine go hS fun a w hS=>?_;refine ay ?_;refine am hS fun a hS=>?_;rcases cd hM with⟨M,hM⟩|⟨M,hM⟩
 ·refine am hS fun a hS=>?_;refine ay ?_;refine dr [(9,.blk (some e))] hS fun w hQ hS=>?_;refine gE [0,1,2,3,4] hS fun a hS=>?_;obtain⟨V,u,hM⟩:=bd hM;obtain⟨Y,O,hS⟩:=JX (R:=aR.str) hS A9 HK 2 rfl u;refine dy 5 (v:=Y) rfl (by kernel_rfl) (by kernel_rfl) (by kernel_rfl) rfl hQ hS (O (k1:=.i64) rfl (.inr ⟨rfl,rfl⟩) (.inl ⟨_,rfl,rfl⟩)) rfl rfl rfl fun a hS=>?_;obtain⟨X,C,hM⟩:=bd hM;refine ec 6 hS JF (x7 _ _ hS.dlt G V _ _ (hS.get 1 rfl) (hS.get 0 rfl) _ C) fun _ w hR a hk hA=>?_;obtain rfl:=hR;have hS:=ce hA;obtain⟨o,D,hM⟩:=bd hM;refine ec 7 hS Cn (wj _ _ hS.dlt (hS.get 5 rfl) X _ D) fun _ w hR a hk hA=>?_;obtain rfl:=hR;have hS:=ce hA;refine dy 8 (v:=.agg #[.bool true,aZ o,al 0,aZ bW]) rfl (by kernel_rfl) (by kernel_rfl) (by kernel_rfl) rfl hQ hS (bp (ps:=[(0,.const (.bool true)),(1,.tmp 48)]) hS uk mr rfl (us:=[[.bool true],[aZ o]]) ⟨rfl,⟨rfl,trivial⟩⟩ (ws:=[.bool true,aZ o,al 0,aZ bW]) rfl) rfl rfl rfl fun a hS=>?_;refine es 9 hS fun w hS=>?_;refine eD ?_;refine am hS fun a hS=>?_;cases hM
  refine aG hS rfl (rC 1 hS) ?_;exact rfl
 refine am hS fun a hS=>?_;obtain⟨f,r,hM⟩:=bd hM;refine wl rfl (bu (R:=dJ) hS Ft FD rfl rfl 0 rfl r rfl fun a5 b4 ag P a hS=>?_);obtain rfl:=P;refine am hS fun a hS=>?_;refine ka hS xK fun g b2 a w hk hS=>?_;refine go hS fun a w hS=>?_;refine aK (J:=fun a w=>∃ (c:Int),St W0 No T 84 [(0,p),(6,pt e 0),(10,pt g 0),(11,al c)] [.box e [.bool false,aZ bW,al 0,aZ bW] 140,.box g (HX f) 119] [aL ar p b,br] a w∧iV b f c=some y) ?_ ?_
 ·skip;refine aK (J:=fun a w=>∃ (k:Bool),St W0 No T 84 [(0,p),(6,pt e 0),(10,pt g 0),(11,al f.N),(72,.bool k)] [.box e [.bool false,aZ bW,al 0,aZ bW] 140,.box g (HX f) 119] [aL ar p b,br] a w∧iW b f k=some y) ?_ ?_
  ·skip;refine am hS fun a hS=>?_;rcases cd hM with⟨Q,hM⟩|⟨Q,hM⟩
   ·refine am hS fun a hS=>?_;rcases cd hM with⟨h,hM⟩|⟨h,hM⟩
    ·exact fz
    refine am hS fun a hS=>?_;obtain⟨H,t,hM⟩:=bd hM;refine wg hS rfl rfl rfl h (bu (R:=aR.str) hS A9 HK rfl rfl 3 rfl t rfl fun a9 b5 ak S a hS=>?_);obtain rfl:=S;refine am hS fun a hS=>?_;obtain⟨b6,E,hM⟩:=bd hM;refine wg hS rfl rfl rfl h (bz hS Hy rfl rfl (tb _ _ hS.dlt H _ E) fun _ w hR a hk hA=>?_);obtain rfl:=hR;have hS:=ce hA;refine qg hS h (yT hS rfl rfl (by decide)) fun a hS=>?_;exact fz
   exact fz
  rintro a w ⟨k,hS,hM⟩;unfold iW at hM;exact fz
 rintro a w ⟨c,hS,hM⟩;unfold iV at hM;refine ay ?_;refine am hS fun a hS=>?_;rcases cd hM with⟨U,hM⟩|⟨U,hM⟩
 ·refine am hS fun a hS=>?_;obtain⟨m,x,hM⟩:=bd hM;refine kc hS Ia (qP _ _ hS.dlt (hS.get 1 rfl) c _ x) fun _ w hR a hk hA=>?_;obtain rfl:=hR;have hS:=ce hA;refine qy hS (bp (ps:=[(2,.tmp 78)]) hS uk mr rfl (us:=[(aV m)]) ⟨rfl,trivial⟩ (ws:=[.bool false,aZ bW,al m.Kind,aZ m.Text]) rfl) fun a hS=>?_;refine go hS fun a w hS=>?_;cases hM
  refine aG hS rfl (rC 0 hS) ?_;exact rfl
 refine am hS fun a hS=>?_;obtain⟨n,z,hM⟩:=bd hM;refine kc hS Dl (mO _ _ hS.dlt (hS.get 1 rfl) b c _ (hS.get 0 rfl) _ z) fun _ w hR a hk hA=>?_;obtain rfl:=hR;have hS:=ce hA;refine qy hS (bp (ps:=[(2,.tmp 82)]) hS uk mr rfl (us:=[(aV n)]) ⟨rfl,trivial⟩ (ws:=[.bool false,aZ bW,al n.Kind,aZ n.Text]) rfl) fun a hS=>?_;refine go hS fun a w hS=>?_;cases hM
 refine aG hS rfl (rC 0 hS) ?_;exact rfl
def dC (d:LU) (c:ae) (b:LY):Option nC:=cond (c.Kind==31) ((fb d c b).bind fun e=>some (e)) (cond (c.Kind==32) ((fb d c b).bind fun f=>some (f)) ((cm c).bind fun g=>cond g (some ((nC.mk true bW (ae.mk 0 bW)))) (cond (decide (c.Kind<1)) (some ((nC.mk true bW (ae.mk 0 bW)))) (cond (decide ((22:Int)<c.Kind)) (some ((nC.mk true bW (ae.mk 0 bW)))) (none)))))
theorem eO (T:Nat→Prop) (W0:World) (hT:TW T W0) (hLv:dc T W0) (c:LU) (d:ae) (b:LY) (o:Value) (p:Value) (m:aC ar T W0 o c) (n:aC aR.str T W0 p b) (y:nC) (hM:dC c d b=some y):a7 aO No 99 [o,.agg (aV d).toArray,p] W0 (fun v w'=>v = .agg (Hh y).toArray):=by
 refine en Tryz.func99 Tryz.ntmps99 hT fun a hS=>?_;replace hS:=((hS.fact br (dc.dn hLv)).fS (aC.dn m)).fS (aC.dn n);unfold dC at hM;refine am hS fun a hS=>?_;refine kb hS fun q s a w hk hS=>?_;refine ka hS mr fun r t a w hk hS=>?_;refine am hS fun a hS=>?_;refine ay ?_;refine am hS fun a hS=>?_;refine jg ?_;refine am hS fun a hS=>?_;rcases cd hM with⟨h,hM⟩|⟨h,hM⟩
 ·refine am hS fun a hS=>?_;obtain⟨u,e,hM⟩:=bd hM;refine kc hS Hr (un _ _ hS.dlt (hS.get 2 rfl) c d b _ _ (hS.get 1 rfl) (hS.get 0 rfl) _ e) fun _ w hR a hk hA=>?_;obtain rfl:=hR;have hS:=ce hA;refine go hS fun a w hS=>?_;cases hM
  refine aG hS rfl (rC 0 hS) ?_;exact rfl
 refine am hS fun a hS=>?_;rcases cd hM with⟨i,hM⟩|⟨i,hM⟩
 ·refine am hS fun a hS=>?_;obtain⟨x,f,hM⟩:=bd hM;refine kc hS Hr (un _ _ hS.dlt (hS.get 2 rfl) c d b _ _ (hS.get 1 rfl) (hS.get 0 rfl) _ f) fun _ w hR a hk hA=>?_;obtain rfl:=hR;have hS:=ce hA;refine go hS fun a w hS=>?_;cases hM
  refine aG hS rfl (rC 0 hS) ?_;exact rfl
 refine am hS fun a hS=>?_;refine jg ?_;refine am hS fun a hS=>?_;obtain⟨z,g,hM⟩:=bd hM;refine kc hS wG (da _ _ hS.dlt d _ g) fun _ w hR a hk hA=>?_;obtain rfl:=hR;have hS:=ce hA;refine am hS fun a hS=>?_;rcases cd hM with⟨j,hM⟩|⟨j,hM⟩
 ·refine am hS fun a hS=>?_;refine qy hS (bp (ps:=[(0,.const (.bool true))]) hS uk mr rfl (us:=[[.bool true]]) ⟨rfl,trivial⟩ (ws:=[.bool true,aZ bW,al 0,aZ bW]) rfl) fun a hS=>?_;refine go hS fun a w hS=>?_;cases hM
  refine aG hS rfl (rC 0 hS) ?_;exact rfl
 refine am hS fun a hS=>?_;rcases cd hM with⟨k,hM⟩|⟨k,hM⟩
 ·refine am hS fun a hS=>?_;refine qy hS (bp (ps:=[(0,.const (.bool true))]) hS uk mr rfl (us:=[[.bool true]]) ⟨rfl,trivial⟩ (ws:=[.bool true,aZ bW,al 0,aZ bW]) rfl) fun a hS=>?_;refine go hS fun a w hS=>?_;cases hM
  refine aG hS rfl (rC 0 hS) ?_;exact rfl
 refine am hS fun a hS=>?_;rcases cd hM with⟨l,hM⟩|⟨l,hM⟩
 ·refine am hS fun a hS=>?_;refine qy hS (bp (ps:=[(0,.const (.bool true))]) hS uk mr rfl (us:=[[.bool true]]) ⟨rfl,trivial⟩ (ws:=[.bool true,aZ bW,al 0,aZ bW]) rfl) fun a hS=>?_;refine go hS fun a w hS=>?_;cases hM
  refine aG hS rfl (rC 0 hS) ?_;exact rfl
 refine am hS fun a hS=>?_;cases hM
def l7 (b:LR):Option LR:=some (b)
def l8 (e:ad) (b:LR) (d:Bool):Option LR:=cond (!(d)) ((eQ e).bind fun c=>gd (bL (b.length+([c]).length)) <| l7 (b++([c]))) (l7 b)
def fY (b:Int) (c:LR) (d:Bool):Option (Fl (LR×Bool×Int) (LR×Bool)):=some (.go (c,d,IntKind.i64.wrap (b+1)))
def fZ (d:Int) (c:ad) (f:Int) (b:LR) (e:Bool):Option (Fl (LR×Bool×Int) (LR×Bool)):=cond (f != 0) (gd (bL (b.length+([c]).length)) <| fY d (b++([c])) e) (fY d b e)
def f0 (i:ad) (b:LR) (h:Bool) (d:Int) (c:ad) (e:Int) (g:Bool):Option (Fl (LR×Bool×Int) (LR×Bool)):=cond g ((eQ i).bind fun f=>gd (bL (b.length+([f]).length)) <| fZ d c e (b++([f])) true) (fZ d c e b h)
def ox (h:LR) (g:ad) (e:LR) (c:Bool) (b:Int):Option (Fl (LR×Bool×Int) (LR×Bool)):=cond (decide (b<(h.length:Int))) ((bk h b).bind fun d=>(iT d.Key g.Key).bind fun f=>cond (decide ((0:Int)≤f)) (f0 g e c b d f (!(c))) (f0 g e c b d f false)) (some (.out (e,c)))
def ki (c:LR) (b:ad):Option LR:=(loop (fun s:LR×Bool×Int=>ox c b s.1 s.2.1 s.2.2) (([]:List ad),false,0)).bind fun r=>l8 b r.1 r.2
theorem vI (T:Nat→Prop) (W0:World) (hT:TW T W0) (hLv:dc T W0) (f:LR) (b:ad) (p:Value) (m:Value) (av:aC aa T W0 p f) (b0:aC ac T W0 m b.Reads) (y:LR) (hM:ki f b=some y):a7 aO No 119 [p,.agg (aE b m).toArray] W0 (fun v w'=>∃ (v3:Value) (uQ:ba),v=v3∧ge aa T W0 w' [ah v3 uQ] 33 v3 uQ y):=by
 refine en Tryz.func119 Tryz.ntmps119 hT fun a hS=>?_;replace hS:=((hS.fact br (dc.dn hLv)).fS (aC.dn av)).fS (aC.dn b0);unfold ki at hM;refine am hS fun a hS=>?_;refine kb hS fun d bl a w hk hS=>?_;refine am hS fun a hS=>?_;refine aK (J:=fun a w=>∃ (t:LR) (H:Bool) (L:Value) (B:LV),St W0 No T 47 [(3,pt d 0),(5,L),(6,.bool H)] [ah L B,.box d (aE b m) 33] [an aa B t,aL ac m b.Reads,br] a w∧l8 b t H=some y) ?_ ?_
 ·skip;refine am hS fun a hS=>?_;replace hS:=hS.nilRow aa 33 (by decide);obtain⟨r1,ak,hMo1⟩:=bd hM;refine bx _ (fun s a w=>∃ (g:LR) (h:Bool) (e:Int) (o:Value) (n:LV),(g,h,e)=s∧St W0 No T 47 [(3,pt d 0),(5,o),(6,.bool h),(10,p),(11,al (f.length:Int)),(12,al e)] [ah o n,.box d (aE b m) 33] [an aa n g,aL aa p f,aL ac m b.Reads,br] a w) ak ⟨_,_,_,_,_,rfl,hS.mt [0,1] [0,2,1,3]⟩ ?_;rintro s a w U ⟨g,h,e,o,n,rfl,hS⟩ hM hf1;have hM:ox f b g h e=some U:=hM;unfold ox at hM;refine am hS fun a hS=>?_;refine ay ?_;rcases cd hM with⟨a0,hM⟩|⟨a0,hM⟩
  ·refine am hS fun a hS=>?_;refine aK (J:=fun a w=>∃ (G:LR) (I:Bool) (M:Value) (C:LV),St W0 No T 47 [(3,pt d 0),(5,M),(6,.bool I),(10,p),(11,al (f.length:Int)),(12,al e)] [ah M C,.box d (aE b m) 33] [an aa C G,aL aa p f,aL ac m b.Reads,br] a w∧fY e G I=some U) ?_ ?_
   ·skip;refine am hS fun a hS=>?_;obtain⟨c,V,hM⟩:=bd hM;refine wl rfl (bu (R:=aa) hS dW bX rfl rfl 1 rfl V rfl fun b1 bt b5 a1 a hS=>?_);obtain⟨j,rfl,Z⟩:=a1;replace hS:=hS.fS Z;refine am hS fun a hS=>?_;refine ka hS dD fun q bs a w hk hS=>?_;refine go hS fun a w hS=>?_;obtain⟨z,X,hM⟩:=bd hM;refine kc hS Dk (lB _ _ hS.dlt (hS.get 5 rfl) c.Key b.Key _ X) fun _ w hR a hk hA=>?_;obtain rfl:=hR;have hS:=ce hA;refine am hS fun a hS=>?_;refine aK (J:=fun a w=>∃ (u:LR) (K:Bool) (N:Value) (D:LV),St W0 No T 47 [(3,pt d 0),(5,N),(6,.bool K),(8,pt q 0),(9,al z),(10,p),(11,al (f.length:Int)),(12,al e)] [ah N D,.box d (aE b m) 33,.box q (aE c j) 33] [an aa D u,aL aa p f,aL ac m b.Reads,aL ac j c.Reads,br] a w∧fZ e c z u K=some U) ?_ ?_
    ·skip;refine aK (J:=fun a w=>∃ (E:Bool),St W0 No T 47 [(3,pt d 0),(5,o),(6,.bool h),(8,pt q 0),(9,al z),(10,p),(11,al (f.length:Int)),(12,al e),(26,.bool E)] [ah o n,.box d (aE b m) 33,.box q (aE c j) 33] [an aa n g,aL aa p f,aL ac m b.Reads,aL ac j c.Reads,br] a w∧f0 b g h e c z E=some U) ?_ ?_
     ·exact fz
     rintro a w ⟨E,hS,hM⟩;unfold f0 at hM;rcases cd hM with⟨a2,hM⟩|⟨a2,hM⟩
     ·refine am hS fun a hS=>?_;obtain⟨l,Y,hM⟩:=bd hM;refine kc hS F9 (kZ _ _ hS.dlt b _ (hS.get 2 rfl) _ Y) fun _ w hR a hk hA=>?_;obtain⟨O,b6,he,Q⟩:=hR;obtain rfl:=he.symm;have hS:=pz hA Q;refine wl rfl (bj (ps:=[(0,.tmp 29)]) hS pp dD (zl:=[al 0,aZ bW,aZ bW,.slice none 0 0,al 0,al 0,al 0,.bool false]) (by kernel_rfl) rfl (us:=[(aE l O)]) ⟨rfl,trivial⟩ (ws:=(aE l O)) rfl rfl rfl rfl fun b2 a w hk hS=>?_);replace hS:=hS.freeze (R:=ac) 1 rfl 0 rfl;replace hS:=(hS.lit (R:=aa) (us:=(aE l O)) (xs:=[l]) 0 rfl (by decide) (az.one_ (R:=aa) (x:=l) (⟨_,rfl,(hS.get 0 rfl)⟩)) rfl rfl).freeze (R:=aa) 0 rfl 0 rfl;obtain⟨a3,hM⟩:=bm hM;refine wl rfl (bB (R:=aa) (xs:=g) (ys:=[l]) hS pp (by decide) (by decide) rfl rfl 0 rfl 4 rfl 0 rfl a3 rfl fun c0 b8 a w hk hS=>?_);exact fz
     exact fz
    rintro a w ⟨u,K,N,D,hS,hM⟩;unfold fZ at hM;refine am hS fun a hS=>?_;rcases cd hM with⟨a4,hM⟩|⟨a4,hM⟩
    ·refine am hS fun a hS=>?_;refine wl rfl (bj (ps:=[(0,.tmp 35)]) hS pp dD (zl:=[al 0,aZ bW,aZ bW,.slice none 0 0,al 0,al 0,al 0,.bool false]) (by kernel_rfl) rfl (us:=[(aE c j)]) ⟨rfl,trivial⟩ (ws:=(aE c j)) rfl rfl rfl rfl fun b3 a w hk hS=>?_);replace hS:=(hS.lit (R:=aa) (us:=(aE c j)) (xs:=[c]) 0 rfl (by decide) (az.one_ (R:=aa) (x:=c) (⟨_,rfl,(hS.get 3 rfl)⟩)) rfl rfl).freeze (R:=aa) 0 rfl 0 rfl;obtain⟨a5,hM⟩:=bm hM;refine wl rfl (bB (R:=aa) (xs:=u) (ys:=[c]) hS pp (by decide) (by decide) rfl rfl 0 rfl 2 rfl 0 rfl a5 rfl fun c1 b9 a w hk hS=>?_);exact fz
    exact fz
   rintro a w ⟨G,I,M,C,hS,hM⟩;unfold fY at hM;exact fz
  refine am hS fun a hS=>?_;cases hM
  have hr:=hf1 _ rfl;subst hr;have hM:l8 b g h=some y:=hMo1;exact⟨_,_,_,_,hS.mt [0,1] [0,2,3],hM⟩
 rintro a w ⟨t,H,L,B,hS,hM⟩;unfold l8 at hM;refine aK (J:=fun a w=>∃ (F:LR) (A:Value) (r:LV),St W0 No T 47 [(5,A)] [ah A r] [an aa r F,br] a w∧l7 F=some y) ?_ ?_
 ·skip;refine am hS fun a hS=>?_;rcases cd hM with⟨a9,hM⟩|⟨a9,hM⟩
  ·refine am hS fun a hS=>?_;obtain⟨k,W,hM⟩:=bd hM;refine kc hS F9 (kZ _ _ hS.dlt b _ (hS.get 1 rfl) _ W) fun _ w hR a hk hA=>?_;obtain⟨P,bb,he,S⟩:=hR;obtain rfl:=he.symm;have hS:=pz hA S;refine wl rfl (bj (ps:=[(0,.tmp 43)]) hS pp dD (zl:=[al 0,aZ bW,aZ bW,.slice none 0 0,al 0,al 0,al 0,.bool false]) (by kernel_rfl) rfl (us:=[(aE k P)]) ⟨rfl,trivial⟩ (ws:=(aE k P)) rfl rfl rfl rfl fun b4 a w hk hS=>?_);replace hS:=hS.freeze (R:=ac) 1 rfl 0 rfl;replace hS:=(hS.lit (R:=aa) (us:=(aE k P)) (xs:=[k]) 0 rfl (by decide) (az.one_ (R:=aa) (x:=k) (⟨_,rfl,(hS.get 0 rfl)⟩)) rfl rfl).freeze (R:=aa) 0 rfl 0 rfl;obtain⟨af,hM⟩:=bm hM;refine wl rfl (bB (R:=aa) (xs:=t) (ys:=[k]) hS pp (by decide) (by decide) rfl rfl 0 rfl 4 rfl 0 rfl af rfl fun c2 bi a w hk hS=>?_);exact fz
  exact fz
 rintro a w ⟨F,A,r,hS,hM⟩;unfold l7 at hM;refine am hS fun a hS=>?_;cases hM
 refine aG hS rfl (aw hS rfl aF) ?_;exact⟨A,r,rfl,hS.retOwn ⟨.inr (aH (i:=0) rfl),trivial⟩ 0 rfl 0 rfl⟩
def kQ (e:ai) (f:ae) (c:ByteArray) (b:LK) (d:Int):Option ad:=some ((ad.mk f c b d e.Revision (IntKind.i64.wrap (1+(b.length:Int))) false))
def nu (d:ai) (e:ae) (c:ByteArray) (b:LK) (g:(ad×Bool)) (f:Bool):Option ad:=cond f (kQ d e c b g.1.Changed) (kQ d e c b d.Revision)
def mU (e:ai) (f:ae) (b:ByteArray) (d:LK):Option ad:=(cw e.Records f).bind fun c=>cond c.2 (nu e f b d c (c.1.Value.toList==b.toList)) (nu e f b d c false)
theorem ux (T:Nat→Prop) (W0:World) (hT:TW T W0) (d:ai) (e:ae) (c:ByteArray) (b:LK) (t:Value) (u:Value) (h:Value) (q:aC ab T W0 t d.Inputs) (r:aC aa T W0 u d.Records) (s:aC ac T W0 h b) (y:ad) (hM:mU d e c b=some y):a7 aO No 120 [.agg (a6 d t u).toArray,.agg (aV e).toArray,aZ c,h] W0 (fun v w'=>∃ (x:Value),v = .agg (aE y x).toArray∧aC ac (dT T []) w' x y.Reads):=by
 refine en Tryz.func120 Tryz.ntmps120 hT fun a hS=>?_;replace hS:=((hS.fS (aC.dn q)).fS (aC.dn r)).fS (aC.dn s);unfold mU at hM;refine am hS fun a hS=>?_;refine kb hS fun z B a w hk hS=>?_;refine kb hS fun A C a w hk hS=>?_;refine ka hS dD fun f D a w hk hS=>?_;refine am hS fun a hS=>?_;refine qy hS (bp (ps:=[(0,.tmp 12),(1,.tmp 13),(2,.tmp 14),(3,.tmp 16),(4,.tmp 18),(5,.tmp 21)]) hS E4 dD rfl (us:=[(aV e),[aZ c],[h],[al d.Revision],[al d.Revision],[al (IntKind.i64.wrap (1+(b.length:Int)))]]) ⟨rfl,⟨rfl,⟨(lh (aC.one ((hS.get 0 rfl):aC ac _ _ _ _))),⟨rfl,⟨rfl,⟨rfl,trivial⟩⟩⟩⟩⟩⟩ (ws:=[al e.Kind,aZ e.Text,aZ c,h,al d.Revision,al d.Revision,al (IntKind.i64.wrap (1+(b.length:Int))),.bool false]) rfl) fun a hS=>?_;refine ka hS dD fun g E a w hk hS=>?_;refine go hS fun a w hS=>?_;refine aK (J:=fun a w=>∃ (j:Int),St W0 No T 41 [(8,pt f 0),(9,pt g 0)] [.box f [al 0,aZ bW,aZ bW,.slice none 0 0,al 0,al 0,al 0,.bool false] 33,.box g [al e.Kind,aZ e.Text,aZ c,h,al j,al d.Revision,al (IntKind.i64.wrap (1+(b.length:Int))),.bool false] 33] [aL ac h b] a w∧kQ d e c b j=some y) ?_ ?_
 ·skip;refine am hS fun a hS=>?_;obtain⟨k,p,hM⟩:=bd hM;refine kc hS pO (bH _ _ hS.dlt d.Records e _ (hS.get 1 rfl) _ p) fun _ w hR a hk hA=>?_;obtain⟨o,m,he,n⟩:=hR;obtain rfl:=he.symm;have hS:=pz hA n;refine am hS fun a hS=>?_;refine ka hS dD fun l F a w hk hS=>?_;refine go hS fun a w hS=>?_;refine aK (J:=fun a w=>∃ (i:Bool),St W0 No T 41 [(8,pt f 0),(9,pt g 0),(10,pt l 0),(36,.bool i)] [.box f [al 0,aZ bW,aZ bW,.slice none 0 0,al 0,al 0,al 0,.bool false] 33,.box g [al e.Kind,aZ e.Text,aZ c,h,al d.Revision,al d.Revision,al (IntKind.i64.wrap (1+(b.length:Int))),.bool false] 33,ax o m,.box l (aE k.1 o) 33] [aL ac h b,an ac m k.1.Reads] a w∧nu d e c b k i=some y) ?_ ?_
  ·exact fz
  rintro a w ⟨i,hS,hM⟩;unfold nu at hM;exact fz
 rintro a w ⟨j,hS,hM⟩;unfold kQ at hM;refine go hS fun a w hS=>?_;cases hM
 refine aG hS rfl (rC 0 hS) ?_;exact⟨h,rfl,(aC.up trivial (hS.get 0 rfl))⟩
def i6 (h:ai) (i:LF) (b:LF) (c:ae) (d:Bool):Option Int:=cond d (some (3)) ((f7 h i c).bind fun e=>cond (!(e)) (some (0)) ((me b c).bind fun f=>cond (!(f)) (some (1)) ((b7 c).bind fun g=>cond g (some (0)) (some (2)))))
def mV (e:ai) (d:LF) (b:LF) (c:ae):Option Int:=(b7 c).bind fun f=>cond (!(f)) ((me d c).bind fun g=>i6 e d b c g) (i6 e d b c false)
theorem uA (T:Nat→Prop) (W0:World) (hT:TW T W0) (c:ai) (e:LF) (b:LF) (d:ae) (o:Value) (p:Value) (q:Value) (r:Value) (x:aC ab T W0 o c.Inputs) (z:aC aa T W0 p c.Records) (A:aC au T W0 q e) (B:aC au T W0 r b) (y:Int) (hM:mV c e b d=some y):a7 aO No 151 [.agg (a6 c o p).toArray,q,r,.agg (aV d).toArray] W0 (fun v w'=>v=al y):=by
 refine en Tryz.func151 Tryz.ntmps151 hT fun a hS=>?_;replace hS:=(((hS.fS (aC.dn x)).fS (aC.dn z)).fS (aC.dn A)).fS (aC.dn B);unfold mV at hM;refine am hS fun a hS=>?_;refine kb hS fun g C a w hk hS=>?_;refine kb hS fun h D a w hk hS=>?_;refine am hS fun a hS=>?_;refine ay ?_;refine am hS fun a hS=>?_;refine aK (J:=fun a w=>∃ (f:Bool),St W0 No T 32 [(1,q),(2,r),(4,pt g 0),(7,pt h 0),(9,.bool f)] [.box g (a6 c o p) 25,.box h (aV d) 31] [aL au q e,aL au r b,aL ab o c.Inputs,aL aa p c.Records] a w∧i6 c e b d f=some y) ?_ ?_
 ·skip;refine am hS fun a hS=>?_;obtain⟨H,m,hM⟩:=bd hM;refine kc hS uP (cu _ _ hS.dlt d _ m) fun _ w hR a hk hA=>?_;obtain rfl:=hR;have hS:=ce hA;refine am hS fun a hS=>?_;rcases cd hM with⟨i,hM⟩|⟨i,hM⟩
  ·refine am hS fun a hS=>?_;obtain⟨I,n,hM⟩:=bd hM;refine wg hS rfl rfl rfl i (bz hS Eq rfl rfl (tG _ _ hS.dlt e d _ (hS.get 1 rfl) _ n) fun _ w hR a hk hA=>?_);obtain rfl:=hR;have hS:=ce hA;exact fz
  exact fz
 rintro a w ⟨f,hS,hM⟩;unfold i6 at hM;rcases cd hM with⟨s,hM⟩|⟨s,hM⟩
 ·exact fz
 refine am hS fun a hS=>?_;obtain⟨E,j,hM⟩:=bd hM;refine kc hS Hv (sc _ _ hS.dlt c e d _ _ _ (hS.get 2 rfl) (hS.get 3 rfl) (hS.get 0 rfl) _ j) fun _ w hR a hk hA=>?_;obtain rfl:=hR;have hS:=ce hA;refine am hS fun a hS=>?_;rcases cd hM with⟨t,hM⟩|⟨t,hM⟩
 ·exact fz
 refine am hS fun a hS=>?_;obtain⟨F,k,hM⟩:=bd hM;refine kc hS Eq (tG _ _ hS.dlt b d _ (hS.get 1 rfl) _ k) fun _ w hR a hk hA=>?_;obtain rfl:=hR;have hS:=ce hA;refine am hS fun a hS=>?_;rcases cd hM with⟨u,hM⟩|⟨u,hM⟩
 ·exact fz
 refine am hS fun a hS=>?_;obtain⟨G,l,hM⟩:=bd hM;refine kc hS uP (cu _ _ hS.dlt d _ l) fun _ w hR a hk hA=>?_;obtain rfl:=hR;have hS:=ce hA;exact fz
def rY (b:Int):Option ByteArray:=cond (b==14) (some ((ByteArray.mk #[48]))) (some (bW))
theorem x6 (T:Nat→Prop) (W0:World) (hT:TW T W0) (b:Int) (y:ByteArray) (hM:rY b=some y):a7 aO No 142 [al b] W0 (fun v w'=>v=aZ y):=by
 refine en Tryz.func142 Tryz.ntmps142 hT fun a hS=>?_;unfold rY at hM;refine am hS fun a hS=>?_;refine ay ?_;exact fz
def ie (b:ae):Option ByteArray:=cond (b.Kind==32) (some ((ByteArray.mk #[48]))) ((b7 b).bind fun c=>cond c ((rY b.Kind).bind fun d=>some (d)) (some (bW)))
theorem pV (T:Nat→Prop) (W0:World) (hT:TW T W0) (b:ae) (y:ByteArray) (hM:ie b=some y):a7 aO No 122 [.agg (aV b).toArray] W0 (fun v w'=>v=aZ y):=by
 refine en Tryz.func122 Tryz.ntmps122 hT fun a hS=>?_;unfold ie at hM;refine am hS fun a hS=>?_;refine kb hS fun g h a w hk hS=>?_;refine am hS fun a hS=>?_;refine ay ?_;refine am hS fun a hS=>?_;rcases cd hM with⟨e,hM⟩|⟨e,hM⟩
 ·exact fz
 refine am hS fun a hS=>?_;obtain⟨i,c,hM⟩:=bd hM;refine kc hS uP (cu _ _ hS.dlt b _ c) fun _ w hR a hk hA=>?_;obtain rfl:=hR;have hS:=ce hA;refine am hS fun a hS=>?_;rcases cd hM with⟨f,hM⟩|⟨f,hM⟩
 ·refine am hS fun a hS=>?_;obtain⟨j,d,hM⟩:=bd hM;refine kc hS JE (x6 _ _ hS.dlt b.Kind _ d) fun _ w hR a hk hA=>?_;obtain rfl:=hR;have hS:=ce hA;exact fz
 exact fz
def lw (vrec:ao→ae→Option (ByteArray×ao)):Prop:=∀ (T:Nat→Prop) (W0:World) (hT:∀ k,T k→k<W0.heap.size) (t:ao) (u:ae) (d:Nat) (n:Value) (o:Value) (p:Value) (b:Nat) (f:Array MapEntry) (h:Nat) (c:Nat) (g:Array MapEntry) (e:Nat) (hD:tU T W0 [.box d [n,al t.Base.Revision,o,p,.map (some b),.map (some c)] 137,.obj b (.map f h),.obj c (.map g e)]) (A:aC ar (dT T [.box d [n,al t.Base.Revision,o,p,.map (some b),.map (some c)] 137,.obj b (.map f h),.obj c (.map g e)]) W0 n t.Rules) (B:aC ab (dT T [.box d [n,al t.Base.Revision,o,p,.map (some b),.map (some c)] 137,.obj b (.map f h),.obj c (.map g e)]) W0 o t.Base.Inputs) (C:aC aa (dT T [.box d [n,al t.Base.Revision,o,p,.map (some b),.map (some c)] 137,.obj b (.map f h),.obj c (.map g e)]) W0 p t.Base.Records) (x:bw ac true aR.str false (dT T [.box d [n,al t.Base.Revision,o,p,.map (some b),.map (some c)] 137,.obj b (.map f h),.obj c (.map g e)]) W0 f t.Memo) (z:bw ac true (aR.slice ac) false (dT T [.box d [n,al t.Base.Revision,o,p,.map (some b),.map (some c)] 137,.obj b (.map f h),.obj c (.map g e)]) W0 g t.Seen) (hLv:dc (dT T [.box d [n,al t.Base.Revision,o,p,.map (some b),.map (some c)] 137,.obj b (.map f h),.obj c (.map g e)]) W0) (y:ByteArray×ao) (hM:vrec t u=some y),a7 aO (MD [.box d [n,al t.Base.Revision,o,p,.map (some b),.map (some c)] 137,.obj b (.map f h),.obj c (.map g e)]) 65 [.pointer (some ⟨d,0,none⟩),.agg #[al u.Kind,aZ u.Text]] W0 (fun v w'=>∃ (q:Value) (r:Value) (s:Value) (i:Array MapEntry) (l:Nat) (j:Array MapEntry) (m:Nat),v=aZ y.1∧lK W0 w' [.box d [n,al t.Base.Revision,o,p,.map (some b),.map (some c)] 137,.obj b (.map f h),.obj c (.map g e)] [.box d [q,al y.2.Base.Revision,r,s,.map (some b),.map (some c)] 137,.obj b (.map i l),.obj c (.map j m)]∧aC ar (dT T [.box d [q,al y.2.Base.Revision,r,s,.map (some b),.map (some c)] 137,.obj b (.map i l),.obj c (.map j m)]) w' q y.2.Rules∧aC ab (dT T [.box d [q,al y.2.Base.Revision,r,s,.map (some b),.map (some c)] 137,.obj b (.map i l),.obj c (.map j m)]) w' r y.2.Base.Inputs∧aC aa (dT T [.box d [q,al y.2.Base.Revision,r,s,.map (some b),.map (some c)] 137,.obj b (.map i l),.obj c (.map j m)]) w' s y.2.Base.Records∧bw ac true aR.str false (dT T [.box d [q,al y.2.Base.Revision,r,s,.map (some b),.map (some c)] 137,.obj b (.map i l),.obj c (.map j m)]) w' i y.2.Memo∧bw ac true (aR.slice ac) false (dT T [.box d [q,al y.2.Base.Revision,r,s,.map (some b),.map (some c)] 137,.obj b (.map i l),.obj c (.map j m)]) w' j y.2.Seen)
def i8 (b:LU) (c:Int) (d:LI) (e:LR) (f:LL) (g:LB):Option ao:=some ((ao.mk b (ai.mk c d e) g f))
def ft (f:LB) (d:LK) (b:Int) (e:LB):Option (Fl (Int×LB) (LB)):=cond (decide (b<(d.length:Int))) ((bk d b).bind fun c=>(some ((cB aM c f).getD bW)).bind fun g=>some (.go (IntKind.i64.wrap (b+1),(de aM c g e)))) (some (.out e))
def dM (b:LB) (c:LK) (d:LU) (e:Int) (f:LI) (g:LR) (i:LB) (h:LL):Option ao:=(loop (fun s:Int×LB=>ft b c s.1 s.2) (0,i)).bind fun r=>i8 d e f g h r
def fq (b:LB) (d:LK) (c:Bool) (e:LU) (f:Int) (g:LI) (h:LR) (i:LB) (j:LL):Option (Fl (LB×LK×Bool×LU×Int×LI×LR×LB×LL) (LB×LK×LU×Int×LI×LR×LB×LL)):=some (.go (b,d,c,e,f,g,h,i,j))
def cX (d:Int) (b:LB) (e:LK) (c:Bool) (f:LU) (g:Int) (h:LI) (i:LR) (j:LB) (k:LL):Option (Fl (LB×LK×Bool×Int×LU×Int×LI×LR×LB×LL) (LB×LK×Bool×LU×Int×LI×LR×LB×LL)):=some (.go (b,e,c,IntKind.i64.wrap (d+1),f,g,h,i,j,k))
def dN (b:Int) (d:LB) (c:LK) (l:Bool) (e:LU) (f:Int) (g:LI) (h:LR) (i:LB) (j:LL) (p:Bool) (k:ByteArray) (q:Int) (r:ByteArray):Option (Fl (LB×LK×Bool×Int×LU×Int×LI×LR×LB×LL) (LB×LK×Bool×LU×Int×LI×LR×LB×LL)):=(bk c b).bind fun m=>(some ((cB aM m d).getD bW)).bind fun o=>cond (!(o.toList==k.toList)) ((bk c b).bind fun n=>cX b (de aM n k d) c true e f g h i j) (cX b d c l e f g h i j)
def cn (j:Int) (c:LY) (g:LB) (e:LK) (h:Bool) (d:ByteArray) (f:LU) (k:Int) (l:LI) (m:LR) (n:LB) (o:LL):Option (Fl (LB×LK×Bool×LY×LU×Int×LI×LR×LB×LL×Bool×ByteArray×Int×ByteArray) (LB×LK×Bool×LU×Int×LI×LR×LB×LL×Bool×ByteArray×Int×ByteArray)):=gd (bL (c.length+([d]).length)) <| (bk e j).bind fun i=>(dC f i (c++([d]))).bind fun b=>some (.go (g,e,h,(c++([d])),f,k,l,m,n,o,b.Done,b.Value,b.Ask.Kind,b.Ask.Text))
def cY (e:Int) (c:LY) (g:LU) (h:Int) (i:LI) (j:LR) (k:LB) (l:LL) (m:Int) (n:ByteArray) (b:LB) (f:LK) (d:Bool):Option (Fl (LB×LK×Bool×LY×LU×Int×LI×LR×LB×LL×Bool×ByteArray×Int×ByteArray) (LB×LK×Bool×LU×Int×LI×LR×LB×LL×Bool×ByteArray×Int×ByteArray)):=(some ((cB aM (ae.mk m n) b).getD bW)).bind fun o=>cn e c b f d o g h i j k l
def cZ (vrec:ao→ae→Option (ByteArray×ao)) (o:Int) (d:LB) (g:LK) (n:Bool) (m:LY) (h:LU) (i:Int) (j:LI) (k:LR) (e:LB) (l:LL) (p:Bool) (q:ByteArray) (b:Int) (c:ByteArray):Option (Fl (LB×LK×Bool×LY×LU×Int×LI×LR×LB×LL×Bool×ByteArray×Int×ByteArray) (LB×LK×Bool×LU×Int×LI×LR×LB×LL×Bool×ByteArray×Int×ByteArray)):=cond (!(p)) ((some ((cB aM (ae.mk b c) e).getD bW)).bind fun r=>cond ((cB aM (ae.mk b c) e).isSome) (cn o m d g n r h i j k e l) ((b7 (ae.mk b c)).bind fun s=>cond (!(s)) ((vrec (ao.mk h (ai.mk i j k) e l) (ae.mk b c)).bind fun f=>cn o m d g n f.1 f.2.Rules f.2.Base.Revision f.2.Base.Inputs f.2.Base.Records f.2.Memo f.2.Seen) ((some ((cB aM (ae.mk b c) d).getD bW)).bind fun u=>cond (!((cB aM (ae.mk b c) d).isSome)) ((ie (ae.mk b c)).bind fun t=>gd (bL (g.length+([(ae.mk b c)]).length)) <| cY o m h i j k e l b c (de aM (ae.mk b c) t d) (g++([(ae.mk b c)])) true) (cY o m h i j k e l b c d g n)))) (some (.out (d,g,n,h,i,j,k,e,l,p,q,b,c)))
def eM (vrec:ao→ae→Option (ByteArray×ao)) (c:LB) (e:LK) (d:Bool) (b:Int) (f:LU) (g:Int) (h:LI) (i:LR) (j:LB) (k:LL) (l:Bool) (m:ByteArray) (n:Int) (o:ByteArray):Option (Fl (LB×LK×Bool×Int×LU×Int×LI×LR×LB×LL) (LB×LK×Bool×LU×Int×LI×LR×LB×LL)):=(loop (fun s:LB×LK×Bool×LY×LU×Int×LI×LR×LB×LL×Bool×ByteArray×Int×ByteArray=>cZ vrec b s.1 s.2.1 s.2.2.1 s.2.2.2.1 s.2.2.2.2.1 s.2.2.2.2.2.1 s.2.2.2.2.2.2.1 s.2.2.2.2.2.2.2.1 s.2.2.2.2.2.2.2.2.1 s.2.2.2.2.2.2.2.2.2.1 s.2.2.2.2.2.2.2.2.2.2.1 s.2.2.2.2.2.2.2.2.2.2.2.1 s.2.2.2.2.2.2.2.2.2.2.2.2.1 s.2.2.2.2.2.2.2.2.2.2.2.2.2) (c,e,d,([]:List ByteArray),f,g,h,i,j,k,l,m,n,o)).bind fun r=>dN b r.1 r.2.1 r.2.2.1 r.2.2.2.1 r.2.2.2.2.1 r.2.2.2.2.2.1 r.2.2.2.2.2.2.1 r.2.2.2.2.2.2.2.1 r.2.2.2.2.2.2.2.2.1 r.2.2.2.2.2.2.2.2.2.1 r.2.2.2.2.2.2.2.2.2.2.1 r.2.2.2.2.2.2.2.2.2.2.2.1 r.2.2.2.2.2.2.2.2.2.2.2.2
def dA (vrec:ao→ae→Option (ByteArray×ao)) (f:LB) (b:LK) (g:Bool) (d:Int) (e:LU) (h:Int) (i:LI) (j:LR) (k:LB) (l:LL):Option (Fl (LB×LK×Bool×Int×LU×Int×LI×LR×LB×LL) (LB×LK×Bool×LU×Int×LI×LR×LB×LL)):=cond (decide (d<(b.length:Int))) ((bk b d).bind fun m=>(dC e m ([])).bind fun c=>eM vrec f b g d e h i j k l c.Done c.Value c.Ask.Kind c.Ask.Text) (some (.out (f,b,g,e,h,i,j,k,l)))
def dB (vrec:ao→ae→Option (ByteArray×ao)) (b:LB) (c:LK) (j:Bool) (d:LU) (e:Int) (f:LI) (g:LR) (h:LB) (i:LL):Option (Fl (LB×LK×Bool×LU×Int×LI×LR×LB×LL) (LB×LK×LU×Int×LI×LR×LB×LL)):=cond j ((loop (fun s:LB×LK×Bool×Int×LU×Int×LI×LR×LB×LL=>dA vrec s.1 s.2.1 s.2.2.1 s.2.2.2.1 s.2.2.2.2.1 s.2.2.2.2.2.1 s.2.2.2.2.2.2.1 s.2.2.2.2.2.2.2.1 s.2.2.2.2.2.2.2.2.1 s.2.2.2.2.2.2.2.2.2) (b,c,false,0,d,e,f,g,h,i)).bind fun r=>fq r.1 r.2.1 r.2.2.1 r.2.2.2.1 r.2.2.2.2.1 r.2.2.2.2.2.1 r.2.2.2.2.2.2.1 r.2.2.2.2.2.2.2.1 r.2.2.2.2.2.2.2.2) (some (.out (b,c,d,e,f,g,h,i)))
def eN (vrec:ao→ae→Option (ByteArray×ao)) (b:ao) (d:ae) (c:LB):Option ao:=(loop (fun s:LB×LK×Bool×LU×Int×LI×LR×LB×LL=>dB vrec s.1 s.2.1 s.2.2.1 s.2.2.2.1 s.2.2.2.2.1 s.2.2.2.2.2.1 s.2.2.2.2.2.2.1 s.2.2.2.2.2.2.2.1 s.2.2.2.2.2.2.2.2) (c,[d],true,b.Rules,b.Base.Revision,b.Base.Inputs,b.Base.Records,b.Memo,b.Seen)).bind fun r=>dM r.1 r.2.1 r.2.2.1 r.2.2.2.1 r.2.2.2.2.1 r.2.2.2.2.2.1 r.2.2.2.2.2.2.1 r.2.2.2.2.2.2.2
def fh (vrec:ao→ae→Option (ByteArray×ao)) (d:ao) (b:ae):Option ao:=(ie b).bind fun c=>eN vrec d b (de aM b c ([]:LB))
theorem r7 (T:Nat→Prop) (W0:World) (hT:TW T W0) (vrec:ao→ae→Option (ByteArray×ao)) (hvrec:lw vrec) (n:ao) (C:ae) (m:Nat) (z:Value) (A:Value) (B:Value) (b:Nat) (p:Array MapEntry) (r:Nat) (d:Nat) (q:Array MapEntry) (o:Nat) (hD:tU T W0 [xS m z n.Base.Revision A B b d,om b p r,om d q o]) (xx:aC ar (dT T [xS m z n.Base.Revision A B b d,om b p r,om d q o]) W0 z n.Rules) (y1:aC ab (dT T [xS m z n.Base.Revision A B b d,om b p r,om d q o]) W0 A n.Base.Inputs) (y2:aC aa (dT T [xS m z n.Base.Revision A B b d,om b p r,om d q o]) W0 B n.Base.Records) (x0:bw ac true aR.str false (dT T [xS m z n.Base.Revision A B b d,om b p r,om d q o]) W0 p n.Memo) (x1:bw ac true (aR.slice ac) false (dT T [xS m z n.Base.Revision A B b d,om b p r,om d q o]) W0 q n.Seen) (hLv:dc (dT T [xS m z n.Base.Revision A B b d,om b p r,om d q o]) W0) (y:ao) (hM:fh vrec n C=some y):a7 aO (MD [xS m z n.Base.Revision A B b d,om b p r,om d q o]) 98 [pt m 0,.agg (aV C).toArray] W0 (fun v w'=>∃ (dl:Value) (dn:Value) (ds:Value) (Z:Array MapEntry) (b0:Nat) (a0:Array MapEntry) (b2:Nat),v = .tuple #[]∧lK W0 w' [xS m z n.Base.Revision A B b d,om b p r,om d q o] [xS m dl y.Base.Revision dn ds b d,om b Z b0,om d a0 b2]∧aC ar (dT T [xS m dl y.Base.Revision dn ds b d,om b Z b0,om d a0 b2]) w' dl y.Rules∧aC ab (dT T [xS m dl y.Base.Revision dn ds b d,om b Z b0,om d a0 b2]) w' dn y.Base.Inputs∧aC aa (dT T [xS m dl y.Base.Revision dn ds b d,om b Z b0,om d a0 b2]) w' ds y.Base.Records∧bw ac true aR.str false (dT T [xS m dl y.Base.Revision dn ds b d,om b Z b0,om d a0 b2]) w' Z y.Memo∧bw ac true (aR.slice ac) false (dT T [xS m dl y.Base.Revision dn ds b d,om b Z b0,om d a0 b2]) w' a0 y.Seen):=by
 refine eL (c:=_) Tryz.func98 rfl T 135 Tryz.ntmps98 hT rfl hD fun a hS=>?_;replace hS:=(((((hS.fact br hLv).fS xx).fS y1).fS y2).fM x0).fM x1;unfold fh at hM;refine am hS fun a hS=>?_;refine kb hS fun no L0 a w hk hS=>?_;refine am hS fun a hS=>?_;refine aK (J:=fun a w=>∃ (g6:LB) (e:Nat) (eq:AM) (gs:Nat),St W0 (MD [xS m z n.Base.Revision A B b d,om b p r,om d q o]) T 135 [(0,pt m 0),(3,pt no 0),(4,.map (some e))] [om e eq gs,om b p r,om d q o,xS m z n.Base.Revision A B b d,.box no (aV C) 31] [my eq g6,xO eq gs,aL ar z n.Rules,aL ab A n.Base.Inputs,aL aa B n.Base.Records,my p n.Memo,pv q n.Seen,br] a w∧eN vrec n C g6=some y) ?_ ?_
 ·skip;refine dr [(4,.any)] hS fun w hQ hS=>?_;refine gE [1,2] hS fun a hS=>?_;obtain⟨g0,nm,hM⟩:=bd hM;refine dm (i:=0) (j:=3) rfl rfl (by kernel_rfl) rfl rfl ?_ ?_
  ·skip;skip;refine id (AF ac true aR.str false hS rfl fun y3 L1 a w hk hS=>⟨fA (hk),?_⟩);refine ec 3 hS En (pV _ _ hS.dlt C _ nm) fun _ w hR a hk hA=>?_;obtain rfl:=hR;have hS:=ce hA;refine e1 4 (wX hS ql dv 0 rfl 1 rfl 0 rfl (c:=(aV C)) (cv:=[aZ g0]) (key:=C) (val:=g0) rfl rfl rfl rfl rfl fun rm rl w hk hS=>⟨ij rfl hk rS,?_⟩);refine gE [5,6] hS fun a hS=>?_;refine eD ?_;exact⟨_,_,_,_,hS.mt [0,3,4,2,1] [1,0,8,7,6,5,4,9],hM⟩
  skip;refine id (bz hS En rfl rfl (pV _ _ hS.dlt C _ nm) fun _ w hR a hk hA=>⟨fA (hk),?_⟩);obtain rfl:=hR;have hS:=ce hA;refine e1 0 (AF ac true aR.str false hS rfl fun yv L2 a w hk hS=>⟨fA (hk),?_⟩);refine e1 4 (wX hS ql dv 0 rfl 1 rfl 0 rfl (c:=(aV C)) (cv:=[aZ g0]) (key:=C) (val:=g0) rfl rfl rfl rfl rfl fun rm rl w hk hS=>⟨ij rfl hk rS,?_⟩);refine gE [5,6] hS fun a hS=>?_;refine eD ?_;exact⟨_,_,_,_,hS.mt [0,3,4,2,1] [1,0,8,7,6,5,4,9],hM⟩
 rintro a w ⟨g6,e,eq,gs,hS,hM⟩;unfold eN at hM;refine am hS fun a hS=>?_;refine wl rfl (bj (ps:=[(0,.tmp 21)]) hS gh fE (zl:=[al 0,aZ bW]) (by kernel_rfl) rfl (us:=[(aV C)]) ⟨rfl,trivial⟩ (ws:=(aV C)) rfl rfl rfl rfl fun yy a w hk hS=>?_);refine am hS fun a hS=>?_;refine aK (J:=fun a w=>∃ (bt:LB) (b3:LK) (b6:LU) (b9:Int) (bb:LI) (bi:LR) (hF:LB) (bl:LL) (X:AM) (c2:Nat) (e0:Value) (c3:LV) (hj:AM) (np:Nat) (H:AM) (c4:Nat) (P:Value) (Q:Value) (S:Value),St W0 (MD [xS m z n.Base.Revision A B b d,om b p r,om d q o]) T 135 [(0,pt m 0),(4,.map (some e)),(5,e0)] [om e X c2,ax e0 c3,om b hj np,om d H c4,xS m P b9 Q S b d] [my X bt,xO X c2,an ac c3 b3,aL ar P b6,aL ab Q bb,aL aa S bi,my hj hF,pv H bl,br] a w∧dM bt b3 b6 b9 bb bi hF bl=some y) ?_ ?_
 ·skip;refine am hS fun a hS=>?_;replace hS:=hS.lit (R:=ac) (us:=(aV C)) (xs:=[C]) 0 rfl (by decide) (az.one_ (R:=ac) (x:=C) rfl) rfl rfl;obtain⟨r1,pa,hMo1⟩:=bd hM;refine bx _ (fun s a w=>∃ (c0:LB) (cs:LK) (ed:Bool) (d0:LU) (d1:Int) (d2:LI) (d3:LR) (d4:LB) (d6:LL) (er:AM) (gu:Nat) (l1:Value) (gH:LV) (hl:AM) (nv:Nat) (hm:AM) (o1:Nat) (l2:Value) (la:Value) (le:Value),(c0,cs,ed,d0,d1,d2,d3,d4,d6)=s∧St W0 (MD [xS m z n.Base.Revision A B b d,om b p r,om d q o]) T 135 [(0,pt m 0),(4,.map (some e)),(5,l1),(6,.bool ed)] [om e er gu,ax l1 gH,om b hl nv,om d hm o1,xS m l2 d1 la le b d] [my er c0,xO er gu,an ac gH cs,aL ar l2 d0,aL ab la d2,aL aa le d3,my hl d4,pv hm d6,br] a w) pa ⟨_,_,_,_,_,_,_,_,_,_,_,_,_,_,_,_,_,_,_,_,rfl,hS.mt [1,0,2,3,4] [1,2,0,3,4,5,6,7,8]⟩ ?_;rintro s a w f1 ⟨c0,cs,ed,d0,d1,d2,d3,d4,d6,er,gu,l1,gH,hl,nv,hm,o1,l2,la,le,rfl,hS⟩ hM hf1;have hM:dB vrec c0 cs ed d0 d1 d2 d3 d4 d6=some f1:=hM;unfold dB at hM;refine ay ?_;refine am hS fun a hS=>?_;rcases cd hM with⟨rs,hM⟩|⟨rs,hM⟩
  ·refine GJ hS fun a hS=>?_;refine xq (J:=fun a w=>∃ (g1:LB) (hx:LK) (g7:Bool) (hG:LU) (hH:Int) (hI:LI) (hK:LR) (hN:LB) (hP:LL) (et:AM) (h0:Nat) (lg:Value) (h1:LV) (hn:AM) (o2:Nat) (ho:AM) (o3:Nat) (ll:Value) (ls:Value) (lt:Value),St W0 (MD [xS m z n.Base.Revision A B b d,om b p r,om d q o]) T 135 [(0,pt m 0),(4,.map (some e)),(5,lg),(6,.bool g7)] [om e et h0,ax lg h1,om b hn o2,om d ho o3,xS m ll hH ls lt b d] [my et g1,xO et h0,an ac h1 hx,aL ar ll hG,aL ab ls hI,aL aa lt hK,my hn hN,pv ho hP,br] a w∧fq g1 hx g7 hG hH hI hK hN hP=some f1) ?_ ?_
   ·skip;refine am hS fun a hS=>?_;obtain⟨r2,x3,hMo2⟩:=bd hM;refine bx _ (fun s a w=>∃ (U:LB) (a1:LK) (V:Bool) (t:Int) (G:LU) (a2:Int) (a3:LI) (a4:LR) (a5:LB) (a9:LL) (Y:AM) (c5:Nat) (e2:Value) (c9:LV) (ch:AM) (h2:Nat) (ck:AM) (h3:Nat) (e3:Value) (e4:Value) (e5:Value),(U,a1,V,t,G,a2,a3,a4,a5,a9)=s∧St W0 (MD [xS m z n.Base.Revision A B b d,om b p r,om d q o]) T 135 [(0,pt m 0),(4,.map (some e)),(5,e2),(6,.bool V),(7,al t)] [om e Y c5,ax e2 c9,om b ch h2,om d ck h3,xS m e3 a2 e4 e5 b d] [my Y U,xO Y c5,an ac c9 a1,aL ar e3 G,aL ab e4 a3,aL aa e5 a4,my ch a5,pv ck a9,br] a w) x3 ⟨_,_,_,_,_,_,_,_,_,_,_,_,_,_,_,_,_,_,_,_,_,rfl,hS.mt [0,1,2,3,4] [0,1,2,3,4,5,6,7,8]⟩ ?_;rintro s a w f2 ⟨U,a1,V,t,G,a2,a3,a4,a5,a9,Y,c5,e2,c9,ch,h2,ck,h3,e3,e4,e5,rfl,hS⟩ hM hf2;have hM:dA vrec U a1 V t G a2 a3 a4 a5 a9=some f2:=hM;unfold dA at hM;refine ay ?_;refine am hS fun a hS=>?_;rcases cd hM with⟨rt,hM⟩|⟨rt,hM⟩
    ·refine am hS fun a hS=>?_;refine aK (J:=fun a w=>∃ (g2:LB) (hy:LK) (g8:Bool) (hV:LU) (hW:Int) (hX:LI) (hY:LR) (i0:LB) (i1:LL) (ew:AM) (h4:Nat) (lv:Value) (h5:LV) (hp:AM) (of:Nat) (hq:AM) (oi:Nat) (m0:Value) (m1:Value) (m2:Value),St W0 (MD [xS m z n.Base.Revision A B b d,om b p r,om d q o]) T 135 [(0,pt m 0),(4,.map (some e)),(5,lv),(6,.bool g8),(7,al t)] [om e ew h4,ax lv h5,om b hp of,om d hq oi,xS m m0 hW m1 m2 b d] [my ew g2,xO ew h4,an ac h5 hy,aL ar m0 hV,aL ab m1 hX,aL aa m2 hY,my hp i0,pv hq i1,br] a w∧cX t g2 hy g8 hV hW hX hY i0 i1=some f2) ?_ ?_
     ·skip;refine am hS fun a hS=>?_;refine aK (J:=fun a w=>∃ (k3:Bool) (k4:ByteArray) (ks:Int) (kt:ByteArray) (u:Nat),St W0 (MD [xS m z n.Base.Revision A B b d,om b p r,om d q o]) T 135 [(0,pt m 0),(4,.map (some e)),(5,e2),(6,.bool V),(7,al t),(8,.slice none 0 0),(9,pt u 0)] [om e Y c5,ax e2 c9,om b ch h2,om d ck h3,xS m e3 a2 e4 e5 b d,.box u [.bool k3,aZ k4,al ks,aZ kt] 140] [my Y U,xO Y c5,an ac c9 a1,aL ar e3 G,aL ab e4 a3,aL aa e5 a4,my ch a5,pv ck a9,br] a w∧eM vrec U a1 V t G a2 a3 a4 a5 a9 k3 k4 ks kt=some f2) ?_ ?_
      ·skip;obtain⟨N279,pc⟩:∃ N,N=w.heap.size:=⟨_,rfl⟩;replace hS:=hS.fact (Dc N279) (qB pc);refine dr [(11,.new N279)] hS fun w hQ hS=>?_;refine gE [0,1,2,3,4,5] hS fun a hS=>?_;obtain⟨ep,pw,hM⟩:=bd hM;obtain⟨qr,w0,LT,z4,s0,s1,s2,sb⟩:=bP (R:=ac) hS mz eJ 1 rfl 3 rfl pw;obtain rfl:=s0;refine dy 6 (v:=pt qr w0) rfl (by kernel_rfl) (by kernel_rfl) (by kernel_rfl) rfl hQ hS (sb rfl rfl) rfl rfl rfl fun a hS=>?_;refine dy (l:=[]) 7 (v:=.agg (aV ep).toArray) rfl (by kernel_rfl) (by kernel_rfl) (by kernel_rfl) (by kernel_rfl) hQ hS (bq (k:=0) hS eJ 1 rfl s1 s2 rfl bn (us:=(aV ep)) rfl rfl (fun h=>by cases h)) rfl rfl rfl fun a hS=>?_;refine gE [8] hS fun a hS=>?_;replace hS:=hS.fact (aL aR.str (.slice none 0 0) []) (aC.nil_ _ _ _);obtain⟨MJ,nl,hM⟩:=bd hM;refine dm (i:=9) (j:=10) rfl rfl (by kernel_rfl) rfl rfl ?_ ?_
       ·skip;skip;refine id (bz hS y5 rfl rfl (eO _ _ hS.dlt (hS.get 10 rfl) G ep ([]) _ _ (hS.get 5 rfl) (hS.get 0 rfl) _ nl) fun _ w hR a hk hA=>⟨fA (hk),?_⟩);obtain rfl:=hR;have hS:=ce hA;have sk:=(hS.get 1 rfl:N279≤w.heap.size);refine e1 10 (cC hS mr rfl fun qv sn a w hk hS=>⟨fA (hk),?_⟩);refine cL 11 (.blk (some qv)) _ (by kernel_rfl) (lR (cH sk sn)) ?_;refine es 11 hS fun w hS=>?_;refine eD ?_;exact⟨_,_,_,_,_,hS.mt [1,2,3,4,5,0] [2,3,4,5,6,7,8,9,10],hM⟩
       skip;have sp:=(hS.get 1 rfl:N279≤w.heap.size);refine id (cC hS mr rfl fun r0 sq a w hk hS=>⟨fA (hk),?_⟩);refine cL 11 (.blk (some r0)) _ (by kernel_rfl) (lR (cH sp sq)) ?_;refine ec 9 hS y5 (eO _ _ hS.dlt (hS.get 10 rfl) G ep ([]) _ _ (hS.get 5 rfl) (hS.get 0 rfl) _ nl) fun _ w hR a hk hA=>?_;obtain rfl:=hR;have hS:=ce hA;refine es 11 hS fun w hS=>?_;refine eD ?_;exact⟨_,_,_,_,_,hS.mt [1,2,3,4,5,0] [2,3,4,5,6,7,8,9,10],hM⟩
      rintro a w ⟨k3,k4,ks,kt,u,hS,hM⟩;unfold eM at hM;refine aK (J:=fun a w=>∃ (g3:LB) (hz:LK) (gb:Bool) (i2:LU) (i3:Int) (i4:LI) (i5:LR) (i9:LB) (ib:LL) (k0:Bool) (bs:ByteArray) (k1:Int) (k2:ByteArray) (ex:AM) (h6:Nat) (m3:Value) (h7:LV) (hs:AM) (oj:Nat) (ht:AM) (ok:Nat) (m4:Value) (md:Value) (ms:Value),St W0 (MD [xS m z n.Base.Revision A B b d,om b p r,om d q o]) T 135 [(0,pt m 0),(4,.map (some e)),(5,m3),(6,.bool gb),(7,al t),(9,pt u 0)] [om e ex h6,ax m3 h7,om b hs oj,om d ht ok,xS m m4 i3 md ms b d,.box u [.bool k0,aZ bs,al k1,aZ k2] 140] [my ex g3,xO ex h6,an ac h7 hz,aL ar m4 i2,aL ab md i4,aL aa ms i5,my hs i9,pv ht ib,br] a w∧dN t g3 hz gb i2 i3 i4 i5 i9 ib k0 bs k1 k2=some f2) ?_ ?_
      ·skip;refine am hS fun a hS=>?_;replace hS:=hS.nilRow aR.str 9 (by decide);obtain⟨r3,xt,vs⟩:=bd hM;refine bx _ (fun s a w=>∃ (av:LB) (b4:LK) (c1:Bool) (D:LY) (I:LU) (K:Int) (L:LI) (M:LR) (F:LB) (O:LL) (af:Bool) (ag:ByteArray) (f:Int) (g:ByteArray) (f4:AM) (h8:Nat) (mv:Value) (h9:LV) (ak:Value) (W:LV) (cl:AM) (ha:Nat) (co:AM) (hb:Nat) (e6:Value) (ea:Value) (eb:Value),(av,b4,c1,D,I,K,L,M,F,O,af,ag,f,g)=s∧St W0 (MD [xS m z n.Base.Revision A B b d,om b p r,om d q o]) T 135 [(0,pt m 0),(4,.map (some e)),(5,mv),(6,.bool c1),(7,al t),(8,ak),(9,pt u 0)] [om e f4 h8,ax mv h9,.own ak 9 aR.str.size W,om b cl ha,om d co hb,xS m e6 K ea eb b d,.box u [.bool af,aZ ag,al f,aZ g] 140] [my f4 av,xO f4 h8,an ac h9 b4,an aR.str W D,aL ar e6 I,aL ab ea L,aL aa eb M,my cl F,pv co O,br] a w) xt ⟨_,_,_,_,_,_,_,_,_,_,_,_,_,_,_,_,_,_,_,_,_,_,_,_,_,_,_,rfl,hS.mt [1,2,0,3,4,5,6] [1,2,3,0,4,5,6,7,8,9]⟩ ?_;rintro s a w f3 ⟨av,b4,c1,D,I,K,L,M,F,O,af,ag,f,g,f4,h8,mv,h9,ak,W,cl,ha,co,hb,e6,ea,eb,rfl,hS⟩ hM x2;have hM:cZ vrec t av b4 c1 D I K L M F O af ag f g=some f3:=hM;unfold cZ at hM;refine ay ?_;refine am hS fun a hS=>?_;rcases cd hM with⟨st,hM⟩|⟨st,hM⟩
       ·refine am hS fun a hS=>?_;refine ay ?_;refine dr [] hS fun w hQ hS=>?_;refine gE [0,1,2,3,4,5] hS fun a hS=>?_;obtain⟨wk,q4,hM⟩:=bd hM;obtain⟨z5,sy,sz⟩:=kd hS ql dv 3 rfl 7 rfl (c:=[al f,aZ g]) (key:=(ae.mk f g)) rfl HO (zc:=[aZ bW]) rfl rfl q4;obtain rfl:=sy;refine dy (l:=[]) 6 (v:=.tuple #[aZ wk,.bool ((cB aM (ae.mk f g) F).isSome)]) rfl (by kernel_rfl) (by kernel_rfl) (by kernel_rfl) (by kernel_rfl) hQ hS (sz rfl rfl bn) rfl rfl rfl fun a hS=>?_;refine gE [7,8,9,10,11] hS fun a hS=>?_;refine eD ?_;refine am hS fun a hS=>?_;refine aK (J:=fun a w=>∃ (g4:LB) (hB:LK) (gi:Bool) (E:ByteArray) (fs:LU) (ih:Int) (ii:LI) (it:LR) (jb:LB) (js:LL) (f5:AM) (hc:Nat) (n0:Value) (hd:LV) (hu:AM) (op:Nat) (hv:AM) (os:Nat) (n1:Value) (n2:Value) (nd:Value),St W0 (MD [xS m z n.Base.Revision A B b d,om b p r,om d q o]) T 135 [(0,pt m 0),(4,.map (some e)),(5,n0),(6,.bool gi),(7,al t),(8,ak),(9,pt u 0),(10,aZ E)] [om e f5 hc,ax n0 hd,.own ak 9 aR.str.size W,om b hu op,om d hv os,xS m n1 ih n2 nd b d,.box u [.bool af,aZ ag,al f,aZ g] 140] [my f5 g4,xO f5 hc,an ac hd hB,an aR.str W D,aL ar n1 fs,aL ab n2 ii,aL aa nd it,my hu jb,pv hv js,br] a w∧cn t D g4 hB gi E fs ih ii it jb js=some f3) ?_ ?_
        ·skip;refine am hS fun a hS=>?_;rcases cd hM with⟨t0,hM⟩|⟨t0,hM⟩
         ·exact fz
         refine am hS fun a hS=>?_;obtain⟨MH,q5,hM⟩:=bd hM;refine kc hS uP (cu _ _ hS.dlt (ae.mk f g) _ q5) fun _ w hR a hk hA=>?_;obtain rfl:=hR;have hS:=ce hA;refine am hS fun a hS=>?_;rcases cd hM with⟨t1,hM⟩|⟨t1,hM⟩
         ·refine am hS fun a hS=>?_;obtain⟨MI,q6,hM⟩:=bd hM;replace hS:=hS.re [5,3,4] [0,1,2,6];refine wl rfl (bv hS Es rfl rfl (hvrec _ _ hS.dltD (ao.mk I (ai.mk K L M) F O) (ae.mk f g) _ _ _ _ _ _ _ _ _ _ hS.dok (hS.getD 4 rfl) (hS.getD 5 rfl) (hS.getD 6 rfl) (hS.getD 7 rfl) (hS.getD 8 rfl) (hS.getD 9 rfl) _ q6) fun _ w hR a hk hA=>?_);obtain⟨MK,ML,MM,Ic,z9,IZ,za,he,t2,p5,p6,p7,p3,p4⟩:=hR;obtain rfl:=he.symm;have hS:=hA _ t2;replace hS:=((((hS.fS (p5.sub (ap _))).fS (p6.sub (ap _))).fS (p7.sub (ap _))).fM (p3.keep (aj _ _) (ap _))).fM (p4.keep (aj _ _) (ap _));exact fz
         refine am hS fun a hS=>?_;refine aK (J:=fun a w=>∃ (g5:LB) (hC:LK) (gp:Bool) (fd:AM) (hf:Nat) (ng:Value) (hg:LV),St W0 (MD [xS m z n.Base.Revision A B b d,om b p r,om d q o]) T 135 [(0,pt m 0),(4,.map (some e)),(5,ng),(6,.bool gp),(7,al t),(8,ak),(9,pt u 0)] [om e fd hf,ax ng hg,.own ak 9 aR.str.size W,om b cl ha,om d co hb,xS m e6 K ea eb b d,.box u [.bool af,aZ ag,al f,aZ g] 140] [my fd g5,xO fd hf,an ac hg hC,an aR.str W D,aL ar e6 I,aL ab ea L,aL aa eb M,my cl F,pv co O,br] a w∧cY t D I K L M F O f g g5 hC gp=some f3) ?_ ?_
         ·skip;refine am hS fun a hS=>?_;obtain⟨wp,q7,hM⟩:=bd hM;obtain⟨zb,t3,t4⟩:=kd hS ql dv 0 rfl 0 rfl (c:=[al f,aZ g]) (key:=(ae.mk f g)) rfl HO (zc:=[aZ bW]) rfl rfl q7;obtain rfl:=t3;refine wl rfl (ky (v:=.tuple #[aZ wp,.bool ((cB aM (ae.mk f g) av).isSome)]) hS (t4 rfl rfl id) rfl rfl fun a hS=>?_);refine am hS fun a hS=>?_;rcases cd hM with⟨t5,hM⟩|⟨t5,hM⟩
          ·refine am hS fun a hS=>?_;refine ay ?_;refine dr [(6,.blk (some e))] hS fun w hQ hS=>?_;refine gE [0,1,2,3,4] hS fun a hS=>?_;obtain⟨pb,qe,hM⟩:=bd hM;refine ec 5 hS En (pV _ _ hS.dlt (ae.mk f g) _ qe) fun _ w hR a hk hA=>?_;obtain rfl:=hR;have hS:=ce hA;refine e1 6 (Cz hS ql dv 0 rfl 0 rfl 1 rfl (c:=[al f,aZ g]) (cv:=[aZ pb]) (key:=(ae.mk f g)) (val:=pb) rfl rfl rfl rfl rfl fun K2 zs w hk hS=>⟨ij rfl hk hU,?_⟩);refine eD ?_;refine am hS fun a hS=>?_;refine wl rfl (bj (ps:=[(0,.tmp 70)]) hS gh fE (zl:=[al 0,aZ bW]) (by kernel_rfl) rfl (us:=[[al f,aZ g]]) ⟨rfl,trivial⟩ (ws:=[al f,aZ g]) rfl rfl rfl rfl fun z0 a w hk hS=>?_);replace hS:=(hS.lit (R:=ac) (us:=[al f,aZ g]) (xs:=[(ae.mk f g)]) 0 rfl (by decide) (az.one_ (R:=ac) (x:=(ae.mk f g)) rfl) rfl rfl).freeze (R:=ac) 0 rfl 0 rfl;obtain⟨t6,hM⟩:=bm hM;refine wl rfl (bB (R:=ac) (xs:=b4) (ys:=[(ae.mk f g)]) hS gh (by decide) (by decide) rfl rfl 1 rfl 6 rfl 0 rfl t6 rfl fun MN B2 a w hk hS=>?_);exact fz
          exact fz
         rintro a w ⟨g5,hC,gp,fd,hf,ng,hg,hS,hM⟩;unfold cY at hM;refine am hS fun a hS=>?_;obtain⟨wf,q3,hM⟩:=bd hM;obtain⟨CB,t7,t9⟩:=kd hS ql dv 0 rfl 0 rfl (c:=[al f,aZ g]) (key:=(ae.mk f g)) rfl HO (zc:=[aZ bW]) rfl rfl q3;obtain rfl:=t7;refine wl rfl (ky (v:=aZ wf) hS (t9 rfl rfl id) rfl rfl fun a hS=>?_);exact fz
        rintro a w ⟨g4,hB,gi,E,fs,ih,ii,it,jb,js,f5,hc,n0,hd,hu,op,hv,os,n1,n2,nd,hS,hM⟩;unfold cn at hM;refine am hS fun a hS=>?_;refine wl rfl (bj (ps:=[(0,.tmp 89)]) hS rR KE (zl:=[aZ bW]) (by kernel_rfl) rfl (us:=[[aZ E]]) ⟨rfl,trivial⟩ (ws:=[aZ E]) rfl rfl rfl rfl fun z1 a w hk hS=>?_);replace hS:=(hS.lit (R:=aR.str) (us:=[aZ E]) (xs:=[E]) 0 rfl (by decide) (az.one_ (R:=aR.str) (x:=E) rfl) rfl rfl).freeze (R:=aR.str) 0 rfl 0 rfl;obtain⟨te,hM⟩:=bm hM;refine wl rfl (bB (R:=aR.str) (xs:=D) (ys:=[E]) hS rR (by decide) (by decide) rfl rfl 2 rfl 5 rfl 0 rfl te rfl fun MO CC a w hk hS=>?_);refine am hS fun a hS=>?_;refine dr [(10,.blk (some u))] hS fun w hQ hS=>?_;refine gE [0,1,2,3,4,5] hS fun a hS=>?_;obtain⟨hi,pl,hM⟩:=bd hM;obtain⟨ra,w1,LX,D0,th,tk,tm,ts⟩:=bP (R:=ac) hS mz eJ 1 rfl 5 rfl pl;obtain rfl:=th;refine dy 6 (v:=pt ra w1) rfl (by kernel_rfl) (by kernel_rfl) (by kernel_rfl) rfl hQ hS (ts rfl rfl) rfl rfl rfl fun a hS=>?_;refine dy (l:=[]) 7 (v:=.agg (aV hi).toArray) rfl (by kernel_rfl) (by kernel_rfl) (by kernel_rfl) (by kernel_rfl) hQ hS (bq (k:=0) hS eJ 1 rfl tk tm rfl bn (us:=(aV hi)) rfl rfl (fun h=>by cases h)) rfl rfl rfl fun a hS=>?_;refine gE [8] hS fun a hS=>?_;have hL:=hS;replace hL:=hL.freeze (R:=aR.str) 2 rfl 0 rfl;obtain⟨MG,q2,hM⟩:=bd hM;refine ec 9 hS y5 (eO _ _ hL.dlt (hL.get 13 rfl) fs hi (D++([E])) _ _ (hL.get 8 rfl) (hL.get 0 rfl) _ q2) fun _ w hR a hk hA=>?_;obtain rfl:=hR;have hS:=ce hA;refine es 10 hS fun w hS=>?_;refine eD ?_;exact⟨_,(bO hM).symm,_,_,_,_,_,_,_,_,_,_,_,_,_,_,_,_,_,_,_,_,_,_,_,_,_,_,_,rfl,hS.mt [0,1,2,3,4,5,6] [3,4,5,0,7,8,9,10,11,12]⟩
       refine am hS fun a hS=>?_;cases hM
       have hr:=x2 _ rfl;subst hr;have hM:dN t av b4 c1 I K L M F O af ag f g=some f2:=vs;exact⟨_,_,_,_,_,_,_,_,_,_,_,_,_,_,_,_,_,_,_,_,_,_,_,_,hS.mt [0,1,3,4,5,6] [0,1,2,4,5,6,7,8,9],hM⟩
      rintro a w ⟨g3,hz,gb,i2,i3,i4,i5,i9,ib,k0,bs,k1,k2,ex,h6,m3,h7,hs,oj,ht,ok,m4,md,ms,hS,hM⟩;unfold dN at hM;refine ay ?_;refine dr [] hS fun w hQ hS=>?_;refine gE [0,1,2] hS fun a hS=>?_;obtain⟨ei,pf,hM⟩:=bd hM;obtain⟨rd,w2,LZ,D1,tt,ty,u1,u2⟩:=bP (R:=ac) hS mz eJ 1 rfl 2 rfl pf;obtain rfl:=tt;refine dy 3 (v:=pt rd w2) rfl (by kernel_rfl) (by kernel_rfl) (by kernel_rfl) rfl hQ hS (u2 rfl rfl) rfl rfl rfl fun a hS=>?_;refine dy (l:=[]) 4 (v:=.agg (aV ei).toArray) rfl (by kernel_rfl) (by kernel_rfl) (by kernel_rfl) (by kernel_rfl) hQ hS (bq (k:=0) hS eJ 1 rfl ty u1 rfl bn (us:=(aV ei)) rfl rfl (fun h=>by cases h)) rfl rfl rfl fun a hS=>?_;obtain⟨w5,q1,hM⟩:=bd hM;obtain⟨F0,u3,u8⟩:=kd hS ql dv 0 rfl 0 rfl (c:=(aV ei)) (key:=ei) rfl HO (zc:=[aZ bW]) rfl rfl q1;obtain rfl:=u3;refine dy (l:=[]) 5 (v:=aZ w5) rfl (by kernel_rfl) (by kernel_rfl) (by kernel_rfl) (by kernel_rfl) hQ hS (u8 rfl rfl bn) rfl rfl rfl fun a hS=>?_;refine gE [6,7,8] hS fun a hS=>?_;refine eD ?_;refine am hS fun a hS=>?_;rcases cd hM with⟨up,hM⟩|⟨up,hM⟩
      ·refine am hS fun a hS=>?_;refine dr [(7,.blk (some e)),(9,.blk (some e))] hS fun w hQ hS=>?_;refine gE [0,1,2] hS fun a hS=>?_;obtain⟨el,pk,hM⟩:=bd hM;obtain⟨rg,w3,M0,F1,uv,v0,v1,v5⟩:=bP (R:=ac) hS mz eJ 1 rfl 2 rfl pk;obtain rfl:=uv;refine dy 3 (v:=pt rg w3) rfl (by kernel_rfl) (by kernel_rfl) (by kernel_rfl) rfl hQ hS (v5 rfl rfl) rfl rfl rfl fun a hS=>?_;refine dy (l:=[]) 4 (v:=.agg (aV el).toArray) rfl (by kernel_rfl) (by kernel_rfl) (by kernel_rfl) (by kernel_rfl) hQ hS (bq (k:=0) hS eJ 1 rfl v0 v1 rfl bn (us:=(aV el)) rfl rfl (fun h=>by cases h)) rfl rfl rfl fun a hS=>?_;refine gE [5] hS fun a hS=>?_;refine dy (l:=[.blk (some e)]) 6 (v:=aZ bs) rfl (by kernel_rfl) (by kernel_rfl) (by kernel_rfl) (by kernel_rfl) hQ hS (dh hS rfl HK 5 rfl (gA hS 5 rfl rfl 0 rfl rfl (by decide) bn) (us:=[aZ bs]) rfl rfl (fun _=>rfl)) rfl rfl rfl fun a hS=>?_;refine e1 7 (Du hS rfl ql dv 0 rfl 0 rfl 1 rfl (c:=(aV el)) (key:=el) rfl HO (zc:=[aZ bW]) rfl rfl rfl rfl fun MP Kn F2 MF a w hk hS=>⟨ij rfl hk hU,?_⟩);refine gE [8] hS fun a hS=>?_;refine e1 9 (Dv (val:=bs) hS 0 rfl 0 rfl rfl rfl rfl rfl fun Ko w hk hS=>⟨ij rfl hk hU,?_⟩);refine gE [10] hS fun a hS=>?_;refine eD ?_;exact⟨_,_,_,_,_,_,_,_,_,_,_,_,_,_,_,_,_,_,_,_,hS.mt [0,1,2,3,4] [1,0,5,6,7,8,9,10,11],hM⟩
      exact fz
     rintro a w ⟨g2,hy,g8,hV,hW,hX,hY,i0,i1,ew,h4,lv,h5,hp,of,hq,oi,m0,m1,m2,hS,hM⟩;unfold cX at hM;exact fz
    refine am hS fun a hS=>?_;cases hM
    have hr:=hf2 _ rfl;subst hr;have hM:fq U a1 V G a2 a3 a4 a5 a9=some f1:=hMo2;exact⟨_,_,_,_,_,_,_,_,_,_,_,_,_,_,_,_,_,_,_,_,hS.mt [0,1,2,3,4] [0,1,2,3,4,5,6,7,8],hM⟩
   rintro a w ⟨g1,hx,g7,hG,hH,hI,hK,hN,hP,et,h0,lg,h1,hn,o2,ho,o3,ll,ls,lt,hS,hM⟩;unfold fq at hM;exact⟨_,(bO hM).symm,_,_,_,_,_,_,_,_,_,_,_,_,_,_,_,_,_,_,_,_,rfl,hS.mt [0,1,2,3,4] [0,1,2,3,4,5,6,7,8]⟩
  refine am hS fun a hS=>?_;cases hM
  have hr:=hf1 _ rfl;subst hr;have hM:dM c0 cs d0 d1 d2 d3 d4 d6=some y:=hMo1;exact⟨_,_,_,_,_,_,_,_,_,_,_,_,_,_,_,_,_,_,_,hS.mt [0,1,2,3,4] [0,1,2,3,4,5,6,7,8],hM⟩
 rintro a w ⟨bt,b3,b6,b9,bb,bi,hF,bl,X,c2,e0,c3,hj,np,H,c4,P,Q,S,hS,hM⟩;unfold dM at hM;refine jg ?_;refine GJ hS fun a hS=>?_;refine xq (J:=fun a w=>∃ (hE:LB) (fl:AM) (hh:Nat),St W0 (MD [xS m z n.Base.Revision A B b d,om b p r,om d q o]) T 135 [] [om b fl hh,om d H c4,xS m P b9 Q S b d] [aL ar P b6,aL ab Q bb,aL aa S bi,my fl hE,pv H bl,br] a w∧i8 b6 b9 bb bi bl hE=some y) ?_ ?_
 ·skip;refine am hS fun a hS=>?_;obtain⟨r1,pa,hMo1⟩:=bd hM;refine bx _ (fun s a w=>∃ (fn:Int) (fr:LB) (hw:AM) (p0:Nat),(fn,fr)=s∧St W0 (MD [xS m z n.Base.Revision A B b d,om b p r,om d q o]) T 135 [(0,pt m 0),(4,.map (some e)),(120,e0),(121,al (b3.length:Int)),(122,al fn)] [om e X c2,ax e0 c3,om b hw p0,om d H c4,xS m P b9 Q S b d] [my X bt,xO X c2,an ac c3 b3,aL ar P b6,aL ab Q bb,aL aa S bi,my hw fr,pv H bl,br] a w) pa ⟨_,_,_,_,rfl,hS.mt [0,1,2,3,4] [0,1,2,3,4,5,6,7,8]⟩ ?_;rintro s a w f1 ⟨fn,fr,hw,p0,rfl,hS⟩ hM hf1;have hM:ft bt b3 fn fr=some f1:=hM;unfold ft at hM;refine am hS fun a hS=>?_;refine ay ?_;rcases cd hM with⟨v6,hM⟩|⟨v6,hM⟩
  ·refine am hS fun a hS=>?_;refine ay ?_;refine am hS fun a hS=>?_;obtain⟨ca,pe,hM⟩:=bd hM;refine wl rfl (c7 (R:=ac) hS mz eJ rfl rfl 1 rfl 2 rfl pe rfl fun z2 LJ M1 G2 v7 v8 v9 a hS=>?_);obtain rfl:=v7;refine qy hS (bq (k:=0) hS eJ 1 rfl v8 v9 rfl id (us:=(aV ca)) rfl rfl (fun h=>by cases h)) fun a hS=>?_;refine ka hS fE fun z3 L3 a w hk hS=>?_;refine go hS fun a w hS=>?_;refine dr [(8,.blk (some b))] hS fun w hQ hS=>?_;refine gE [0,1,2,3,4,5,6] hS fun a hS=>?_;obtain⟨l0,q0,hM⟩:=bd hM;obtain⟨G4,va,vi⟩:=kd hS ql dv 1 rfl 0 rfl (c:=(aV ca)) (key:=ca) rfl HO (zc:=[aZ bW]) rfl rfl q0;obtain rfl:=va;refine dy (l:=[]) 7 (v:=aZ l0) rfl (by kernel_rfl) (by kernel_rfl) (by kernel_rfl) (by kernel_rfl) hQ hS (vi rfl rfl bn) rfl rfl rfl fun a hS=>?_;refine e1 8 (wY hS ql dv 3 rfl 6 rfl (c:=(aV ca)) (cv:=[aZ l0]) (key:=ca) (val:=l0) rfl rfl rfl rfl rfl fun Kp Go w hk hS=>⟨ij rfl hk hU,?_⟩);refine eD ?_;exact fz
  exact fz
 rintro a w ⟨hE,fl,hh,hS,hM⟩;unfold i8 at hM;refine xV ?_;cases hM
 refine aG hS Tryz.results98 aF ?_;have hZ:=hS.sl [2,0,1] [0,1,2,3,4];exact⟨P,Q,S,fl,hh,H,c4,rfl,hZ.dnew,(hZ.get 0 rfl),(hZ.get 1 rfl),(hZ.get 2 rfl),(hZ.get 3 rfl),(hZ.get 4 rfl)⟩
def dL (vrec:ao→ae→Option (ByteArray×ao)) (n:ae) (c:LY) (d:LU) (e:Int) (f:LI) (g:LR) (h:LB) (i:LL) (k:Bool) (j:ByteArray) (l:Int) (m:ByteArray):Option (Fl (LY×LU×Int×LI×LR×LB×LL) (ByteArray×ao)):=cond k (some (.out (j,(ao.mk d (ai.mk e f g) (de aM n j h) i)))) ((vrec (ao.mk d (ai.mk e f g) h i) (ae.mk l m)).bind fun b=>gd (bL (c.length+([b.1]).length)) <| some (.go ((c++([b.1])),b.2.Rules,b.2.Base.Revision,b.2.Base.Inputs,b.2.Base.Records,b.2.Memo,b.2.Seen)))
def fp (vrec:ao→ae→Option (ByteArray×ao)) (e:ae) (c:LY) (d:LU) (f:Int) (g:LI) (h:LR) (i:LB) (j:LL):Option (Fl (LY×LU×Int×LI×LR×LB×LL) (ByteArray×ao)):=(dC d e c).bind fun b=>dL vrec e c d f g h i j b.Done b.Value b.Ask.Kind b.Ask.Text
def dg (vrec:ao→ae→Option (ByteArray×ao)) (b:ao) (c:ae):Option (ByteArray×ao):=(cm c).bind fun e=>cond e ((mR b.Base c).bind fun f=>some ((f,b))) ((some ((cB aM c b.Memo).getD bW)).bind fun g=>cond ((cB aM c b.Memo).isSome) (some ((g,b))) ((b7 c).bind fun h=>cond h ((fh vrec b c).bind fun d=>(some ((cB aM c d.Memo).getD bW)).bind fun i=>some ((i,d))) ((loop (fun s:LY×LU×Int×LI×LR×LB×LL=>fp vrec c s.1 s.2.1 s.2.2.1 s.2.2.2.1 s.2.2.2.2.1 s.2.2.2.2.2.1 s.2.2.2.2.2.2) (([]:List ByteArray),b.Rules,b.Base.Revision,b.Base.Inputs,b.Base.Records,b.Memo,b.Seen)).bind fun y=>some (y))))
theorem r6 (T:Nat→Prop) (W0:World) (hT:TW T W0) (vrec:ao→ae→Option (ByteArray×ao)) (hvrec:lw vrec) (e:ao) (f:ae) (h:Nat) (C:Value) (D:Value) (E:Value) (b:Nat) (k:Array MapEntry) (n:Nat) (d:Nat) (m:Array MapEntry) (g:Nat) (hD:tU T W0 [xS h C e.Base.Revision D E b d,om b k n,om d m g]) (ep:aC ar (dT T [xS h C e.Base.Revision D E b d,om b k n,om d m g]) W0 C e.Rules) (eq:aC ab (dT T [xS h C e.Base.Revision D E b d,om b k n,om d m g]) W0 D e.Base.Inputs) (er:aC aa (dT T [xS h C e.Base.Revision D E b d,om b k n,om d m g]) W0 E e.Base.Records) (ed:bw ac true aR.str false (dT T [xS h C e.Base.Revision D E b d,om b k n,om d m g]) W0 k e.Memo) (ei:bw ac true (aR.slice ac) false (dT T [xS h C e.Base.Revision D E b d,om b k n,om d m g]) W0 m e.Seen) (hLv:dc (dT T [xS h C e.Base.Revision D E b d,om b k n,om d m g]) W0) (y:ByteArray×ao) (hM:dg vrec e f=some y):a7 aO (MD [xS h C e.Base.Revision D E b d,om b k n,om d m g]) 65 [pt h 0,.agg (aV f).toArray] W0 (fun v w'=>∃ (S:Value) (U:Value) (V:Value) (q:Array MapEntry) (F:Nat) (r:Array MapEntry) (G:Nat),v=aZ y.1∧lK W0 w' [xS h C e.Base.Revision D E b d,om b k n,om d m g] [xS h S y.2.Base.Revision U V b d,om b q F,om d r G]∧aC ar (dT T [xS h S y.2.Base.Revision U V b d,om b q F,om d r G]) w' S y.2.Rules∧aC ab (dT T [xS h S y.2.Base.Revision U V b d,om b q F,om d r G]) w' U y.2.Base.Inputs∧aC aa (dT T [xS h S y.2.Base.Revision U V b d,om b q F,om d r G]) w' V y.2.Base.Records∧bw ac true aR.str false (dT T [xS h S y.2.Base.Revision U V b d,om b q F,om d r G]) w' q y.2.Memo∧bw ac true (aR.slice ac) false (dT T [xS h S y.2.Base.Revision U V b d,om b q F,om d r G]) w' r y.2.Seen):=by
 refine eL (c:=_) Tryz.func65 rfl T 64 Tryz.ntmps65 hT rfl hD fun a hS=>?_;replace hS:=(((((hS.fact br hLv).fS ep).fS eq).fS er).fM ed).fM ei;unfold dg at hM;refine am hS fun a hS=>?_;refine kb hS fun X fl a w hk hS=>?_;refine am hS fun a hS=>?_;refine ay ?_;refine am hS fun a hS=>?_;obtain⟨fr,bb,hM⟩:=bd hM;refine kc hS wG (da _ _ hS.dlt f _ bb) fun _ w hR a hk hA=>?_;obtain rfl:=hR;have hS:=ce hA;refine am hS fun a hS=>?_;rcases cd hM with⟨ck,hM⟩|⟨ck,hM⟩
 ·refine am hS fun a hS=>?_;refine ay ?_;refine dr [] hS fun w hQ hS=>?_;refine gE [0,1,2,3,4] hS fun a hS=>?_;obtain⟨fs,bi,hM⟩:=bd hM;refine ec 5 hS H5 (r5 _ _ hS.dlt e.Base f _ _ (hS.get 3 rfl) (hS.get 2 rfl) _ bi) fun _ w hR a hk hA=>?_;obtain rfl:=hR;have hS:=ce hA;refine gE [6] hS fun a hS=>?_;refine eD ?_;refine am hS fun a hS=>?_;cases hM
  refine aG hS rfl (aw hS rfl aF) ?_;have hZ:=hS.sl [1,2,3] [4,3,2,1,0];exact⟨C,D,E,k,n,m,g,rfl,hZ.dnew,(hZ.get 0 rfl),(hZ.get 1 rfl),(hZ.get 2 rfl),(hZ.get 3 rfl),(hZ.get 4 rfl)⟩
 refine am hS fun a hS=>?_;refine ay ?_;refine ay ?_;refine dr [] hS fun w hQ hS=>?_;refine gE [0,1,2,3,4] hS fun a hS=>?_;obtain⟨e3,bl,hM⟩:=bd hM;obtain⟨ew,cl,co⟩:=kd hS ql dv 2 rfl 1 rfl (c:=(aV f)) (key:=f) rfl HO (zc:=[aZ bW]) rfl rfl bl;obtain rfl:=cl;refine dy (l:=[]) 5 (v:=.tuple #[aZ e3,.bool ((cB aM f e.Memo).isSome)]) rfl (by kernel_rfl) (by kernel_rfl) (by kernel_rfl) (by kernel_rfl) hQ hS (co rfl rfl bn) rfl rfl rfl fun a hS=>?_;refine gE [6,7,8,9,10] hS fun a hS=>?_;refine eD ?_;refine am hS fun a hS=>?_;rcases cd hM with⟨cs,hM⟩|⟨cs,hM⟩
 ·refine am hS fun a hS=>?_;cases hM
  refine aG hS rfl (aw hS rfl aF) ?_;have hZ:=hS.sl [1,2,3] [4,3,2,1,0];exact⟨C,D,E,k,n,m,g,rfl,hZ.dnew,(hZ.get 0 rfl),(hZ.get 1 rfl),(hZ.get 2 rfl),(hZ.get 3 rfl),(hZ.get 4 rfl)⟩
 refine am hS fun a hS=>?_;refine ay ?_;refine am hS fun a hS=>?_;obtain⟨g0,bs,hM⟩:=bd hM;refine kc hS uP (cu _ _ hS.dlt f _ bs) fun _ w hR a hk hA=>?_;obtain rfl:=hR;have hS:=ce hA;refine am hS fun a hS=>?_;rcases cd hM with⟨d0,hM⟩|⟨d0,hM⟩
 ·refine am hS fun a hS=>?_;obtain⟨g1,bt,hM⟩:=bd hM;replace hS:=hS.re [1,2,3] [0];refine wl rfl (bv hS Lu rfl rfl (r7 _ _ hS.dltD vrec hvrec e f _ _ _ _ _ _ _ _ _ _ hS.dok (hS.getD 4 rfl) (hS.getD 3 rfl) (hS.getD 2 rfl) (hS.getD 1 rfl) (hS.getD 0 rfl) (hS.getD 5 rfl) _ bt) fun _ w hR a hk hA=>?_);obtain⟨e5,e6,ea,c9,c3,ca,c4,he,d1,ak,av,b0,a5,a9⟩:=hR;obtain rfl:=he.symm;have hS:=hA _ d1;replace hS:=((((hS.fS (ak.sub (ap _))).fS (av.sub (ap _))).fS (b0.sub (ap _))).fM (a5.keep (aj _ _) (ap _))).fM (a9.keep (aj _ _) (ap _));refine am hS fun a hS=>?_;refine ay ?_;refine dr [] hS fun w hQ hS=>?_;refine gE [0,1,2,3,4] hS fun a hS=>?_;obtain⟨e4,c0,hM⟩:=bd hM;obtain⟨ex,d2,d3⟩:=kd hS ql dv 1 rfl 1 rfl (c:=(aV f)) (key:=f) rfl HO (zc:=[aZ bW]) rfl rfl c0;obtain rfl:=d2;refine dy (l:=[]) 5 (v:=aZ e4) rfl (by kernel_rfl) (by kernel_rfl) (by kernel_rfl) (by kernel_rfl) hQ hS (d3 rfl rfl bn) rfl rfl rfl fun a hS=>?_;refine gE [6] hS fun a hS=>?_;refine eD ?_;refine am hS fun a hS=>?_;cases hM
  refine aG hS rfl (aw hS rfl aF) ?_;have hZ:=hS.sl [0,1,2] [4,3,2,1,0];exact⟨e5,e6,ea,c9,c3,ca,c4,rfl,hZ.dnew,(hZ.get 0 rfl),(hZ.get 1 rfl),(hZ.get 2 rfl),(hZ.get 3 rfl),(hZ.get 4 rfl)⟩
 refine am hS fun a hS=>?_;replace hS:=hS.nilRow aR.str 9 (by decide);obtain⟨r1,el,hMo1⟩:=bd hM;refine bx _ (fun s a w=>∃ (o:LY) (p:LU) (t:Int) (u:LI) (z:LR) (A:LB) (B:LL) (W:Value) (O:LV) (P:AM) (a2:Nat) (H:AM) (Y:Nat) (K:Value) (L:Value) (M:Value),(o,p,t,u,z,A,B)=s∧St W0 (MD [xS h C e.Base.Revision D E b d,om b k n,om d m g]) T 64 [(0,pt h 0),(3,pt X 0),(7,W)] [.own W 9 aR.str.size O,om b P a2,om d H Y,xS h K t L M b d,.box X (aV f) 31] [an aR.str O o,aL ar K p,aL ab L u,aL aa M z,my P A,pv H B,br] a w) el ⟨_,_,_,_,_,_,_,_,_,_,_,_,_,_,_,_,rfl,hS.mt [0,3,4,2,1] [0,5,4,3,2,1,6]⟩ ?_;rintro s a w f1 ⟨o,p,t,u,z,A,B,W,O,P,a2,H,Y,K,L,M,rfl,hS⟩ hM hf1;have hM:fp vrec f o p t u z A B=some f1:=hM;unfold fp at hM;refine am hS fun a hS=>?_;refine aK (J:=fun a w=>∃ (a3:Bool) (Q:ByteArray) (Z:Int) (a0:ByteArray) (a1:Nat),St W0 (MD [xS h C e.Base.Revision D E b d,om b k n,om d m g]) T 64 [(0,pt h 0),(3,pt X 0),(7,W),(8,pt a1 0)] [.own W 9 aR.str.size O,om b P a2,om d H Y,xS h K t L M b d,.box X (aV f) 31,.box a1 [.bool a3,aZ Q,al Z,aZ a0] 140] [an aR.str O o,aL ar K p,aL ab L u,aL aa M z,my P A,pv H B,br] a w∧dL vrec f o p t u z A B a3 Q Z a0=some f1) ?_ ?_
 ·skip;obtain⟨N148,b6⟩:∃ N,N=w.heap.size:=⟨_,rfl⟩;replace hS:=hS.fact (Dc N148) (qB b6);refine dr [(8,.new N148)] hS fun w hQ hS=>?_;refine gE [0,1,2,3,4,5] hS fun a hS=>?_;have hL:=hS;replace hL:=hL.freeze (R:=aR.str) 0 rfl 1 rfl;obtain⟨fn,a4,hM⟩:=bd hM;refine dm (i:=6) (j:=7) rfl rfl (by kernel_rfl) rfl rfl ?_ ?_
  ·skip;skip;have hL:=hS;replace hL:=hL.freeze (R:=aR.str) 0 rfl 1 rfl;refine id (bz hS y5 rfl rfl (eO _ _ hL.dlt (hL.get 8 rfl) p f o _ _ (hL.get 3 rfl) (hL.get 0 rfl) _ a4) fun _ w hR a hk hA=>⟨fA (hk),?_⟩);obtain rfl:=hR;have hS:=ce hA;have d4:=(hS.get 0 rfl:N148≤w.heap.size);refine e1 7 (cC hS mr rfl fun c1 d6 a w hk hS=>⟨fA (hk),?_⟩);refine cL 8 (.blk (some c1)) _ (by kernel_rfl) (lR (cH d4 d6)) ?_;refine es 8 hS fun w hS=>?_;refine eD ?_;exact⟨_,_,_,_,_,hS.mt [1,2,3,4,5,0] [1,2,3,4,5,6,7],hM⟩
  skip;have dl:=(hS.get 0 rfl:N148≤w.heap.size);refine id (cC hS mr rfl fun c2 dn a w hk hS=>⟨fA (hk),?_⟩);refine cL 8 (.blk (some c2)) _ (by kernel_rfl) (lR (cH dl dn)) ?_;have hL:=hS;replace hL:=hL.freeze (R:=aR.str) 1 rfl 1 rfl;refine ec 6 hS y5 (eO _ _ hL.dlt (hL.get 8 rfl) p f o _ _ (hL.get 3 rfl) (hL.get 0 rfl) _ a4) fun _ w hR a hk hA=>?_;obtain rfl:=hR;have hS:=ce hA;refine es 8 hS fun w hS=>?_;refine eD ?_;exact⟨_,_,_,_,_,hS.mt [1,2,3,4,5,0] [1,2,3,4,5,6,7],hM⟩
 rintro a w ⟨a3,Q,Z,a0,a1,hS,hM⟩;unfold dL at hM;refine ay ?_;refine am hS fun a hS=>?_;rcases cd hM with⟨ds,hM⟩|⟨ds,hM⟩
 ·refine am hS fun a hS=>?_;refine ay ?_;refine dr [(7,.blk (some b))] hS fun w hQ hS=>?_;refine gE [0,1,2,3,4,5,6] hS fun a hS=>?_;refine e1 7 (wY hS ql dv 1 rfl 4 rfl (c:=(aV f)) (cv:=[aZ Q]) (key:=f) (val:=Q) rfl rfl rfl rfl rfl fun ch c5 w hk hS=>⟨ij rfl hk hU,?_⟩);refine eD ?_;refine am hS fun a hS=>?_;cases hM
  have hr:=hf1 _ rfl;subst hr;have hM:=hMo1;cases hM
  refine aG hS rfl (aw hS rfl aF) ?_;have hZ:=hS.sl [3,1,2] [2,3,4,0,6];exact⟨K,L,M,ch,c5,H,Y,rfl,hZ.dnew,(hZ.get 0 rfl),(hZ.get 1 rfl),(hZ.get 2 rfl),(hZ.get 3 rfl),(hZ.get 4 rfl)⟩
 refine am hS fun a hS=>?_;obtain⟨I,b9,hM⟩:=bd hM;replace hS:=hS.re [3,1,2] [0,4,5];refine wl rfl (bv hS Es rfl rfl (hvrec _ _ hS.dltD (ao.mk p (ai.mk t u z) A B) (ae.mk Z a0) _ _ _ _ _ _ _ _ _ _ hS.dok (hS.getD 1 rfl) (hS.getD 2 rfl) (hS.getD 3 rfl) (hS.getD 4 rfl) (hS.getD 5 rfl) (hS.getD 6 rfl) _ b9) fun _ w hR a hk hA=>?_);obtain⟨g2,g3,g4,f5,f2,fd,f3,he,e0,b2,b3,b4,af,ag⟩:=hR;obtain rfl:=he.symm;have hS:=hA _ e0;replace hS:=((((hS.fS (b2.sub (ap _))).fS (b3.sub (ap _))).fS (b4.sub (ap _))).fM (af.keep (aj _ _) (ap _))).fM (ag.keep (aj _ _) (ap _));refine wl rfl (bj (ps:=[(0,.tmp 61)]) hS rR KE (zl:=[aZ bW]) (by kernel_rfl) rfl (us:=[[aZ I.1]]) ⟨rfl,trivial⟩ (ws:=[aZ I.1]) rfl rfl rfl rfl fun et a w hk hS=>?_);replace hS:=(hS.lit (R:=aR.str) (us:=[aZ I.1]) (xs:=[I.1]) 0 rfl (by decide) (az.one_ (R:=aR.str) (x:=I.1) rfl) rfl rfl).freeze (R:=aR.str) 0 rfl 0 rfl;obtain⟨e2,hM⟩:=bm hM;refine wl rfl (bB (R:=aR.str) (xs:=o) (ys:=[I.1]) hS rR (by decide) (by decide) rfl rfl 3 rfl 7 rfl 0 rfl e2 rfl fun g5 f4 a w hk hS=>?_);exact fz
end
end
section
open Go.RowKit
open Go.Lib hiding intOf
def e7 (s:ByteArray):Int:=if sS s.toList<0 then 0 else if 65535<sS s.toList then 0 else sS s.toList
theorem Bh (s:ByteArray):lE s=some (e7 s):=by
 unfold lE e7;rw [Ev,aD];by_cases h1:sS s.toList<0
 ·simp [h1]
 ·by_cases h2:65535<sS s.toList
  ·simp [h1,h2]
  ·simp [h1,h2]
theorem gr (s:ByteArray):0≤e7 s∧e7 s≤65535:=by
 unfold e7;split
 ·omega
 ·split <;> omega
theorem qz {n:Nat} (h:n<65536):e7 (bU n)=n:=by
 unfold e7;rw [qI,jr,An (by omega),if_neg (by omega),if_neg (by omega)]
theorem sP:∀ {l:List Int},(∀ x∈l,0≤x∧x≤65535)→0≤l.sum∧l.sum≤65535*l.length
 | [],_=>by simp
 | a::l,h=>by
  have h1:=sP (l:=l) fun x hx=>h x (tR _ hx);have h2:=h a px;simp only [List.sum_cons,g9];omega
def rT (r:aI) (ls:List ByteArray):Int :=
 let s:=r.C+(ls.map e7).sum
 if r.Final=1 then s.tmod 1000 else if r.Final=2 then (s.tdiv 2).tmod 1000 else if r.Final=3 then (ls.map e7).foldl max r.C else if r.Final=4 then s.tmod 2 else (ls.map e7).foldl (fun a b=>zr .or .i64 a b) r.C
theorem G3 {α:Type} {l:List α} {k:Nat} (h:k<l.length):l.take (k+1)=l.take k++[l[k]]:=by rw [List.take_add_one,bC h]; rfl
theorem EC {r:aI} {ls:List ByteArray} (hc:0≤r.C∧r.C≤65535) (hl:ls.length≤1000):nL r ls=some (rT r ls):=by
 have hb:∀ x∈ls.map e7,0≤x∧x≤65535:=fun x hx=>by
  obtain⟨s,_,rfl⟩:=eS.1 hx;exact gr s
 have h1:loop (fun s:Int×Int×Int×Int=>gP ls s.1 s.2.1 s.2.2.1 s.2.2.2) (r.C,r.C,r.C,0)=some (r.C+(ls.map e7).sum,(ls.map e7).foldl max r.C,(ls.map e7).foldl (fun a b=>zr .or .i64 a b) r.C):=by
  refine wo (I:=fun k s=>s=(r.C+((ls.take k).map e7).sum,((ls.take k).map e7).foldl max r.C,((ls.take k).map e7).foldl (fun a b=>zr .or .i64 a b) r.C,(k:Int))) _ ls.length ?_ ?_ (by simp)
  ·rintro k _ hk rfl;left;refine⟨_,?_,rfl⟩;unfold gP;have hs:=sP (l:=(ls.take k).map e7) fun x hx=>by
    obtain⟨s,_,rfl⟩:=eS.1 hx;exact gr s
   have hlen:((ls.take k).map e7).length≤1000:=by rw [od,il]; omega
   have hx:=gr ls[k];dsimp only;rw [dlt hk,cond_true,bE hk,aD,Bh,aD,oA (by omega) (by omega),oA (by omega) (by omega),G3 hk];simp only [vO,uL,xA,List.sum_append,List.foldl_append,CW,List.foldl_nil,List.sum_cons,List.sum_nil,Int.add_zero,Int.natCast_add,Int.natCast_one,Int.add_assoc]
  ·rintro _ rfl;unfold gP;rw [bS];simp
 have hs:=sP hb;rw [od] at hs;unfold nL jB rT;rw [h1,aD];simp only [];by_cases f1:r.Final=1
 ·simp [f1]
 ·by_cases f2:r.Final=2
  ·have ht:0≤(r.C+(ls.map e7).sum).tdiv 2∧(r.C+(ls.map e7).sum).tdiv 2≤r.C+(ls.map e7).sum:=by
    rw [Int.tdiv_eq_ediv_of_nonneg (by omega)]; omega
   simp only [f2];rw [oA (by omega) (by omega)];simp
  ·by_cases f3:r.Final=3
   ·simp [f3]
   ·by_cases f4:r.Final=4
    ·simp [f4]
    ·have hb:∀ n:Int,r.Final≠n→(r.Final==n)=false:=fun n h=>by simpa using h
     rw [hb 1 f1,hb 2 f2,hb 3 f3,hb 4 f4];simp [f1,f2,f3,f4]
theorem Kc {a b:Nat} (ha:a<65536) (hb:b<65536):zr .or .i64 (a:Int) (b:Int)=((a ||| b:Nat):Int)∧a ||| b<65536:=by
 have h:=Nat.or_lt_two_pow (n:=16) ha hb;refine⟨?_,h⟩;unfold zr;simp only [show IntKind.i64.bits=64 from rfl];rw [BitVec.toNat_or,BitVec.toNat_ofInt,BitVec.toNat_ofInt,show ((a:Int) % ((2 ^ IntKind.i64.bits:Nat):Int)).toNat=a by rw [show IntKind.i64.bits=64 from rfl]; omega,show ((b:Int) % ((2 ^ IntKind.i64.bits:Nat):Int)).toNat=b by rw [show IntKind.i64.bits=64 from rfl]; omega];exact oA (by omega) (by omega)
theorem zq:∀ (l:List Nat) (a:Nat),(∀ x∈l,x≤65535)→a<65536→(l.map fun x:Nat=>(x:Int)).foldl (fun a b=>zr .or .i64 a b) (a:Int)=((l.foldl (· ||| ·) a:Nat):Int)∧l.foldl (· ||| ·) a<65536
 | [],a,_,ha=>⟨rfl,ha⟩
 | x::l,a,h,ha=>by
  have hx:=h x px;obtain⟨h1,h2⟩:=Kc ha (show x<65536 by omega);simp only [uL,CW,h1];exact zq l _ (fun y hy=>h y (tR _ hy)) h2
theorem tw {l:List aI} {n:Nat} {r:aI} (hR:a8 l) (h:l[n]? = some r) {ls:List ByteArray} (hl:ls.length≤3):∃ m:Nat,rT r ls=m∧m<65536:=by
 have hb:∀ x∈ls.map e7,0≤x∧x≤65535:=fun x hx=>by
  obtain⟨s,_,rfl⟩:=eS.1 hx;exact gr s
 have hs:=sP hb;rw [od] at hs;have hr:=hR.each n r h;unfold rT;dsimp only;cases hg:r.Ring with
 | false =>
  obtain⟨h1,h2,h3,h4⟩:=hr.plain hg;have key:∀ z:Int,0≤z→z<65536→∃ m:Nat,z=m∧m<65536:=fun z h1 h2=>⟨z.toNat,by omega,by omega⟩;by_cases f1:r.Final=1
  ·rw [if_pos f1];refine key _ (vq _ (by omega)) ?_;have:=vp (r.C+(ls.map e7).sum) (b:=1000) (by omega);omega
  ·rw [if_neg f1];by_cases f2:r.Final=2
   ·rw [if_pos f2];have ht:0≤(r.C+(ls.map e7).sum).tdiv 2:=by rw [Int.tdiv_eq_ediv_of_nonneg (by omega)]; omega
    refine key _ (vq _ ht) ?_;have:=vp ((r.C+(ls.map e7).sum).tdiv 2) (b:=1000) (by omega);omega
   ·rw [if_neg f2];by_cases f3:r.Final=3
    ·rw [if_pos f3];have hm:∀ (xs:List Int) (c:Int),(∀ x∈xs,0≤x∧x≤65535)→0≤c→c≤65535→0≤xs.foldl max c∧xs.foldl max c≤65535:=by
      intro xs
      induction xs with
      | nil=>intro c _ h1 h2; exact⟨h1,h2⟩
      | cons x xs ih =>
       intro c hx h1 h2;have:=hx x px;exact ih _ (fun y hy=>hx y (tR _ hy)) (by omega) (by omega)
     have:=hm (ls.map e7) r.C hb (by omega) (by omega);exact key _ this.1 (by omega)
    ·rw [if_neg f3,if_pos (by omega)];refine key _ (vq _ (by omega)) ?_;have:=vp (r.C+(ls.map e7).sum) (b:=2) (by omega);omega
 | true =>
  obtain⟨h1,h2,h3⟩:=hr.ring hg;rw [if_neg (by omega),if_neg (by omega),if_neg (by omega),if_neg (by omega)];obtain⟨c,hc⟩:∃ c:Nat,r.C=c:=⟨r.C.toNat,by omega⟩;have e:ls.map e7=(ls.map fun s=>(e7 s).toNat).map fun x:Nat=>(x:Int):=by
   rw [List.map_map];refine List.map_congr_left fun s _=>?_;have:=gr s;simp only [Function.comp];omega
  rw [e,hc];have:=zq (ls.map fun s=>(e7 s).toNat) c (fun x hx=>by
   obtain⟨s,_,rfl⟩:=eS.1 hx;have:=gr s;omega) (by omega)
  exact⟨_,this.1,this.2⟩
end
section
open Go.RowKit
open Go.Lib hiding intOf
theorem Ck:∀ a:List UInt8,compareBytes a a=0
 | []=>rfl
 | x::r=>by
  have:¬ x<x:=UInt8.lt_irrefl x;simp [compareBytes,this,Ck r]
theorem Hi:∀ {a b:List UInt8},compareBytes a b=0→a=b
 | [],[],_=>rfl
 | [],_::_,h=>by simp [compareBytes] at h
 | _::_,[],h=>by simp [compareBytes] at h
 | x::a,y::b,h=>by
  unfold compareBytes at h;split at h
  ·cases h
  ·split at h
   ·cases h
   ·rename_i h1 h2;have e:x=y:=UInt8.le_antisymm (yX.1 h2) (yX.1 h1);rw [e,Hi h]
theorem Cj:∀ a b:List UInt8,compareBytes b a = -compareBytes a b
 | [],[]=>rfl
 | [],_::_=>rfl
 | _::_,[]=>rfl
 | x::a,y::b=>by
  unfold compareBytes;by_cases h1:x<y
  ·have h2:¬ y<x:=fun h=>UInt8.lt_irrefl _ (UInt8.lt_trans h1 h);simp [h1,h2]
  ·by_cases h2:y<x
   ·simp [h1,h2]
   ·simp [h1,h2,Cj a b]
theorem Ef (a b:List UInt8):compareBytes a b = -1∨compareBytes a b=0∨compareBytes a b=1:=by
 induction a generalizing b with
 | nil=>cases b <;> simp [compareBytes]
 | cons x a ih =>
  cases b with
  | nil=>simp [compareBytes]
  | cons y b =>
   unfold compareBytes;split
   ·simp
   ·split
    ·simp
    ·exact ih b
theorem Af:∀ {a b c:List UInt8},compareBytes a b<0→compareBytes b c<0→compareBytes a c<0
 | [],[],_,h,_=>by simp [compareBytes] at h
 | [],_::_,[],_,h=>by simp [compareBytes] at h
 | [],_::_,_::_,_,_=>by simp [compareBytes]
 | _::_,[],_,h,_=>by simp [compareBytes] at h
 | _::_,_::_,[],_,h=>by simp [compareBytes] at h
 | x::a,y::b,z::c,h1,h2=>by
  unfold compareBytes at h1 h2 ⊢;by_cases e1:x<y
  ·by_cases e2:y<z
   ·simp [UInt8.lt_trans e1 e2]
   ·by_cases e3:z<y
    ·simp [e2,e3] at h2
    ·have e:y=z:=UInt8.le_antisymm (yX.1 e3) (yX.1 e2);subst e; simp [e1]
  ·by_cases e2:y<x
   ·simp [e1,e2] at h1
   ·have e:x=y:=UInt8.le_antisymm (yX.1 e2) (yX.1 e1);subst e;simp only [e1,if_false] at h1;by_cases e3:x<z
    ·simp [e3]
    ·by_cases e4:z<x
     ·simp [e3,e4] at h2
     ·simp only [e3,e4,if_false] at h2 ⊢;exact Af h1 h2
def cq (a b:ae):Int:=if a.Kind<b.Kind then -1 else if b.Kind<a.Kind then 1 else compareBytes a.Text.toList b.Text.toList
theorem toList_inj {a b:ByteArray} (h:a.toList=b.toList):a=b:=by
 rw [ByteArray.toList_eq,ByteArray.toList_eq] at h;exact ByteArray.ext (Bv.1 h)
theorem sH (a:ae):cq a a=0:=by simp [cq,Ck]
theorem GQ {a b:ae} (h:cq a b=0):a=b:=by
 unfold cq at h;split at h
 ·cases h
 ·split at h
  ·cases h
  ·obtain⟨k,t⟩:=a;obtain⟨l,s⟩:=b;simp only [ae.mk.injEq] at *;exact⟨by omega,toList_inj (Hi h)⟩
theorem oB (a b:ae):cq b a = -cq a b:=by
 unfold cq;by_cases h1:a.Kind<b.Kind
 ·have h2:¬ b.Kind<a.Kind:=by omega
  simp [h1,h2]
 ·by_cases h2:b.Kind<a.Kind
  ·simp [h1,h2]
  ·simp [h1,h2,Cj a.Text.toList]
theorem oU (a b:ae):cq a b = -1∨cq a b=0∨cq a b=1:=by
 unfold cq;split
 ·simp
 ·split
  ·simp
  ·exact Ef _ _
theorem mJ {a b c:ae} (h1:cq a b<0) (h2:cq b c<0):cq a c<0:=by
 unfold cq at h1 h2 ⊢;by_cases e1:a.Kind<b.Kind
 ·by_cases e2:b.Kind<c.Kind
  ·rw [if_pos (by omega)]; omega
  ·by_cases e3:c.Kind<b.Kind
   ·simp [e2,e3] at h2
   ·rw [if_pos (by omega)]; omega
 ·by_cases e2:b.Kind<a.Kind
  ·simp [e1,e2] at h1
  ·simp only [e1,e2,if_false] at h1;by_cases e3:b.Kind<c.Kind
   ·rw [if_pos (by omega)]; omega
   ·by_cases e4:c.Kind<b.Kind
    ·simp [e3,e4] at h2
    ·simp only [e3,e4,if_false] at h2;rw [if_neg (by omega),if_neg (by omega)];exact Af h1 h2
theorem nF {a b:ae}:0<cq a b↔cq b a<0:=by rw [oB a b]; omega
theorem wZ {a:ae}:¬ cq a a<0:=by rw [sH]; omega
theorem Dw {a b:ae} (h:cq a b<0):¬ cq b a<0:=by rw [oB a b]; omega
theorem oq {a b:ae} (h:cq a b<0):a≠b:=fun e=>by subst e; exact wZ h
theorem qh (a b:ae):cq a b<0∨a=b∨cq b a<0:=by
 rcases oU a b with h | h | h
 ·exact .inl (by omega)
 ·exact .inr (.inl (GQ h))
 ·exact .inr (.inr (by rw [oB a b]; omega))
theorem s5 {a b c:ae} (h1:¬ cq b a<0) (h2:cq b c<0):cq a c<0:=by
 rcases qh a b with h | h | h
 ·exact mJ h h2
 ·subst h; exact h2
 ·exact absurd h h1
def db (a b:ae):Bool:=a.Kind==b.Kind&&a.Text.toList==b.Text.toList
theorem dK {a b:ae}:db a b=true↔a=b:=by
 unfold db;obtain⟨k,t⟩:=a;obtain⟨l,s⟩:=b;simp only [nX,beq_iff_eq,ae.mk.injEq];exact⟨fun h=>⟨h.1,toList_inj h.2⟩,fun h=>⟨h.1,by rw [h.2]⟩⟩
theorem ue {a b:ae}:db a b=false↔a≠b:=by rw [← Bool.not_eq_true,dK]
theorem y6 (x y:Int):jl x y=some (if x<y then -1 else if y<x then 1 else 0):=by
 unfold jl kE;by_cases h1:x<y
 ·simp [h1]
 ·by_cases h2:y<x <;> simp [h1,h2]
theorem IT (a b:Int):rP [a,b]=some (if a≠0 then a else b):=by
 unfold rP;by_cases h:a=0
 ·subst h;rw [wq (s':=1)]
  ·by_cases hb:b=0
   ·subst hb;rw [wq (s':=2)]
    ·rw [iA (r:=.go ())]
     ·rfl
     ·rfl
    ·rfl
   ·rw [iA (r:=.out b)]
    ·simp [Fl.el]
    ·unfold jZ;have:(b != 0)=true:=by simpa using hb
     simp [bk,this]
  ·rfl
 ·rw [iA (r:=.out a)]
  ·simp [Fl.el,h]
  ·unfold jZ;have:(a != 0)=true:=by simpa using h
   simp [bk,this]
theorem BM (a b:ae):qL a b=some (cq a b):=by
 unfold qL cq qb;rw [y6];simp only [aD];rw [IT];by_cases h1:a.Kind<b.Kind
 ·simp [h1]
 ·by_cases h2:b.Kind<a.Kind <;> simp [h1,h2]
section
variable {κ ν:Type} {q:κ→κ→Bool} (hq:∀ a b,q a b=true↔a=b)
def Nd (xs:List (κ×ν)):Prop:=(xs.map (·.1)).Nodup
include hq
theorem o5 (a:κ):q a a=true:=(hq a a).2 rfl
theorem u6 {a b:κ} (h:a≠b):q a b=false:=by rw [← Bool.not_eq_true,hq]; exact h
theorem w9 {k:κ} {v:ν}:∀ {xs:List (κ×ν)},Nd xs→(cB q k xs=some v↔(k,v)∈xs)
 | [],_=>by simp [cB]
 | x::r,h=>by
  have h':=yW.1 (show (x.1::r.map (·.1)).Nodup from h);have ih:=w9 (k:=k) (v:=v) (xs:=r) h'.2;by_cases e:k=x.1
  ·subst e;rw [cB,o5 hq,cond_true];constructor
   ·intro h; injection h with h; rw [← h]; exact px
   ·intro hm;rcases dQ.1 hm with hm | hm
    ·rw [← hm]
    ·exact absurd (C3 (f:=(·.1)) hm) h'.1
  ·rw [cB,u6 hq e,cond_false,ih,dQ];constructor
   ·exact .inr
   ·rintro (h | h)
    ·exact absurd (congrArg (·.1) h) e
    ·exact h
theorem yC {k:κ}:∀ {xs:List (κ×ν)},cB q k xs=none↔∀ v,(k,v) ∉ xs
 | []=>by simp [cB]
 | x::r=>by
  by_cases e:k=x.1
  ·rw [cB,e,o5 hq,cond_true];constructor
   ·intro h; cases h
   ·intro h; exact absurd px (h x.2)
  ·rw [cB,u6 hq e,cond_false,yC];constructor
   ·intro h v hv;rcases dQ.1 hv with hv | hv
    ·exact e (congrArg (·.1) hv)
    ·exact h v hv
   ·intro h v hv; exact h v (tR _ hv)
theorem uh (k k':κ) (v:ν):∀ (xs:List (κ×ν)),cB q k (de q k' v xs)=if q k k' then some v else cB q k xs
 | []=>by simp [de,cB,Bool.cond_eq_ite]
 | x::r=>by
  by_cases e:k'=x.1
  ·rw [de,e,o5 hq,cond_true,cB,cB];cases q k x.1 <;> simp
  ·rw [de,u6 hq e,cond_false,cB,cB,uh k k' v r];by_cases e2:k=x.1
   ·have:q k k'=false:=u6 hq (fun h=>e (h.symm.trans e2));rw [e2,o5 hq,cond_true,cond_true,← e2,this]; rfl
   ·rw [u6 hq e2]; rfl
theorem yD (k:κ) (v:ν):∀ {xs:List (κ×ν)},Nd xs→(de q k v xs).Perm ((k,v)::xs.filter fun y=>!q k y.1)
 | [],_=>by simp [de]
 | x::r,h=>by
  have h':=yW.1 (show (x.1::r.map (·.1)).Nodup from h);by_cases e:k=x.1
  ·rw [de,e,o5 hq,cond_true,tj (by simp [o5 hq])];rw [vM.2];intro y hy;rw [u6 hq]; rfl;intro e2;exact h'.1 (e2▸C3 hy)
  ·rw [de,u6 hq e,cond_false,xD (by simp [u6 hq e])];exact ((yD k v h'.2).cons x).trans (List.Perm.swap _ _ _)
theorem rX (k:κ):∀ {xs:List (κ×ν)},Nd xs→pu q k xs=xs.filter fun y=>!q k y.1
 | [],_=>rfl
 | x::r,h=>by
  have h':=yW.1 (show (x.1::r.map (·.1)).Nodup from h);by_cases e:k=x.1
  ·rw [pu,e,o5 hq,cond_true,tj (by simp [o5 hq])];rw [vM.2];intro y hy;rw [u6 hq]; rfl;intro e2;exact h'.1 (e2▸C3 hy)
  ·rw [pu,u6 hq e,cond_false,xD (by simp [u6 hq e]),rX k h'.2]
omit hq in
theorem Nd.perm {xs ys:List (κ×ν)} (h:Nd xs) (p:xs.Perm ys):Nd ys:=(p.map _).nodup_iff.1 h
omit hq in
theorem Nd.filter {xs:List (κ×ν)} (h:Nd xs) (p:κ×ν→Bool):Nd (xs.filter p):=h.sublist (List.Sublist.map _ List.filter_sublist)
theorem Nd.put {xs:List (κ×ν)} (h:Nd xs) (k:κ) (v:ν):Nd (de q k v xs):=by
 refine Nd.perm ?_ (yD hq k v h).symm;show (k::(xs.filter fun y=>!q k y.1).map (·.1)).Nodup;refine yW.2 ⟨fun hm=>?_,h.filter _⟩;obtain⟨y,hy,e⟩:=eS.1 hm;have:=(gc.1 hy).2;rw [e,o5 hq] at this;cases this
theorem Nd.del {xs:List (κ×ν)} (h:Nd xs) (k:κ):Nd (pu q k xs):=by rw [rX hq k h]; exact h.filter _
theorem ES (k k':κ) {xs:List (κ×ν)} (h:Nd xs):cB q k (pu q k' xs)=if q k k' then none else cB q k xs:=by
 rw [rX hq k' h];by_cases e:k=k'
 ·subst e;rw [o5 hq,if_pos rfl,yC hq];intro v hv;have:=(gc.1 hv).2;simp [o5 hq] at this
 ·rw [u6 hq e,if_neg (by simp)];refine Option.ext fun v=>?_;rw [w9 hq (h.filter _),w9 hq h,gc];simp [u6 hq (fun h=>e h.symm)]
end
end
section
open Go.RowKit
open Go.Lib hiding intOf
def BB (l:List ae):Prop:=l.Pairwise fun a b=>cq a b<0
theorem AG:∀ {a b:List ae},BB a→BB b→(∀ x,x∈a↔x∈b)→a=b
 | [],[],_,_,_=>rfl
 | [],y::b,_,_,h=>by have:=(h y).2 px; cases this
 | x::a,[],_,_,h=>by have:=(h x).1 px; cases this
 | x::a,y::b,ha,hb,h=>by
  have ha':=vt.1 ha;have hb':=vt.1 hb;have e:x=y:=by
   rcases dQ.1 ((h x).1 px) with e | h1
   ·exact e
   ·rcases dQ.1 ((h y).2 px) with e | h2
    ·exact e.symm
    ·exact absurd (hb'.1 x h1) (Dw (ha'.1 y h2))
  subst e;rw [AG ha'.2 hb'.2 fun z=>?_];constructor
  ·intro hz;rcases dQ.1 ((h z).1 (tR _ hz)) with e | h1
   ·subst e; exact absurd (ha'.1 z hz) wZ
   ·exact h1
  ·intro hz;rcases dQ.1 ((h z).2 (tR _ hz)) with e | h1
   ·subst e; exact absurd (hb'.1 z hz) wZ
   ·exact h1
structure vw (l m:List ae):Prop where
 asc:BB m
 mem:∀ x,x∈m↔x∈l
 len:m.length≤l.length
def C9 (l:List ad):Prop:=Rm l.length∧∀ r∈l,Rm r.Reads.length
def Bw (l:List ad):Prop:=l.Pairwise fun a b=>cq a.Key b.Key<0
def i7 (l:List ad) (r:ad):List ad:=(l.filter fun x=>decide (cq x.Key r.Key<0))++r::(l.filter fun x=>decide (0<cq x.Key r.Key))
theorem sI (a:ae):db a a=true:=dK.2 rfl
theorem yw (a b:ae):db a b=db b a:=by
 by_cases h:a=b
 ·rw [h]
 ·rw [ue.2 h,ue.2 fun e=>h e.symm]
def LE:ad:=⟨⟨0,⟨#[]⟩⟩,⟨#[]⟩,[],0,0,0,false⟩
def aS (l:List ad) (k:ae):ad×Bool:=match l.find? (fun r=>db r.Key k) with | some r=>(r,true) | none=>(LE,false)
theorem zn {α:Type} {p:α→Bool} {l:List α} {k:Nat} {x:α} (h1:l[k]? = some x) (h2:p x=true) (h3:∀ j z,j<k→l[j]? = some z→p z=false):l.find? p=some x:=by
 obtain⟨h,e⟩:=bD.1 h1;have:l=l.take k++x::l.drop (k+1):=by rw [← e]; simp
 rw [this,List.find?_append,List.find?_cons_of_pos h2];have:(l.take k).find? p=none:=by
  rw [vN];intro z hz;obtain⟨j,hj⟩:=gZ.1 hz;rw [pn] at hj;split at hj
  ·rename_i hjk;rw [h3 j z hjk hj]; simp
  ·cases hj
 rw [this]; rfl
theorem mW (a b:ae):iT a b=some (cq a b):=by
 unfold iT cq qb;by_cases h1:a.Kind<b.Kind
 ·simp [h1]
 ·by_cases h2:b.Kind<a.Kind <;> simp [h1,h2]
theorem oJ {r:ad} (h:Rm r.Reads.length):eQ r=some r:=by
 unfold eQ Rm at *;rw [show bL (([]:List ae).length+r.Reads.length)=true from ey (by simp; omega)]; rfl
theorem yJ {l:List ad} {r:ad} (h:Bw l) (hl:Rm l.length) (hr:Rm r.Reads.length):ki l r=some (i7 l r):=by
 unfold Rm at hl;have hpl:∀ i,((l.take i).filter fun x=>decide (cq x.Key r.Key<0)).length+((l.take i).filter fun x=>decide (0<cq x.Key r.Key)).length≤l.length:=fun i=>by
  have h1:∀ m:List ad,(m.filter fun x=>decide (cq x.Key r.Key<0)).length+(m.filter fun x=>decide (0<cq x.Key r.Key)).length≤m.length:=by
   intro m
   induction m with
   | nil=>simp
   | cons y m ih =>
    by_cases a:cq y.Key r.Key<0
    ·rw [xD (by simpa using a),tj (by simp; omega)]; simp only [g9]; omega
    ·by_cases b:0<cq y.Key r.Key
     ·rw [tj (by simpa using a),xD (by simpa using b)]; simp only [g9]; omega
     ·rw [tj (by simpa using a),tj (by simpa using b)]; simp only [g9]; omega
  have:=h1 (l.take i);rw [il] at this; omega
 have key:Ok (ki l r) fun y=>y=i7 l r:=by
  unfold ki;refine bK (fun n t=>n≤l.length∧t.2.2=(n:Int)∧((t.1=l.take n∧t.2.1=false∧∀ x∈l.take n,cq x.Key r.Key<0)∨(t.1=i7 (l.take n) r∧t.2.1=true∧∃ x∈l.take n,¬ cq x.Key r.Key<0)))
   (fun t=>(t.1=l∧t.2=false∧∀ x∈l,cq x.Key r.Key<0)∨(t.1=i7 l r∧t.2=true)) l.length ⟨ez _,rfl,.inl ⟨rfl,rfl,by simp⟩⟩ (fun n t hn hI=>?_) (fun t ht=>?_)
  ·obtain⟨out,put,i⟩:=t;obtain⟨_,h1,h2⟩:=hI;dsimp only at h1 h2;subst h1;unfold ox;dsimp only;by_cases hi:n<l.length
   ·have hx:l[n]? = some l[n]:=bC hi;obtain⟨x,hxe⟩:∃ x,x=l[n]:=⟨_,rfl⟩;rw [← hxe] at hx;rw [dlt hi,cond_true,bf,hx,aD,mW,aD];have tk:=bM hx;have hle:=hpl n;rcases h2 with⟨rfl,rfl,h3⟩|⟨rfl,rfl,y,hy,h3⟩
    ·have e0:((l.take n).filter fun x=>decide (cq x.Key r.Key<0))=l.take n:=vM.2 fun x hx=>by simpa using h3 x hx
     have e1:((l.take n).filter fun x=>decide (0<cq x.Key r.Key))=[]:=CZ.2 fun x hx=>by have:=h3 x hx; simp; omega
     rcases oU x.Key r.Key with hc | hc | hc
     ·rw [hc];unfold f0 fZ fY;rw [show bL ((l.take n).length+[x].length)=true from ey (by simp; omega),cR (by omega)];refine aq ⟨hi,hi,rfl,.inl ⟨tk.symm,rfl,fun z hz=>?_⟩⟩;rw [tk] at hz;rcases cg.1 hz with hz | hz
      ·exact h3 z hz
      ·simp only [dQ,mA,or_false] at hz; subst hz; omega
     ·rw [hc];unfold f0 fZ fY;rw [oJ hr,cR (by omega)];simp only [aD];rw [show bL ((l.take n).length+[r].length)=true from ey (by simp; omega)];refine aq ⟨hi,hi,rfl,.inr ⟨?_,rfl,x,by rw [tk]; simp,by omega⟩⟩;unfold i7;rw [tk,lI,lI,e0,e1];simp [hc]
     ·rw [hc];unfold f0 fZ fY;rw [oJ hr,cR (by omega)];simp only [aD];rw [show bL ((l.take n).length+[r].length)=true from ey (by simp; omega),show bL ((l.take n++[r]).length+[x].length)=true from ey (by simp; omega)];refine aq ⟨hi,hi,rfl,.inr ⟨?_,rfl,x,by rw [tk]; simp,by omega⟩⟩;unfold i7;rw [tk,lI,lI,e0,e1];simp [hc]
    ·have hyx:cq y.Key x.Key<0:=by
      obtain⟨j,hj⟩:=gZ.1 hy;rw [pn] at hj;split at hj
      ·rename_i hjn;obtain⟨q1,q2⟩:=bD.1 hj;have:=gw.1 h j n q1 hi hjn;rw [q2,← hxe] at this; exact this
      ·cases hj
     have hc:0<cq x.Key r.Key:=by
      rw [nF];exact s5 (b:=y.Key) h3 hyx
     have hc1:cq x.Key r.Key=1:=by rcases oU x.Key r.Key with h | h | h <;> omega
     rw [hc1];unfold f0 fZ fY;rw [cR (by omega),show bL ((i7 (l.take n) r).length+[x].length)=true from ey (by unfold i7; simp only [cW,g9,rI]; omega)];refine aq ⟨hi,hi,rfl,.inr ⟨?_,rfl,y,by rw [tk]; exact gv _ hy,h3⟩⟩;unfold i7;rw [tk,lI,lI];simp [hc1]
   ·have hn2:n=l.length:=by omega
    rw [hn2,bS,cond_false];rw [hn2,lJ] at h2;refine aq ?_;rcases h2 with⟨a,b,c⟩|⟨a,b,c⟩
    ·exact .inl ⟨a,b,c⟩
    ·exact .inr ⟨a,b⟩
  ·obtain⟨out,put⟩:=t;dsimp only at ht;unfold l8 l7;rcases ht with⟨rfl,rfl,h3⟩|⟨rfl,rfl⟩
   ·rw [oJ hr];simp only [nY,cond_true,aD];rw [show bL (out.length+[r].length)=true from ey (by simp; omega)];refine aq ?_;unfold i7;rw [vM.2 fun x hx=>by simpa using h3 x hx,CZ.2 fun x hx=>by have:=h3 x hx; simp; omega]
   ·exact aq rfl
 obtain⟨y,e,rfl⟩:=key;exact e
theorem yh {l:List ae} (h:Rm l.length):gO l l=some true:=by
 unfold Rm at h;unfold gO;rw [show ((l.length:Int) != (l.length:Int))=false by simp,cond_false];refine fo (d7 (xs:=l) (fun i=>(i:Int)) rfl (r:=.go ()) (fun i x hx=>?_) ?_) rfl
 ·unfold fX;rw [fC hx,cond_true,bf,hx,aD,aD,cR (by have:=aW hx; omega)];show cond (!db x x) _ _=_;rw [sI]; rfl
 ·unfold fX;rw [bS]; rfl
theorem E5 {l:List ad} {r x:ad} (h:x∈i7 l r):x∈l∨x=r:=by
 unfold i7 at h;rcases cg.1 h with h | h
 ·exact .inl (gc.1 h).1
 ·rcases dQ.1 h with h | h
  ·exact .inr h
  ·exact .inl (gc.1 h).1
theorem A2 {l:List ad} (h:Bw l) (r:ad):Bw (i7 l r):=by
 unfold Bw i7;rw [ti];refine⟨CY _ h,vt.2 ⟨fun x hx=>?_,CY _ h⟩,fun x hx y hy=>?_⟩
 ·have:=(gc.1 hx).2;simp only [decide_eq_true_eq] at this;exact nF.1 this
 ·have h1:=(gc.1 hx).2;simp only [decide_eq_true_eq] at h1;rcases dQ.1 hy with rfl | hy
  ·exact h1
  ·have h2:=(gc.1 hy).2;simp only [decide_eq_true_eq] at h2;exact mJ h1 (nF.1 h2)
theorem qW {l:List ad} (hl:C9 l) (k:ae):cw l k=some (aS l k):=by
 have h1:=hl.1;unfold Rm at h1;unfold cw;have key:=lj (B:=fun t:Int=>gl l k t) (xs:=l) (fun r=>db r.Key k) (fun i=>(i:Int)) (s0:=0) rfl (y:=fun i x=>Fl.out (x,true)) (n:=Fl.go ()) (fun i x hx hp=>by
   unfold gl;rw [fC hx,cond_true,bf,hx,aD,cR (by have:=aW hx; omega)];show cond (db x.Key k) _ _=_;rw [hp]; rfl) (fun i x hx hp=>by
   unfold gl;rw [fC hx,cond_true,bf,hx,aD];show cond (db x.Key k) _ _=_;rw [hp,oJ (hl.2 x (aH hx))]; rfl) (by
   unfold gl;rw [bS]; rfl)
 unfold aS;rcases key with⟨i,x,h1,h2,h3,h4⟩|⟨h1,h2⟩
 ·rw [h4,zn (p:=fun r=>db r.Key k) h1 h2 h3]; rfl
 ·rw [h2,show l.find? (fun r=>db r.Key k)=none from vN.2 fun x hx=>by rw [h1 x hx]; simp]; rfl
theorem vd {l:List ae} (hl:Rm l.length) (k:ae):mN l k=some (l.any fun x=>db k x):=by
 unfold Rm at hl;unfold mN;refine fo (w6 (xs:=l) (fun x=>db k x) (fun i=>(i:Int)) rfl (y:=Fl.out true) (n:=Fl.go ()) (fun i x hx hp=>?_) (fun i x hx hp=>?_) ?_) ?_
 ·unfold kf;rw [fC hx,cond_true,bf,hx,aD,cR (by have:=aW hx; omega)];show cond (db x k) _ _=_;rw [yw,hp]; rfl
 ·unfold kf;rw [fC hx,cond_true,bf,hx,aD];show cond (db x k) _ _=_;rw [yw,hp]; rfl
 ·unfold kf;rw [bS]; rfl
 ·cases l.any fun x=>db k x <;> rfl
theorem GM {out:List ae} (h:BB out) {i:Nat} {k:ae} (h1:∀ y∈out.take i,cq y k<0) (h2:∀ y∈out.drop i,cq k y<0):BB (out.take i++[k]++out.drop i):=by
 unfold BB at *;rw [Bs,ti];refine⟨h.sublist (List.take_sublist _ _),vt.2 ⟨fun y hy=>h2 y hy,h.sublist (List.drop_sublist _ _)⟩,fun a ha b hb=>?_⟩;rcases dQ.1 hb with rfl | hb
 ·exact h1 a ha
 ·exact mJ (h1 a ha) (h2 b hb)
theorem GN {out:List ae} {i:Nat} {k x:ae}:x∈out.take i++[k]++out.drop i↔x∈out∨x=k:=by
 conv=>rhs; rw [← Bt i out]
 simp only [cg,dQ,mA,or_false];constructor
 ·rintro ((h | h) | h)
  ·exact .inl (.inl h)
  ·exact .inr h
  ·exact .inl (.inr h)
 ·rintro ((h | h) | h)
  ·exact .inl (.inl h)
  ·exact .inr h
  ·exact .inl (.inr h)
theorem td {l:List ae} (hl:Rm l.length):∃ m,iq l=some m∧vw l m:=by
 unfold Rm at hl;have key:Ok (iq l) fun m=>vw l m:=by
  unfold iq;refine bK (fun n s=>s.2=(n:Int)∧n≤l.length∧vw (l.take n) s.1) (fun r=>vw l r) l.length ⟨rfl,ez _,vr,fun x=>by simp,by simp⟩ (fun n s hn hI=>?_) (fun r hr=>aq hr);obtain⟨out,g⟩:=s;obtain⟨h1,h2,h3⟩:=hI;dsimp only at h1 h3;subst h1;have hol:=h3.len;rw [il] at hol;unfold kY;dsimp only;by_cases hi:n<l.length
  ·have hx:l[n]? = some l[n]:=bC hi;obtain⟨k,hk⟩:∃ k,k=l[n]:=⟨_,rfl⟩;rw [← hk] at hx;rw [dlt hi,cond_true,bf,hx,aD];have stay:k∈out→vw (l.take (n+1)) out:=fun hm=>⟨h3.asc,fun x=>by
    rw [bM hx,cg,h3.mem];constructor
    ·exact .inl
    ·rintro (h | h)
     ·exact h
     ·simp only [dQ,mA,or_false] at h;subst h; exact (h3.mem _).1 hm,by rw [il]; omega⟩
   have put:∀ i:Nat,i≤out.length→(∀ y∈out.take i,cq y k<0)→(∀ y∈out.drop i,cq k y<0)→vw (l.take (n+1)) (out.take i++[k]++out.drop i):=fun i hio q1 q2=>⟨GM h3.asc q1 q2,fun x=>by
    rw [GN,bM hx,cg,h3.mem];simp,by simp only [cW,il,rJ,g9,rI]; omega⟩
   have j3:∀ i:Nat,i≤out.length→(∀ y∈out.take i,cq y k<0)→(∀ y∈out.drop i,cq k y<0)→Ok (dG out (n:Int) k (i:Int) true) fun r=>match r with
     | .go s'=>n<l.length∧s'.2=((n+1:Nat):Int)∧n+1≤l.length∧vw (l.take (n+1)) s'.1
     | .out r=>vw l r:=fun i hio q1 q2=>by
    unfold dG fJ;rw [cond_true,qt hio,aD,uE hio,aD,cR (by omega)];have r1:bL (([]:List ae).length+(out.take i).length)=true:=ey (by simp; omega);have r2:bL ((([]:List ae)++out.take i).length+[k].length)=true:=ey (by simp; omega);have r3:bL (((([]:List ae)++out.take i)++[k]).length+(out.drop i).length)=true:=ey (by simp; omega);rw [r1,r2,r3];simp only [gd,cond_true,Bu];exact aq ⟨hi,rfl,hi,put i hio q1 q2⟩
   have inner:=lj (B:=fun t:Int=>eE out k t) (xs:=out) (fun y=>!decide (cq y k<0)) (fun i=>(i:Int)) (s0:=0) rfl (y:=fun i _=>(i:Int)) (n:=(out.length:Int)) (fun i y hy hp=>by
     unfold eE;simp only [Bool.not_eq_false'] at hp;rw [fC hy,cond_true,bf,hy,aD,mW,aD,hp,cond_true,cR (by have:=aW hy; omega)]) (fun i y hy hp=>by
     unfold eE;simp only [sv] at hp;rw [fC hy,cond_true,bf,hy,aD,mW,aD,hp,cond_false]) (by
     unfold eE;rw [bS]; rfl)
   rcases inner with⟨i,y,a1,a2,a3,a4⟩|⟨a1,a2⟩
   ·rw [a4,aD];have hio:=aW a1;have hge:¬ cq y k<0:=by simpa using a2
    have hb:∀ z∈out.take i,cq z k<0:=fun z hz=>by
     obtain⟨j,hj⟩:=gZ.1 hz;rw [pn] at hj;split at hj
     ·rename_i hji;simpa using a3 j z hji hj
     ·cases hj
    unfold iB;rw [show ((i:Int)==(out.length:Int))=false from by simp; omega,cond_false,bf,a1,aD];show Ok (dG out (n:Int) k (i:Int) (!db y k)) _;cases hq:db y k
    ·rw [nY];refine (j3 i (by omega) hb fun z hz=>?_).mono fun y hy=>by cases y <;> exact hy
     have hyk:cq k y<0:=by
      rcases qh y k with h | h | h
      ·exact absurd h hge
      ·exact absurd h (ue.1 hq)
      ·exact h
     obtain⟨j,hj⟩:=gZ.1 hz;rw [sw] at hj;obtain⟨q1,q2⟩:=bD.1 hj;obtain⟨q3,q4⟩:=bD.1 a1;by_cases hj0:j=0
     ·subst hj0;rw [qC,a1] at hj;injection hj with hj;rw [← hj]; exact hyk
     ·have:=gw.1 h3.asc i (i+j) q3 q1 (by omega);rw [q4,q2] at this;exact mJ hyk this
    ·unfold dG fJ;rw [im,cond_false,cR (by omega)];exact aq ⟨hi,rfl,hi,stay (by rw [← dK.1 hq]; exact aH a1)⟩
   ·rw [a2,aD];unfold iB;rw [beq_self_eq_true,cond_true];refine (j3 out.length (cM _) (fun z hz=>?_) (fun z hz=>by rw [C0] at hz; cases hz)).mono fun y hy=>by cases y <;> exact hy
    rw [lJ] at hz;simpa using a1 z hz
  ·rw [Ex hi,cond_false];have:n=l.length:=by omega
   subst this;rw [lJ] at h3;exact aq h3
 obtain⟨m,e,h⟩:=key;exact⟨m,e,h⟩
end
section
open Go.RowKit
open Go.Lib hiding intOf
instance MC:DecidableEq ae:=fun a b=>decidable_of_iff (db a b=true) dK
inductive eT {α:Type} (E:α→α→Prop) (x:α):α→Prop
 | refl:eT E x x
 | snoc {y z:α}:eT E x y→E y z→eT E x z
theorem eT.trans {α:Type} {E:α→α→Prop} {x y z:α} (h:eT E x y) (k:eT E y z):eT E x z:=by
 induction k with
 | refl=>exact h
 | snoc _ e ih=>exact .snoc ih e
theorem eT.head {α:Type} {E:α→α→Prop} {x y z:α} (h:E x y) (k:eT E y z):eT E x z:=(eT.snoc .refl h).trans k
def BC {α:Type} (E:α→α→Prop) (x z:α):Prop:=∃ y,eT E x y∧E y z
theorem BC.star {α:Type} {E:α→α→Prop} {x z:α} (h:BC E x z):eT E x z:=by obtain⟨y,h1,h2⟩:=h; exact .snoc h1 h2
theorem eT.plus {α:Type} {E:α→α→Prop} {x z:α} (h:eT E x z) (hne:x≠z):BC E x z:=by
 cases h with
 | refl=>exact absurd rfl hne
 | snoc h1 h2=>exact⟨_,h1,h2⟩
theorem mK {α:Type}:∀ {l m:List α},l.Nodup→(∀ x∈l,x∈m)→l.length≤m.length
 | [],m,_,_=>ez _
 | x::l,m,h,hs=>by
  have h':=yW.1 h;obtain⟨a,b,rfl⟩:=List.append_of_mem (hs x px);have:=mK (l:=l) (m:=a++b) h'.2 fun y hy=>by
   have h1:=hs y (tR _ hy);rw [cg,dQ] at h1;rw [cg];rcases h1 with h1 | rfl | h1
   ·exact .inl h1
   ·exact absurd hy h'.1
   ·exact .inr h1
  simp only [g9,cW] at this ⊢;omega
theorem m8:∀ a b:ae,aM a b=true↔a=b:=fun a b=>dK (a:=a) (b:=b)
theorem E6 {m:List (ae×Bool)} {M:List ae} (h:∀ x,(cB aM x m).getD false=decide (x∈M)) (e:ae):∀ x,(cB aM x (de aM e true m)).getD false=decide (x∈M++[e]):=fun x=>by
 rw [uh m8];by_cases hx:x=e
 ·subst hx; rw [if_pos ((m8 _ _).2 rfl)]; simp
 ·rw [if_neg (fun h=>hx ((m8 _ _).1 h)),h]; simp [hx]
section
variable {succ:ae→List ae} {filt:ae→Bool}
def Bz (succ:ae→List ae) (filt:ae→Bool) (T:List ae) (i g:Nat) (x r:ae):Prop :=
 ∃ j,T[j]? = some x∧filt r=true∧((j<i∧r∈succ x)∨(j=i∧r∈(succ x).take g))
theorem Bz.grow {T T':List ae} {i g:Nat} {x r:ae} (hi:i<T.length):Bz succ filt (T++T') i g x r↔Bz succ filt T i g x r:=by
 constructor
 ·rintro⟨j,h1,h2,h3⟩;rw [og (by omega)] at h1;exact⟨j,h1,h2,h3⟩
 ·rintro⟨j,h1,h2,h3⟩;exact⟨j,by rw [og (by omega)]; exact h1,h2,h3⟩
theorem Bz.step {T:List ae} {i g:Nat} {c e:ae} (hc:T[i]? = some c) (he:(succ c)[g]? = some e) {x r:ae}:Bz succ filt T i (g+1) x r↔Bz succ filt T i g x r∨(x=c∧r=e∧filt e=true):=by
 constructor
 ·rintro⟨j,h1,h2,h3 | ⟨rfl,h3⟩⟩
  ·exact .inl ⟨j,h1,h2,.inl h3⟩
  ·rw [hc] at h1;injection h1 with h1;subst h1;rw [bM he,cg,dq] at h3;rcases h3 with h3 | rfl
   ·exact .inl ⟨j,hc,h2,.inr ⟨rfl,h3⟩⟩
   ·exact .inr ⟨rfl,rfl,h2⟩
 ·rintro (⟨j,h1,h2,h3 | ⟨rfl,h3⟩⟩|⟨rfl,rfl,h⟩)
  ·exact⟨j,h1,h2,.inl h3⟩
  ·rw [hc] at h1;injection h1 with h1;subst h1;exact⟨j,hc,h2,.inr ⟨rfl,by rw [bM he]; exact gv _ h3⟩⟩
  ·exact⟨i,hc,h,.inr ⟨rfl,by rw [bM he]; simp⟩⟩
theorem Bz.next {T:List ae} {i:Nat} {c:ae} (hc:T[i]? = some c) {x r:ae}:Bz succ filt T i (succ c).length x r↔Bz succ filt T (i+1) 0 x r:=by
 constructor
 ·rintro⟨j,h1,h2,h3 | ⟨rfl,h3⟩⟩
  ·exact⟨j,h1,h2,.inl ⟨by omega,h3.2⟩⟩
  ·rw [hc] at h1;injection h1 with h1;subst h1;rw [lJ] at h3;exact⟨j,hc,h2,.inl ⟨by omega,h3⟩⟩
 ·rintro⟨j,h1,h2,h3 | ⟨rfl,h3⟩⟩
  ·by_cases hj:j=i
   ·subst hj;rw [hc] at h1;injection h1 with h1;subst h1;exact⟨j,hc,h2,.inr ⟨rfl,by rw [lJ]; exact h3.2⟩⟩
   ·exact⟨j,h1,h2,.inl ⟨by omega,h3.2⟩⟩
  ·simp at h3
structure WL (succ:ae→List ae) (filt:ae→Bool) (Rch:ae→Prop) (pre:List ae) (seen:List (ae×Bool)) (M:List ae) (i g:Nat):Prop where
 nd:M.Nodup
 see:∀ x,(cB aM x seen).getD false=decide (x∈M)
 rch:∀ x∈M,Rch x
 con:∀ x r,Bz succ filt (pre++M) i g x r→r∈M
variable {Rch:ae→Prop} {pre:List ae} {seen:List (ae×Bool)} {M:List ae} {i g:Nat} {c e:ae}
theorem WL.skip (h:WL succ filt Rch pre seen M i g) (hc:(pre++M)[i]? = some c) (he:(succ c)[g]? = some e) (hf:filt e=false):WL succ filt Rch pre seen M i (g+1) :=
 ⟨h.nd,h.see,h.rch,fun x r hx=>by
  rcases (Bz.step hc he).1 hx with h1 | ⟨_,_,h1⟩
  ·exact h.con x r h1
  ·rw [hf] at h1; cases h1⟩
theorem WL.old (h:WL succ filt Rch pre seen M i g) (hc:(pre++M)[i]? = some c) (he:(succ c)[g]? = some e) (hm:e∈M):WL succ filt Rch pre seen M i (g+1) :=
 ⟨h.nd,h.see,h.rch,fun x r hx=>by
  rcases (Bz.step hc he).1 hx with h1 | ⟨_,rfl,_⟩
  ·exact h.con x r h1
  ·exact hm⟩
theorem WL.new (h:WL succ filt Rch pre seen M i g) (hc:(pre++M)[i]? = some c) (he:(succ c)[g]? = some e) (hm:e ∉ M) (hr:Rch e):WL succ filt Rch pre (de aM e true seen) (M++[e]) i (g+1) :=
 ⟨List.nodup_append.2 ⟨h.nd,by simp,fun a ha b hb e2=>by rw [dq] at hb; subst hb e2; exact hm ha⟩,E6 h.see e,fun x hx=>by
  rcases cg.1 hx with hx | hx
  ·exact h.rch x hx
  ·rw [dq] at hx; subst hx; exact hr,fun x r hx=>by
  have hi:i<(pre++M).length:=(bD.1 hc).1;rw [← Bs,Bz.grow hi] at hx;rcases (Bz.step hc he).1 hx with h1 | ⟨_,rfl,_⟩
  ·exact gv _ (h.con x r h1)
  ·simp⟩
theorem WL.next (h:WL succ filt Rch pre seen M i g) (hc:(pre++M)[i]? = some c) (hg:g=(succ c).length):WL succ filt Rch pre seen M (i+1) 0 :=
 ⟨h.nd,h.see,h.rch,fun x r hx=>h.con x r (by subst hg; exact (Bz.next hc).2 hx)⟩
theorem WL.fin (h:WL succ filt Rch pre seen M i g) (hi:(pre++M).length≤i) {x r:ae} (hx:x∈pre++M) (hr:r∈succ x) (hf:filt r=true):r∈M:=by
 obtain⟨j,hj⟩:=gZ.1 hx;exact h.con x r ⟨j,hj,hf,.inl ⟨by have:=(bD.1 hj).1; omega,hr⟩⟩
end
section
variable {rd:ae→List ae} {op:ae→Bool} {k:ae}
def Eg (rd:ae→List ae) (op:ae→Bool) (x y:ae):Prop:=op x=true∧y∈rd x∧op y=true
theorem G0 (hk:op k=true) {x:ae} (h:eT (Eg rd op) k x):op x=true:=by
 cases h with
 | refl=>exact hk
 | snoc _ e=>exact e.2.2
end
def gg (k:ae):Bool:=decide (k.Kind=32)||(decide (k.Kind=7)||decide (k.Kind=14)||decide (k.Kind=17)||decide (k.Kind=18))
theorem fP (k:ae):b7 k=some (gg k):=by
 unfold b7 ov gg eC eB;have hb:∀ n:Int,((k.Kind:Int)==n)=decide (k.Kind=n):=fun n=>by rw [Bool.eq_iff_iff]; simp
 rw [hb,hb,hb,hb,hb];by_cases h32:k.Kind=32
 ·simp [h32]
 ·by_cases h7:k.Kind=7
  ·simp [h7]
  ·by_cases h14:k.Kind=14
   ·simp [h14]
   ·by_cases h17:k.Kind=17
    ·simp [h17]
    ·by_cases h18:k.Kind=18
     ·simp [h18]
     ·simp only [h32,h7,h14,h17,h18,decide_false,Bool.or_false,cond_false];cases decide ((1:Int)≤k.Kind) <;> cases decide ((k.Kind:Int)≤22) <;> rfl
def AX (r:ad) (rev:Int):Bool:=gg r.Key&&decide (r.Verified<rev) && !r.Dirty
theorem AY (r:ad) (rev:Int):AX r rev=(gg r.Key&&decide (r.Verified<rev) && !r.Dirty):=rfl
noncomputable def o4 (l:List ad) (rev:Int) (k:ae):Bool:=(aS l k).2&&AX (aS l k).1 rev
def uM (l:List ad) (k:ae):List ae:=(aS l k).1.Reads
theorem bR {l:List ad} {k:ae} (h:(aS l k).2=true):(aS l k).1∈l∧(aS l k).1.Key=k:=by
 unfold aS at *;cases hf:l.find? (fun r=>db r.Key k) with
 | none=>rw [hf] at h; cases h
 | some r =>
  have h2:=List.find?_some hf;exact⟨List.mem_of_find?_eq_some hf,dK.1 h2⟩
theorem pB {l:List ad} {k:ae} (h:(aS l k).2=false):aS l k=(LE,false)∧∀ r∈l,r.Key≠k:=by
 unfold aS at *;cases hf:l.find? (fun r=>db r.Key k) with
 | none =>
  refine⟨rfl,fun r hr e=>?_⟩;have:=vN.1 hf r hr;exact this (dK.2 e)
 | some r=>rw [hf] at h; cases h
theorem zC {l:List ad} {rev:Int} {k:ae} (h:o4 l rev k=true):k∈l.map ad.Key:=by
 unfold o4 at h;simp only [nX] at h;obtain⟨h1,h2⟩:=bR h.1;exact eS.2 ⟨_,h1,h2⟩
theorem tI {l:List ad} (hl:C9 l) (rev:Int) (k:ae):mT l rev k=some (o4 l rev k):=by
 unfold mT gn;rw [qW hl,aD];cases hf:(aS l k).2 with
 | false=>simp [o4,hf]
 | true =>
  have hk:=(bR hf).2;unfold o4;rw [hf,AY,hk,cond_true,fP,aD];cases gg k <;> cases decide (((aS l k).1.Verified:Int)<rev) <;> rfl
structure Db (l:List ad):Prop where
 asc:Bw l
 len:l.length≤1000
 rds:∀ r∈l,r.Reads.length≤1000
theorem Db.rm {l:List ad} (h:Db l):C9 l:=⟨by have:=h.len; unfold Rm; omega,fun r hr=>by have:=h.rds r hr; unfold Rm; omega⟩
theorem Db.rd {l:List ad} (h:Db l) (k:ae):(uM l k).length≤1000:=by
 unfold uM;cases hf:(aS l k).2 with
 | true=>exact h.rds _ (bR hf).1
 | false=>rw [(pB hf).1]; exact ez _
noncomputable abbrev Ek (l:List ad) (rev:Int):=Eg (uM l) (o4 l rev)
def KG (l:List ad) (rev:Int) (k:ae) (m:List ae):Prop:=BB m∧∀ x,x∈m↔eT (Ek l rev) k x∧eT (Ek l rev) x k
section
variable {l:List ad} (hl:Db l) {rev:Int} {k:ae} (hk:o4 l rev k=true)
theorem jV (hk:o4 l rev k=true) {x:ae} (h:eT (Ek l rev) k x):o4 l rev x=true:=G0 hk h
abbrev B1 (l:List ad) (rev:Int) (k:ae) (seen:List (ae×Bool)) (M:List ae) (i g:Nat):Prop:=WL (uM l) (o4 l rev) (BC (Ek l rev) k) [k] seen M i g
theorem B1.len {seen:List (ae×Bool)} {M:List ae} {i g:Nat} (h:B1 l rev k seen M i g):M.length≤l.length:=by
 have:=mK (m:=l.map ad.Key) h.nd fun x hx=>by
  obtain⟨y,_,e⟩:=h.rch x hx;exact zC e.2.2
 rwa [od] at this
include hl hk in
theorem EP {seen:List (ae×Bool)} {M:List ae} {i:Nat} {c:ae} (hc:([k]++M)[i]? = some c) (h:B1 l rev k seen M i 0) :
  Ok (loop (fun s:(List (ae×Bool))×(List ae)×Int=>eu l rev (aS l c) s.1 s.2.1 s.2.2) (seen,[k]++M,0)) fun r=>∃ M',r.2=[k]++M'∧B1 l rev k r.1 M' (i+1) 0∧i<([k]++M').length:=by
 have hcs:eT (Ek l rev) k c:=by
  cases i with
  | zero=>simp at hc; subst hc; exact .refl
  | succ i =>
   rw [qA (by simp)] at hc;exact (h.rch c (aH hc)).star
 have hcop:=jV hk hcs;have hrl:=hl.rd c;have hll:=hl.len;refine oC (B:=fun s:(List (ae×Bool))×(List ae)×Int=>eu l rev (aS l c) s.1 s.2.1 s.2.2)
  (fun g s=>s.2.2=(g:Int)∧∃ M',s.2.1=[k]++M'∧B1 l rev k s.1 M' i g∧([k]++M')[i]? = some c) _ (uM l c).length ?_ ?_ ⟨rfl,M,rfl,h,hc⟩
 ·rintro g ⟨sn,L,gi⟩ hg ⟨rfl,M',rfl,hA,hLc⟩;dsimp only at hA hLc ⊢;have hge:(uM l c)[g]? = some (uM l c)[g]:=bC hg;have hlen:=B1.len hA;have hLi:i<([k]++M').length:=(bD.1 hLc).1;refine .inl ?_;have hgu:(aS l c).1.Reads=uM l c:=rfl;unfold eu;rw [hgu,dlt hg,cond_true,bf,hge,aD];generalize (uM l c)[g]=e at hge;rw [tI hl.rm,aD];unfold jO jN;rw [cR (by omega)];cases hf:o4 l rev e with
  | false=>exact⟨_,rfl,rfl,M',rfl,hA.skip hLc hge hf,hLc⟩
  | true =>
   have hEg:Ek l rev c e:=⟨hcop,aH hge,hf⟩;rw [cond_true,hA.see e,aD];by_cases hm:e∈M'
   ·rw [decide_eq_true hm];exact⟨_,rfl,rfl,M',rfl,hA.old hLc hge hm,hLc⟩
   ·rw [decide_eq_false hm];simp only [nY,cond_true];rw [gd,ey (by simp only [vP,cW]; omega),cond_true];refine⟨_,rfl,rfl,M'++[e],by simp,hA.new hLc hge hm ⟨c,hcs,hEg⟩,?_⟩;rw [← Bs,og hLi]; exact hLc
 ·rintro⟨sn,L,gi⟩ ⟨rfl,M',rfl,hA,hLc⟩;dsimp only at hA hLc ⊢;have hend:eu l rev (aS l c) sn ([k]++M') ((uM l c).length:Int)=some (.out (sn,[k]++M')):=by
   unfold eu;rw [show (aS l c).1.Reads=uM l c from rfl,bS]; rfl
  exact⟨_,hend,M',rfl,hA.next hLc rfl,(bD.1 hLc).1⟩
include hl hk in
theorem AK:Ok (lH l rev k) fun m=>∀ x,(cB aM x m).getD false=true↔BC (Ek l rev) k x:=by
 have hll:=hl.len;have h0:B1 l rev k [] [] 0 0:=⟨List.nodup_nil,fun x=>by simp [cB],fun x hx=>by simp at hx,fun x r h=>by
  obtain⟨j,h1,h2,h3 | ⟨_,h3⟩⟩:=h
  ·omega
  ·simp at h3⟩
 have fin:∀ {sn M i},B1 l rev k sn M i 0→([k]++M).length≤i→∀ x,(cB aM x sn).getD false=true↔BC (Ek l rev) k x:=by
  intro sn M i hA hL x;rw [hA.see,decide_eq_true_iff];refine⟨hA.rch x,?_⟩;rintro⟨y,hy,e⟩;have hall:∀ z,eT (Ek l rev) k z→z∈[k]++M:=fun z hz=>by
   induction hz with
   | refl=>simp
   | snoc _ e ih=>exact ol _ (hA.fin hL ih e.2.1 e.2.2)
  exact hA.fin hL (hall y hy) e.2.1 e.2.2
 unfold lH mb;refine aJ (Q:=fun m=>∀ x,(cB aM x m).getD false=true↔BC (Ek l rev) k x) ?_ fun m hm=>aq hm;refine oC (B:=fun s:(List (ae×Bool))×(List ae)×Int=>fi l rev s.1 s.2.1 s.2.2)
  (fun i s=>s.2.2=(i:Int)∧∃ M,s.2.1=[k]++M∧B1 l rev k s.1 M i 0∧i≤([k]++M).length) _ (l.length+1) ?_ ?_ ⟨rfl,[],rfl,h0,ez _⟩
 ·rintro i ⟨sn,L,ii⟩ hi ⟨rfl,M,rfl,hA,hiL⟩;dsimp only at hA hiL ⊢;by_cases hlt:i<([k]++M).length
  ·refine .inl ?_;have hc:([k]++M)[i]? = some ([k]++M)[i]:=bC hlt;obtain⟨⟨s2,L2⟩,e2,M',rfl,h2,h3⟩:=EP hl hk hc hA;refine⟨(s2,[k]++M',((i+1:Nat):Int)),?_,rfl,M',rfl,h2,h3⟩;unfold fi jM;rw [dlt hlt,cond_true,bf,hc,aD,qW hl.rm,aD,e2,aD,cR (by omega)]
  ·refine .inr ⟨sn,?_,fin hA (by omega)⟩;unfold fi;rw [Ex hlt]; rfl
 ·rintro⟨sn,L,ii⟩ ⟨rfl,M,rfl,hA,hiL⟩;dsimp only at hA hiL ⊢;have hlen:=B1.len hA;have hlen2:([k]++M).length≤l.length+1:=by rw [cW,vP]; omega
  refine⟨sn,?_,fin hA hlen2⟩;unfold fi;rw [Ex (by omega)]; rfl
include hl hk in
theorem Fa:Ok (kP l rev k) (KG l rev k):=by
 have hll:=hl.len;unfold kP;rw [tI hl.rm,aD,hk];simp only [im,cond_false];refine aJ (AK hl hk) fun tm htm=>?_;unfold pE;refine aJ (Q:=fun out=>out.length≤1001∧∀ x,x∈out↔eT (Ek l rev) k x∧eT (Ek l rev) x k) ?_ fun out ⟨h1,h2⟩=>?_
 ·refine oC (B:=fun s:(List ae)×Int=>lG l rev k tm s.1 s.2)
   (fun i s=>s.2=(i:Int)∧s.1.length≤i+1∧∀ x,x∈s.1↔x=k∨(∃ r∈l.take i,r.Key=x)∧eT (Ek l rev) k x∧eT (Ek l rev) x k) _ l.length ?_ ?_ ⟨rfl,by simp,fun x=>by simp⟩
  ·rintro i ⟨out,ii⟩ hi ⟨rfl,hlen,hm⟩;dsimp only at hlen hm ⊢;refine .inl ?_;have hr:l[i]? = some l[i]:=bC hi;generalize l[i]=r at hr;have hkeep:¬ (r.Key≠k∧eT (Ek l rev) k r.Key∧eT (Ek l rev) r.Key k)→∀ x,x∈out↔x=k∨(∃ r∈l.take (i+1),r.Key=x)∧eT (Ek l rev) k x∧eT (Ek l rev) x k:=fun hn x=>by
    rw [hm,bM hr];constructor
    ·rintro (h | ⟨⟨r',h1,h2⟩,h3⟩)
     ·exact .inl h
     ·exact .inr ⟨⟨r',gv _ h1,h2⟩,h3⟩
    ·rintro (h | ⟨⟨r',h1,h2⟩,h3⟩)
     ·exact .inl h
     ·rcases cg.1 h1 with h1 | h1
      ·exact .inr ⟨⟨r',h1,h2⟩,h3⟩
      ·rw [dq] at h1;subst h1 h2;by_cases hx:r'.Key=k
       ·exact .inl hx
       ·exact absurd ⟨hx,h3⟩ hn
   have hadd:eT (Ek l rev) k r.Key→eT (Ek l rev) r.Key k→∀ x,x∈out++[r.Key]↔x=k∨(∃ r∈l.take (i+1),r.Key=x)∧eT (Ek l rev) k x∧eT (Ek l rev) x k:=fun ha hb x=>by
    rw [cg,hm,bM hr,dq];constructor
    ·rintro ((h | ⟨⟨r',h1,h2⟩,h3⟩) | rfl)
     ·exact .inl h
     ·exact .inr ⟨⟨r',gv _ h1,h2⟩,h3⟩
     ·exact .inr ⟨⟨r,by simp,rfl⟩,ha,hb⟩
    ·rintro (h | ⟨⟨r',h1,h2⟩,h3⟩)
     ·exact .inl (.inl h)
     ·rcases cg.1 h1 with h1 | h1
      ·exact .inl (.inr ⟨⟨r',h1,h2⟩,h3⟩)
      ·rw [dq] at h1;subst h1 h2; exact .inr rfl
   unfold lG lF nP;rw [dlt hi,cond_true,bf,hr,aD,cR (by omega)];show ∃ s',cond (!(db r.Key k)) _ _=_∧_;by_cases hx:r.Key=k
   ·rw [dK.2 hx];exact⟨_,rfl,rfl,by dsimp only; omega,hkeep fun h=>h.1 hx⟩
   ·rw [ue.2 hx];simp only [nY,cond_true,aD];cases ht:(cB aM r.Key tm).getD false with
    | false =>
     refine⟨_,rfl,rfl,by dsimp only; omega,hkeep fun h=>?_⟩;have:=(htm r.Key).2 (h.2.1.plus (fun e=>hx e.symm));rw [ht] at this; cases this
    | true =>
     have hp:=(htm r.Key).1 ht;obtain⟨m2,e2,h2⟩:=AK hl (jV hk hp.star);rw [cond_true,e2,aD];cases ht2:(cB aM k m2).getD false with
     | false =>
      refine⟨_,rfl,rfl,by dsimp only; omega,hkeep fun h=>?_⟩;have:=(h2 k).2 (h.2.2.plus hx);rw [ht2] at this; cases this
     | true =>
      have hp2:=(h2 k).1 ht2;rw [cond_true,gd,ey (by simp only [vP]; omega),cond_true];exact⟨_,rfl,rfl,by simp only [cW,vP]; omega,hadd hp.star hp2.star⟩
  ·rintro⟨out,ii⟩ ⟨rfl,hlen,hm⟩;dsimp only at hlen hm ⊢;refine⟨out,by unfold lG; rw [bS]; rfl,by omega,fun x=>(hm x).trans ?_⟩;rw [lJ];constructor
   ·rintro (rfl | ⟨_,h⟩)
    ·exact⟨.refl,.refl⟩
    ·exact h
   ·intro h;by_cases hx:x=k
    ·exact .inl hx
    ·obtain⟨r,hr,e⟩:=eS.1 (zC (jV hk h.1));exact .inr ⟨⟨r,hr,e⟩,h⟩
 ·obtain⟨m,e,hm⟩:=td (l:=out) (by unfold Rm; omega);rw [e];exact aq ⟨hm.asc,fun x=>(hm.mem x).trans (h2 x)⟩
end
theorem KG.len {l:List ad} (hl:Db l) {rev:Int} {k:ae} (hk:o4 l rev k=true) {m:List ae} (h:KG l rev k m):m.length≤1000:=by
 have hn:m.Nodup:=List.Pairwise.imp (fun {a b} h=>oq h) h.1;have:=mK (m:=l.map ad.Key) hn fun x hx=>zC (jV hk ((h.2 x).1 hx).1);rw [od] at this;exact cH this hl.len
def BK (l:List ad) (g:List ae) (m:ae):List bY:=((uM l m).filter fun x=>!(g.any fun y=>db x y)).map fun x=>⟨m,x⟩
def ci (l:List ad) (g h:List ae):List bY:=h.flatMap (BK l g)
theorem Ei {l:List ad} (hl:Db l) (g:List ae) (m:ae):(BK l g m).length≤1000:=by
 unfold BK;rw [od];exact cH (C1 _ _) (hl.rd m)
theorem pA {l:List ad} (hl:Db l) (g:List ae):∀ h:List ae,(ci l g h).length≤h.length*1000
 | []=>ez _
 | m::h=>by
  have:=pA hl g h;have:=Ei hl g m;unfold ci at *;rw [vn,cW,g9]; omega
theorem ym {l:List ad} (hl:Db l) {g:List ae} (hg:g.length≤2000):f6 l g=some (ci l g g):=by
 unfold f6 k7;refine fo (d7 (xs:=g) (fun k=>(ci l g (g.take k),(k:Int))) rfl (r:=ci l g g) (fun k m hm=>?_) ?_) rfl
 ·have hk:=aW hm;have hc:=pA hl g (g.take k);have hct:(g.take k).length≤2000:=by rw [il]; omega
  unfold iI k8;dsimp only;rw [fC hm,cond_true,bf,hm,aD,qW hl.rm,aD,cR (by omega)];have hin:loop (fun s:List bY×Int=>fK g m (aS l m) s.1 s.2) (ci l g (g.take k),0)=some (ci l g (g.take k)++BK l g m):=by
   have hrl:=hl.rd m;refine d7 (xs:=uM l m) (fun i=>(ci l g (g.take k)++(((uM l m).take i).filter fun x=>!(g.any fun y=>db x y)).map (fun x=>(⟨m,x⟩:bY)),(i:Int))) (by simp) (fun i x hx=>?_) ?_
   ·have hi:=aW hx;unfold fK iH;dsimp only;rw [show (aS l m).1.Reads=uM l m from rfl,fC hx,cond_true,bf,hx,aD,vd (by unfold Rm; omega),aD,cR (by omega),bM hx,lI,vO];have hpl:((((uM l m).take i).filter fun x=>!(g.any fun y=>db x y)).map (fun x=>(⟨m,x⟩:bY))).length≤1000:=by
     rw [od];exact cH (rB _ _ _) hrl
    cases hh:g.any fun y=>db x y with
    | true=>simp [hh]
    | false =>
     simp only [nY,cond_true];rw [gd,ey (by simp only [cW,vP]; omega),cond_true];simp [hh]
   ·unfold fK;dsimp only;rw [show (aS l m).1.Reads=uM l m from rfl,bS,lJ]; rfl
  rw [hin,aD,bM hm];unfold ci;rw [List.flatMap_append,List.flatMap_singleton]
 ·unfold iI;dsimp only;rw [bS,lJ]; rfl
end
section
open Go.RowKit
open Go.Lib hiding intOf
noncomputable def rk (l:List aI) (n:Nat):ae:=⟨if (aU l)[n]? = some true then 32 else 31,bU n⟩
section
variable {l:List aI} {n a b:Nat}
theorem uV (ha:a<65536) (hb:b<65536) (h:bU (a:Int)=bU b):a=b:=by
 have h1:=qz ha;rw [h,qz hb] at h1;omega
theorem pi (ha:a<100) (hb:b<100) (h:rk l a=rk l b):a=b:=uV (by omega) (by omega) (congrArg ae.Text h)
theorem Ff (h:n<l.length):rk l n=CN l[n] n:=by
 unfold rk CN;rw [nV h];cases l[n].Ring <;> simp
theorem xk (h:n<l.length) (hl:l.length≤100):jx l n=some (rk l n):=by rw [Ff h]; exact DK h (by omega)
theorem ny:(rk l n).Kind=31∧(aU l)[n]? ≠ some true∨(rk l n).Kind=32∧(aU l)[n]? = some true:=by
 unfold rk;by_cases h:(aU l)[n]? = some true
 ·exact .inr ⟨by simp [h],h⟩
 ·exact .inl ⟨by simp [h],h⟩
theorem AV (h:n<100):GU 99 (bU (n:Int)).toList=n:=by
 unfold GU;rw [qI,jr,An (by omega),if_pos (by omega)]
theorem vh (h:n<100):AW (rk l n)=n:=by
 unfold AW;rw [if_pos (by rcases ny (l:=l) (n:=n) with⟨h,_⟩|⟨h,_⟩ <;> rw [h] <;> decide)];exact AV h
theorem Eh (h:n<100):AW (cJ n)=n:=by
 unfold AW;rw [if_pos ⟨by show (30:Int)≤30; omega,by show (30:Int)≤32; omega⟩];exact AV h
theorem iy (k:ae):cm k=some (decide (k.Kind=1)||(decide (k.Kind=2)||decide (k.Kind=30))):=by
 unfold cm gN;by_cases h1:k.Kind=1
 ·simp [h1]
 ·by_cases h2:k.Kind=2
  ·simp [h2]
  ·by_cases h3:k.Kind=30
   ·simp [h3]
   ·have hb:∀ n:Int,k.Kind≠n→(k.Kind==n)=false:=fun n h=>by simpa using h
    rw [hb 1 h1,hb 2 h2,hb 30 h3];simp [h1,h2,h3]
theorem pj:cm (rk l n)=some false:=by
 rw [iy];rcases ny (l:=l) (n:=n) with⟨h,_⟩|⟨h,_⟩ <;> rw [h] <;> rfl
theorem mF:cm (cJ n)=some true:=by rw [iy]; rfl
theorem CK:gg (rk l n)=decide ((aU l)[n]? = some true):=by
 unfold gg;rcases ny (l:=l) (n:=n) with⟨h,k⟩|⟨h,k⟩
 ·rw [h,decide_eq_false k]; rfl
 ·rw [h,decide_eq_true k]; rfl
theorem Dh:gg (cJ n)=false:=rfl
theorem oo:cJ a≠rk l b:=fun h=>by
 have h30:(30:Int)=(rk l b).Kind:=congrArg ae.Kind h;rcases ny (l:=l) (n:=b) with⟨h,_⟩|⟨h,_⟩ <;> rw [h] at h30 <;> omega
theorem yR {k:ae} (h:30≤k.Kind∧k.Kind≤32):dH k=some (decide (0≤AW k)):=by
 unfold dH jy;rw [decide_eq_true h.1,decide_eq_true h.2,cond_true,cond_true,ph];rfl
theorem A7 (h:n<100):dH (rk l n)=some true:=by
 rw [yR (by rcases ny (l:=l) (n:=n) with⟨h,_⟩|⟨h,_⟩ <;> rw [h] <;> decide),vh h,decide_eq_true (by omega)]
theorem tq (h:n<100):dH (cJ n)=some true:=by
 rw [yR (k:=cJ n) ⟨by show (30:Int)≤30; omega,by show (30:Int)≤32; omega⟩,Eh h,decide_eq_true (by omega)]
def kB (l:List aI) (k:ae):Prop:=(∃ c,c<10∧k=cJ c)∨∃ n,n<l.length∧k=rk l n
theorem kB.valid (hl:l.length≤8) {k:ae} (h:kB l k):dH k=some true:=by
 rcases h with⟨c,hc,rfl⟩|⟨n,hn,rfl⟩
 ·exact tq (by omega)
 ·exact A7 (by omega)
theorem qN (h:n<l.length):xX (aU l) n≤l.length:=by
 unfold xX;split
 ·have:=(Ec (rs:=aU l) (n:=n) (by unfold aU; rwa [od])).2.2;unfold aU at this ⊢;rwa [od] at this
 ·omega
noncomputable def pN (x:cD) (ls:List ByteArray):Int:=if x.Pick=true∧(ls.length=0∨e7 (ls.getD (ls.length-1) ⟨#[]⟩) % 2=0) then x.Else else x.N
noncomputable def gf (l:List aI) (x:cD) (ls:List ByteArray):ae:=if x.Cell=true then cJ (pN x ls).toNat else rk l (pN x ls).toNat
theorem jk (hR:a8 l) {r:aI} (h:l[n]? = some r) {k:Nat} {x:cD} (hx:r.Asks[k]? = some x) (ls:List ByteArray) :
  0≤pN x ls∧((x.Cell=true∧∃ c,c<10∧(pN x ls)=(c:Nat)∧gf l x ls=cJ c)∨(x.Cell=false∧∃ j,j<xX (aU l) n∧(pN x ls)=(j:Nat)∧gf l x ls=rk l j)):=by
 have hA:=(hR.each n r h).each k x hx;have h0:0≤pN x ls:=by unfold pN; split; exact hA.low2; exact hA.low
 refine⟨h0,?_⟩;cases hc:x.Cell with
 | true =>
  have:pN x ls<4:=by unfold pN; split; exact hA.cell2 hc; exact hA.cell hc
  exact .inl ⟨rfl,(pN x ls).toNat,by omega,by omega,by unfold gf; rw [if_pos hc]⟩
 | false =>
  have:pN x ls<xX (aU l) n:=by unfold pN; split; exact hA.rule2 hc; exact hA.rule hc
  exact .inr ⟨rfl,(pN x ls).toNat,by omega,by omega,by unfold gf; rw [if_neg (by rw [hc]; simp)]⟩
theorem Bd (hR:a8 l) {r:aI} (h:l[n]? = some r) {ls:List ByteArray} (hn:r.Asks.length≤ls.length) :
  fb l (rk l n) ls=some ⟨true,bU (rT r (ls.take r.Asks.length)),⟨0,⟨#[]⟩⟩⟩:=by
 have hlt:=aW h;have h8:=hR.high;have h3:=(hR.each n r h).asks;have hC:0≤r.C∧r.C≤65535:=by
  have hr:=hR.each n r h;cases hg:r.Ring with
  | true=>have:=hr.ring hg; omega
  | false=>have:=hr.plain hg; omega
 obtain⟨m,hm,hm2⟩:=tw hR h (ls:=ls.take r.Asks.length) (by rw [il]; omega);unfold fb;rw [ph,aD,vh (by omega),decide_eq_false (by omega),cond_false,decide_eq_false (by omega),cond_false,xk hlt (by omega),aD];rw [show (!((rk l n).Kind==(rk l n).Kind&&(rk l n).Text.toList==(rk l n).Text.toList))=false by simp,cond_false,bf,h,aD,decide_eq_true (by omega),cond_true];rw [qt (by omega),aD,EC hC (by rw [il]; omega),aD,hm,qf (by omega),aD]
theorem Ca (hR:a8 l) {r:aI} (h:l[n]? = some r) {ls:List ByteArray} {x:cD} (hx:r.Asks[ls.length]? = some x) :
  fb l (rk l n) ls=some ⟨false,⟨#[]⟩,gf l x ls⟩:=by
 have hlt:=aW h;have hla:=aW hx;have h8:=hR.high;have h3:=(hR.each n r h).asks;have hA:=(hR.each n r h).each _ x hx;obtain⟨g0,hg⟩:=jk hR h hx ls;have hll:=qN hlt;have j1:∀ z:Int,z=pN x ls→iV l x z=some ⟨false,⟨#[]⟩,gf l x ls⟩:=by
  rintro _ rfl;unfold iV;rcases hg with⟨hc,c,h4,e1,e2⟩|⟨hc,j,h4,e1,e2⟩
  ·rw [hc,cond_true,e1,tD (by omega),aD,e2]
  ·rw [hc,cond_false,e1,xk (by omega) (by omega),aD,e2]
 unfold fb;rw [ph,aD,vh (by omega),decide_eq_false (by omega),cond_false,decide_eq_false (by omega),cond_false,xk hlt (by omega),aD];rw [show (!((rk l n).Kind==(rk l n).Kind&&(rk l n).Text.toList==(rk l n).Text.toList))=false by simp,cond_false,bf,h,aD,decide_eq_false (by omega),cond_false,bf,hx,aD];unfold iW;cases hp:x.Pick with
 | false=>exact j1 _ (by unfold pN; rw [if_neg (by rw [hp]; simp)])
 | true =>
  obtain⟨_,hk⟩:=hA.pick hp;rw [cond_true,show (((ls.length:Nat):Int)==0)=false from beq_eq_false_iff_ne.2 (by omega),cond_false];have hw:IntKind.i64.wrap ((ls.length:Int)-1)=((ls.length-1:Nat):Int):=by rw [oA (by omega) (by omega)]; omega
  have hg2:=bC (l:=ls) (i:=ls.length-1) (by omega);rw [hw,bf,hg2,aD,Bh,aD];have hv:=gr ls[ls.length-1];have hd:ls.getD (ls.length-1) ⟨#[]⟩=ls[ls.length-1]:=by rw [FQ,hg2]; rfl
  have ht:Int.tmod (e7 ls[ls.length-1]) 2=e7 ls[ls.length-1] % 2:=Int.tmod_eq_emod_of_nonneg (by omega);by_cases hz:e7 ls[ls.length-1] % 2=0
  ·rw [ht,hz];exact j1 _ (by unfold pN; rw [if_pos ⟨hp,.inr (by rw [hd]; exact hz)⟩])
  ·rw [ht,show (e7 ls[ls.length-1] % 2==0)=false by simpa using hz];exact j1 _ (by unfold pN; rw [if_neg (by rw [hd]; rintro⟨_,h | h⟩; exact absurd h (by omega); exact hz h)])
theorem FB (k:ae) (hk:k.Kind=31∨k.Kind=32) (ls:List ByteArray):dC l k ls=fb l k ls:=by
 unfold dC;rcases hk with h | h
 ·rw [h]; cases fb l k ls <;> rfl
 ·rw [h]; cases fb l k ls <;> rfl
theorem xj:(rk l n).Kind=31∨(rk l n).Kind=32:=by rcases ny (l:=l) (n:=n) with⟨h,_⟩|⟨h,_⟩; exact .inl h; exact .inr h
theorem yQ (hR:a8 l) {r:aI} (h:l[n]? = some r) {ls:List ByteArray} (hn:r.Asks.length≤ls.length) :
  dC l (rk l n) ls=some ⟨true,bU (rT r (ls.take r.Asks.length)),⟨0,⟨#[]⟩⟩⟩:=(FB _ xj _).trans (Bd hR h hn)
theorem Be (hR:a8 l) {r:aI} (h:l[n]? = some r) {ls:List ByteArray} {x:cD} (hx:r.Asks[ls.length]? = some x) :
  dC l (rk l n) ls=some ⟨false,⟨#[]⟩,gf l x ls⟩:=(FB _ xj _).trans (Ca hR h hx)
end
end
section
open Go.RowKit
open Go.Lib hiding intOf
section
variable {rs:List Bool}
theorem CE:∀ {a j:Nat},ZZ rs a≤j→j<a→rs[j]? = some true
 | 0,_,_,h=>absurd h (by omega)
 | a+1,j,h1,h2=>by
  rw [zx] at h1;split at h1
  ·rename_i h;rcases ik j a with h3 | h3
   ·exact CE h1 h3
   ·have:j=a:=by omega
    rw [this]; exact h
  ·omega
theorem EQ {a:Nat}:∀ {j:Nat},a≤j→(∀ i,a≤i→i<j→rs[i]? = some true)→ZZ rs j≤a
 | 0,h,_=>by have:=yz rs 0; omega
 | j+1,h,hr=>by
  rcases ik j a with h3 | h3
  ·have:=yz rs (j+1); omega
  ·rw [zx,if_pos (hr j h3 (by omega))];exact EQ h3 fun i h1 h2=>hr i h1 (by omega)
theorem AA:∀ {f b j:Nat},b≤j→j<Dt rs f b→rs[j]? = some true
 | 0,b,j,h1,h2=>by have:Dt rs 0 b=b:=rfl; omega
 | f+1,b,j,h1,h2=>by
  rw [AB] at h2;split at h2
  ·rename_i h;rcases Nat.eq_or_lt_of_le h1 with h3 | h3
   ·rw [← h3]; exact h
   ·exact AA h3 h2
  ·omega
def mp (rs:List Bool) (n:Nat):Nat:=(blk rs n).1
theorem qs {n:Nat} (h:rs[n]? ≠ some true):mp rs n=n:=by unfold mp blk; rw [if_neg h]
theorem uB {n:Nat} (h:rs[n]? = some true):mp rs n=ZZ rs n:=by unfold mp blk; rw [if_pos h]
theorem Fg (n:Nat):mp rs n≤n:=by
 by_cases h:rs[n]? = some true
 ·rw [uB h]; exact yz rs n
 ·rw [qs h]; omega
theorem Ae {n j:Nat} (h:rs[n]? = some true) (h1:ZZ rs n≤j) (h2:j<xX rs n):rs[j]? = some true:=by
 unfold xX at h2;rw [if_pos h] at h2;unfold blk at h2;rw [if_pos h] at h2;rcases Nat.lt_trichotomy j n with h3 | h3 | h3
 ·exact CE h1 h3
 ·rw [h3]; exact h
 ·exact AA h3 h2
theorem tK {n j:Nat} (h:rs[n]? = some true) (hj:j<xX rs n) (hp:rs[j]? ≠ some true):j<mp rs n:=by
 rw [uB h];rcases ik j (ZZ rs n) with h3 | h3
 ·exact h3
 ·exact absurd (Ae h h3 hj) hp
theorem vg {n j:Nat} (h:rs[n]? = some true) (hj:j<xX rs n) (hp:rs[j]? = some true):mp rs j≤mp rs n:=by
 rw [uB h,uB hp];rcases ik j (ZZ rs n) with h3 | h3
 ·have:=yz rs j; omega
 ·exact EQ h3 fun i h1 h2=>Ae h h1 (by omega)
theorem u5 {n j:Nat} (h:rs[n]? ≠ some true) (hj:j<xX rs n):mp rs j<mp rs n:=by
 unfold xX at hj;rw [if_neg h] at hj;rw [qs h];have:=Fg (rs:=rs) j;omega
end
def tY (p:Nat→Bool):Nat→Nat
 | 0=>0
 | k+1=>if p k then 2 ^ k+tY p k else tY p k
theorem wD (p:Nat→Bool):∀ k,tY p k<2 ^ k
 | 0=>by simp [tY]
 | k+1=>by
  have:=wD p k;have h2:2 ^ (k+1)=2 ^ k+2 ^ k:=by rw [Nat.pow_succ]; omega
  unfold tY;split <;> omega
theorem wE (p:Nat→Bool):∀ k b,(tY p k).testBit b=(decide (b<k)&&p b)
 | 0,b=>by simp [tY]
 | k+1,b=>by
  have ih:=wE p k b;have hlt:=wD p k;unfold tY;rcases Nat.lt_trichotomy b k with h | h | h
  ·rw [decide_eq_true (by omega),n9];rw [decide_eq_true h,n9] at ih;split
   ·rw [Nat.testBit_two_pow_add_gt h]; exact ih
   ·exact ih
  ·subst h;rw [decide_eq_true (by omega),n9];split
   ·rename_i hp;rw [Nat.testBit_two_pow_add_eq,zT hlt,hp]; rfl
   ·rename_i hp;rw [zT hlt];simpa using hp
  ·rw [decide_eq_false (by omega),Bool.false_and];have h2:2 ^ (k+1)=2 ^ k+2 ^ k:=by rw [Nat.pow_succ]; omega
   have h3:2 ^ (k+1)≤2 ^ b:=zS (by omega) (by omega);split <;> exact zT (by omega)
section
variable (l:List aI) (inp:ae→ByteArray)
noncomputable def kr (V:Nat→ByteArray) (x:cD) (ls:List ByteArray):ByteArray:=if x.Cell=true then inp (gf l x ls) else V (pN x ls).toNat
noncomputable def dp (V:Nat→ByteArray) (r:aI):Nat→List ByteArray
 | 0=>[]
 | k+1=>match r.Asks[k]? with
  | none=>dp V r k
  | some x=>dp V r k++[kr l inp V x (dp V r k)]
inductive RB (V:Nat→ByteArray):Nat→Nat→Prop
 | own {n b:Nat} {r:aI}:l[n]? = some r→r.C.toNat.testBit b=true→RB V n b
 | ask {n b:Nat} {r:aI} {x:cD}:l[n]? = some r→x∈r.Asks→(x.Cell=true∨(aU l)[x.N.toNat]? ≠ some true)→(e7 (kr l inp V x [])).toNat.testBit b=true→RB V n b
 | ring {n b:Nat} {r:aI} {x:cD}:l[n]? = some r→x∈r.Asks→x.Cell=false→(aU l)[x.N.toNat]? = some true→RB V x.N.toNat b→RB V n b
open Classical in
noncomputable def DY (V:Nat→ByteArray) (n:Nat):ByteArray:=match l[n]? with
 | none=>⟨#[]⟩
 | some r=>if r.Ring=true then bU (tY (fun b=>decide (RB l inp V n b)) 16:Nat) else bU (rT r (dp l inp V r r.Asks.length))
noncomputable def Wd:Nat→Nat→ByteArray
 | 0=>fun _=>⟨#[]⟩
 | k+1=>fun n=>if mp (aU l) n<k then Wd k n else DY l inp (Wd k) n
noncomputable def Vd (n:Nat):ByteArray:=Wd l inp (mp (aU l) n+1) n
theorem Hf:∀ {k n:Nat},mp (aU l) n<k→Wd l inp k n=Vd l inp n
 | 0,n,h=>absurd h (by omega)
 | k+1,n,h=>by
  rcases ik (mp (aU l) n) k with h1 | h1
  ·show (if mp (aU l) n<k then Wd l inp k n else _)=_;rw [if_pos h1];exact Hf h1
  ·obtain rfl:k=mp (aU l) n:=by omega
   rfl
variable {l inp}
theorem qp (hR:a8 l) {n:Nat} {r:aI} (h:l[n]? = some r) (hr:r.Ring=true) {k:Nat} {x:cD} (hx:r.Asks[k]? = some x) (ls:List ByteArray):pN x ls=x.N:=by
 have:=(hR.each n r h).each k x hx;unfold pN;rw [if_neg];rintro⟨hp,_⟩;have:=(this.pick hp).1;rw [hr] at this; cases this
theorem fm {n:Nat} {r:aI} (h:l[n]? = some r):(aU l)[n]? = some r.Ring:=by
 have:=aW h;rw [nV this];rw [bC this] at h;rw [bO h]
theorem wz {V V':Nat→ByteArray} (hR:a8 l) {n:Nat} {r:aI} (h:l[n]? = some r) (hr:r.Ring=false) (hV:∀ j,mp (aU l) j<mp (aU l) n→V j=V' j):∀ k,dp l inp V r k=dp l inp V' r k
 | 0=>rfl
 | k+1=>by
  have ih:=wz hR h hr hV k;unfold dp;cases hx:r.Asks[k]? with
  | none=>exact ih
  | some x =>
   dsimp only;rw [ih];congr 2;unfold kr;obtain⟨_,⟨hc,_⟩|⟨hc,j,hj,e1,_⟩⟩:=jk hR h hx (dp l inp V' r k)
   ·rw [if_pos hc,if_pos hc]
   ·rw [if_neg (by rw [hc]; simp),if_neg (by rw [hc]; simp),e1];exact hV _ (u5 (by rw [fm h,hr]; simp) hj)
theorem z7 {V V':Nat→ByteArray} (hR:a8 l) {n0:Nat} (hV:∀ j,mp (aU l) j<mp (aU l) n0→V j=V' j) {n b:Nat} (h:RB l inp V n b):(aU l)[n]? = some true→mp (aU l) n≤mp (aU l) n0→RB l inp V' n b:=by
 induction h with
 | own h1 h2=>exact fun _ _=>.own h1 h2
 | @ask n b r x h1 h2 h3 h4 =>
  intro hr hn;obtain⟨k,hk⟩:=gZ.1 h2;have hrr:r.Ring=true:=by rw [fm h1] at hr; exact bO hr
  have e:=qp hR h1 hrr hk [];refine .ask h1 h2 h3 ?_;rw [← h4];congr 3;unfold kr;obtain⟨_,⟨hc,_⟩|⟨hc,j,hj,e1,_⟩⟩:=jk hR h1 hk []
  ·rw [if_pos hc,if_pos hc]
  ·rw [if_neg (by rw [hc]; simp),if_neg (by rw [hc]; simp),e1];have e2:x.N.toNat=j:=by omega
   rw [hc,e2] at h3;have hp:(aU l)[j]? ≠ some true:=by rcases h3 with h3 | h3; cases h3; exact h3
   have:=tK hr hj hp;exact (hV _ (by rw [show ((j:Nat):Int).toNat=j by omega,qs hp]; omega)).symm
 | @ring n b r x h1 h2 h3 h4 h5 ih =>
  intro hr hn;obtain⟨k,hk⟩:=gZ.1 h2;have hrr:r.Ring=true:=by rw [fm h1] at hr; exact bO hr
  have e:=qp hR h1 hrr hk [];refine .ring h1 h2 h3 h4 (ih h4 ?_);obtain⟨_,⟨hc,_⟩|⟨hc,j,hj,e1,_⟩⟩:=jk hR h1 hk []
  ·rw [h3] at hc; cases hc
  ·have e2:x.N.toNat=j:=by omega
   rw [e2] at h4 ⊢;have:=vg hr hj h4;omega
theorem Ch (hR:a8 l) {n:Nat} (hn:n<l.length):Vd l inp n=DY l inp (Vd l inp) n:=by
 have hg:=bC hn;have e:Vd l inp n=DY l inp (Wd l inp (mp (aU l) n)) n:=by
  show (if mp (aU l) n<mp (aU l) n then _ else _)=_;rw [if_neg (by omega)]
 rw [e];have hV:∀ j,mp (aU l) j<mp (aU l) n→Wd l inp (mp (aU l) n) j=Vd l inp j:=fun j hj=>Hf l inp hj;unfold DY;rw [hg];dsimp only;cases hr:l[n].Ring with
 | false=>rw [if_neg (by simp),if_neg (by simp),wz hR hg hr hV]
 | true =>
  rw [if_pos rfl,if_pos rfl];have hr2:(aU l)[n]? = some true:=by rw [fm hg,hr]
  have:∀ b,RB l inp (Wd l inp (mp (aU l) n)) n b↔RB l inp (Vd l inp) n b:=fun b =>
   ⟨fun h=>z7 hR hV h hr2 (cM _),fun h=>z7 hR (fun j hj=>(hV j hj).symm) h hr2 (cM _)⟩
  congr 3;funext b;rw [decide_eq_decide];exact this b
end
structure y0 (l:List aI) (inp:ae→ByteArray) (V:Nat→ByteArray):Prop where
 plain:∀ n r,l[n]? = some r→r.Ring=false→V n=bU (rT r (dp l inp V r r.Asks.length))
 ring:∀ n r,l[n]? = some r→r.Ring=true→∃ u:Nat,V n=bU u∧u<65536∧∀ b,u.testBit b=true↔RB l inp V n b
theorem xp {u b:Nat} (h:u<65536) (ht:u.testBit b=true):b<16:=by
 rcases ik b 16 with h1 | h1
 ·exact h1
 ·have:2 ^ 16≤2 ^ b:=zS (by omega) h1;rw [zT (by have:2 ^ 16=65536:=rfl; omega)] at ht;cases ht
theorem Ji {l:List aI} {inp:ae→ByteArray} {V:Nat→ByteArray} (hR:a8 l) {n b:Nat} (h:RB l inp V n b):b<16:=by
 induction h with
 | own h1 h2 =>
  rename_i n b r;have hr:=hR.each _ _ h1;refine xp ?_ h2;cases hg:r.Ring with
  | true=>have:=hr.ring hg; omega
  | false=>have:=hr.plain hg; omega
 | ask h1 h2 h3 h4 =>
  refine xp ?_ h4;rename_i x;have:=gr (kr l inp V x []);omega
 | ring _ _ _ _ _ ih=>exact ih
theorem rQ {l:List aI} (inp:ae→ByteArray) (hR:a8 l):y0 l inp (Vd l inp):=by
 refine⟨fun n r h hr=>?_,fun n r h hr=>?_⟩
 ·rw [Ch hR (aW h)];unfold DY;rw [h];dsimp only;rw [if_neg (by rw [hr]; simp)]
 ·classical
  rw [Ch hR (aW h)];unfold DY;rw [h];dsimp only;rw [if_pos hr];refine⟨_,rfl,wD _ 16,fun b=>?_⟩;rw [wE,nX,decide_eq_true_eq,decide_eq_true_eq];exact⟨fun h=>h.2,fun h=>⟨Ji hR h,h⟩⟩
end
section
open Go.RowKit
open Go.Lib hiding intOf
theorem EK {a b:ae} (h:a≠b):aM a b=false:=by rw [← Bool.not_eq_true]; exact fun e=>h ((m8 a b).1 e)
theorem AH (a:ae):aM a a=true:=(m8 a a).2 rfl
theorem eP {ν:Type} (k:ae) (v:ν) (m:List (ae×ν)):cB aM k (de aM k v m)=some v:=by rw [uh m8,AH]; rfl
theorem jt {ν:Type} {k k':ae} (h:k≠k') (v:ν) (m:List (ae×ν)):cB aM k (de aM k' v m)=cB aM k m:=by rw [uh m8,EK h]; rfl
def pq (b:ai) (k:ae):aT:=match b.Inputs.find? (fun x=>db x.Key k) with | some x=>x | none=>⟨k,⟨#[]⟩,0⟩
theorem yI {b:ai} (hb:Rm b.Inputs.length) (k:ae):mS b k=some (pq b k):=by
 unfold Rm at hb;have key:loop (fun s:Int=>eR b k s) 0=some (match b.Inputs.find? (fun x=>db x.Key k) with | some x=>Fl.out x | none=>Fl.go ()):=by
  rcases lj (xs:=b.Inputs) (B:=fun s:Int=>eR b k s) (fun x=>db x.Key k) (fun i=>(i:Int)) (s0:=0) rfl (y:=fun _ x=>Fl.out x) (n:=Fl.go ()) (fun i x hx hp=>by
   unfold eR;rw [fC hx,cond_true,bf,hx,aD,cR (by have:=aW hx; omega)];show cond (db x.Key k) _ _=_;rw [hp]; rfl) (fun i x hx hp=>by
   unfold eR;rw [fC hx,cond_true,bf,hx,aD];show cond (db x.Key k) _ _=_;rw [hp]; rfl) (by unfold eR; rw [bS]; rfl) with⟨i,x,h1,h2,h3,h4⟩|⟨h1,h2⟩
  ·rw [h4,zn (p:=fun x=>db x.Key k) h1 h2 h3]
  ·rw [h2,vN.2 fun x hx=>by rw [h1 x hx]; simp]
 unfold mS;rw [key];unfold pq;cases b.Inputs.find? (fun x=>db x.Key k) <;> rfl
theorem Cw {b:ai} (hb:Rm b.Inputs.length) (k:ae):mR b k=some (pq b k).Value:=by
 unfold mR;rw [yI hb]; rfl
theorem zu:bU ((0:Nat):Int)=⟨#[48]⟩:=by
 unfold bU;rw [jr];unfold decDigits;simp
def ix (m m':List (ae×ByteArray)):Prop:=∀ k v,cB aM k m=some v→cB aM k m'=some v
theorem ix.refl (m:List (ae×ByteArray)):ix m m:=fun _ _ h=>h
theorem ix.trans {a b c:List (ae×ByteArray)} (h:ix a b) (k:ix b c):ix a c:=fun x v e=>k x v (h x v e)
theorem ix.has {a b:List (ae×ByteArray)} (h:ix a b) {k:ae} (e:cB aM k a≠none):cB aM k b≠none:=by
 cases hk:cB aM k a with
 | none=>exact absurd hk e
 | some v=>rw [h k v hk]; simp
structure py (l:List aI) (V:Nat→ByteArray) (b:ai) (s:ao):Prop where
 rules:s.Rules=l
 base:s.Base=b
 memo:∀ n,n<l.length→∀ v,cB aM (rk l n) s.Memo=some v→v=V n
 cell:∀ c,cB aM (cJ c) s.Memo=none
section
variable {l:List aI} {V:Nat→ByteArray} {b:ai} {inp:ae→ByteArray}
theorem py.put {s:ao} (h:py l V b s) {n:Nat} (hn:n<l.length) (hl:l.length≤8):py l V b ⟨s.Rules,s.Base,de aM (rk l n) (V n) s.Memo,s.Seen⟩∧ix s.Memo (de aM (rk l n) (V n) s.Memo):=by
 refine⟨⟨h.rules,h.base,fun m hm v e=>?_,fun c=>?_⟩,fun k v e=>?_⟩
 ·by_cases hk:m=n
  ·subst hk;rw [eP] at e;exact (bO e).symm
  ·rw [jt (fun e=>hk (pi (by omega) (by omega) e))] at e;exact h.memo m hm v e
 ·rw [jt oo];exact h.cell c
 ·by_cases hk:k=rk l n
  ·subst hk;rw [eP,h.memo n hn v e]
  ·rw [jt hk,e]
def D6 (l:List aI) (x:cD):Prop:=x.Cell=true∨(aU l)[x.N.toNat]? ≠ some true
def sV (l:List aI) (V:Nat→ByteArray) (inp:ae→ByteArray) (memo0 memo:List (ae×ByteArray)) (idx:List Nat) (a:Nat→Nat) (x:cD) (v:ByteArray):Prop :=
 (D6 l x∧v=kr l inp V x [])∨(¬ D6 l x∧((cB aM (rk l x.N.toNat) memo≠none∧v=V x.N.toNat)∨(x.N.toNat∈idx∧v=bU (a x.N.toNat:Nat)∧cB aM (rk l x.N.toNat) memo0=none)))
theorem sV.mono {memo0 memo memo':List (ae×ByteArray)} {idx idx':List Nat} {a:Nat→Nat} {x:cD} {v:ByteArray} (h:sV l V inp memo0 memo idx a x v) (hg:ix memo memo') (hi:∀ i∈idx,i∈idx'):sV l V inp memo0 memo' idx' a x v:=by
 rcases h with h | ⟨h0,⟨h1,h2⟩|⟨h1,h2,h3⟩⟩
 ·exact .inl h
 ·exact .inr ⟨h0,.inl ⟨hg.has h1,h2⟩⟩
 ·exact .inr ⟨h0,.inr ⟨hi _ h1,h2,h3⟩⟩
def Vw (l:List aI) (V:Nat→ByteArray) (inp:ae→ByteArray) (memo:List (ae×ByteArray)) (a:Nat→Nat) (x:cD) (q:Nat):Prop :=
 (D6 l x∧(e7 (kr l inp V x [])).toNat.testBit q=true)∨(¬ D6 l x∧((cB aM (rk l x.N.toNat) memo≠none∧RB l inp V x.N.toNat q)∨(a x.N.toNat).testBit q=true))
def Fb (l:List aI) (V:Nat→ByteArray) (inp:ae→ByteArray) (memo:List (ae×ByteArray)) (a:Nat→Nat) (i q:Nat):Prop:=∃ r,l[i]? = some r∧(r.C.toNat.testBit q=true∨∃ x∈r.Asks,Vw l V inp memo a x q)
theorem Fb.mono {memo memo':List (ae×ByteArray)} {a a':Nat→Nat} {i q:Nat} (h:Fb l V inp memo a i q) (hg:ix memo memo') (ha:∀ j q,(a j).testBit q=true→(a' j).testBit q=true):Fb l V inp memo' a' i q:=by
 obtain⟨r,h1,h2 | ⟨x,h2,h3⟩⟩:=h
 ·exact⟨r,h1,.inl h2⟩
 ·refine⟨r,h1,.inr ⟨x,h2,?_⟩⟩;rcases h3 with h3 | ⟨h0,⟨h3,h4⟩ | h3⟩
  ·exact .inl h3
  ·exact .inr ⟨h0,.inl ⟨hg.has h3,h4⟩⟩
  ·exact .inr ⟨h0,.inr (ha _ _ h3)⟩
structure vS (l:List aI) (V:Nat→ByteArray) (inp:ae→ByteArray) (n0:Nat) (memo:List (ae×ByteArray)) (m:List (ae×ByteArray)) (list:List ae) (idx:List Nat) (a:Nat→Nat):Prop where
 eq:list=idx.map (rk l)
 nd:idx.Nodup
 ring:∀ i∈idx,i<l.length∧(aU l)[i]? = some true∧mp (aU l) i≤mp (aU l) n0
 head:n0∈idx
 get:∀ i,i<l.length→cB aM (rk l i) m=if i∈idx then some (bU (a i:Nat)) else none
 zero:∀ i,i ∉ idx→a i=0
 lt:∀ i,a i<65536
 le:∀ i q,(a i).testBit q=true→RB l inp V i q
 up:∀ i∈idx,∀ q,(a i).testBit q=true→Fb l V inp memo a i q
theorem EW {idx:List Nat} (hn:idx.Nodup) {N:Nat} (h:∀ i∈idx,i<N):idx.length≤N:=by
 have:=mK hn (m:=List.range N) fun x hx=>vo.2 (h x hx);rwa [List.length_range] at this
theorem vS.len {n0:Nat} {memo m:List (ae×ByteArray)} {list:List ae} {idx:List Nat} {a:Nat→Nat} (h:vS l V inp n0 memo m list idx a):list.length=idx.length∧idx.length≤l.length :=
 ⟨by rw [h.eq,od],EW h.nd fun i hi=>(h.ring i hi).1⟩
theorem vS.grow {n0:Nat} {memo memo' m:List (ae×ByteArray)} {list:List ae} {idx:List Nat} {a:Nat→Nat} (h:vS l V inp n0 memo m list idx a) (hg:ix memo memo'):vS l V inp n0 memo' m list idx a :=
 ⟨h.eq,h.nd,h.ring,h.head,h.get,h.zero,h.lt,h.le,fun i hi q hq=>(h.up i hi q hq).mono hg fun _ _ e=>e⟩
theorem vS.add {n0:Nat} {memo m:List (ae×ByteArray)} {list:List ae} {idx:List Nat} {a:Nat→Nat} (h:vS l V inp n0 memo m list idx a) (hl:l.length≤8) {j:Nat} (hj:j<l.length) (hr:(aU l)[j]? = some true) (hk:mp (aU l) j≤mp (aU l) n0) (hn:j ∉ idx) :
  vS l V inp n0 memo (de aM (rk l j) ⟨#[48]⟩ m) (list++[rk l j]) (idx++[j]) a:=by
 refine⟨by rw [h.eq,vO]; rfl,?_,?_,gv _ h.head,?_,fun i hi=>h.zero i fun e=>hi (gv _ e),h.lt,h.le,?_⟩
 ·rw [List.nodup_append];exact⟨h.nd,by simp,fun x hx y hy=>by rw [dq.1 hy]; exact fun e=>hn (e▸hx)⟩
 ·intro i hi;rcases cg.1 hi with hi | hi
  ·exact h.ring i hi
  ·rw [dq.1 hi]; exact⟨hj,hr,hk⟩
 ·intro i hi;by_cases e:i=j
  ·subst e;rw [eP,if_pos (ol _ (dq.2 rfl)),h.zero i hn,zu]
  ·rw [jt (fun e2=>e (pi (by omega) (by omega) e2)),h.get i hi];have:(i∈idx++[j])↔i∈idx:=by rw [cg,dq]; exact⟨fun h=>h.resolve_right e,.inl⟩
   simp only [this]
 ·intro i hi q hq;rcases cg.1 hi with hi | hi
  ·exact h.up i hi q hq
  ·rw [dq.1 hi,h.zero j hn] at hq;simp at hq
end
end
section
open Go.RowKit
open Go.Lib hiding intOf
theorem Ax:∀ (xs:List Nat) (c q:Nat),(xs.foldl (· ||| ·) c).testBit q=true↔c.testBit q=true∨∃ x∈xs,x.testBit q=true
 | [],c,q=>by simp
 | x::xs,c,q=>by
  rw [CW,Ax xs (c ||| x) q,Nat.testBit_or,tf];simp only [dQ];constructor
  ·rintro ((h | h) | ⟨y,h1,h2⟩)
   ·exact .inl h
   ·exact .inr ⟨x,.inl rfl,h⟩
   ·exact .inr ⟨y,.inr h1,h2⟩
  ·rintro (h | ⟨y,rfl | h1,h2⟩)
   ·exact .inl (.inl h)
   ·exact .inl (.inr h2)
   ·exact .inr ⟨y,h1,h2⟩
section
variable {l:List aI} {V:Nat→ByteArray} {b:ai} {inp:ae→ByteArray}
theorem Av (hR:a8 l) {n:Nat} {r:aI} (h:l[n]? = some r) (hr:r.Ring=true) (ls:List ByteArray) :
  ∃ m:Nat,rT r ls=m∧m<65536∧∀ q,m.testBit q=true↔r.C.toNat.testBit q=true∨∃ v∈ls,(e7 v).toNat.testBit q=true:=by
 obtain⟨h1,h2,h3⟩:=(hR.each n r h).ring hr;obtain⟨c,hc⟩:∃ c:Nat,r.C=c:=⟨r.C.toNat,by omega⟩;have e:ls.map e7=(ls.map fun s=>(e7 s).toNat).map fun x:Nat=>(x:Int):=by
  rw [List.map_map];refine List.map_congr_left fun s _=>?_;have:=gr s;simp only [Function.comp];omega
 have:=zq (ls.map fun s=>(e7 s).toNat) c (fun x hx=>by
  obtain⟨s,_,rfl⟩:=eS.1 hx;have:=gr s;omega) (by omega)
 refine⟨(ls.map fun s=>(e7 s).toNat).foldl (· ||| ·) c,?_,this.2,fun q=>?_⟩
 ·unfold rT;dsimp only;rw [if_neg (by omega),if_neg (by omega),if_neg (by omega),if_neg (by omega),e,hc];exact this.1
 ·rw [Ax,hc];rw [show ((c:Nat):Int).toNat=c from oe c];refine or_congr Iff.rfl ⟨fun ⟨x,hx,hq⟩=>?_,fun ⟨v,hv,hq⟩=>⟨_,eS.2 ⟨v,hv,rfl⟩,hq⟩⟩;obtain⟨v,hv,rfl⟩:=eS.1 hx;exact⟨v,hv,hq⟩
def Jd (l:List aI) (V:Nat→ByteArray) (b:ai) (inp:ae→ByteArray) (n0:Nat) (a:Nat→Nat) (i:Nat) (r:aI) (memo0:List (ae×ByteArray)) (idx0:List Nat) (ch0:Bool) (k:Nat) :
  (List (ae×ByteArray))×(List ae)×Bool×(List ByteArray)×(List aI)×Int×(List aT)×(List ad)×(List (ae×ByteArray))×(List (ae×(List ae)))×Bool×ByteArray×Int×ByteArray→Prop
 | (m,list,ch,ws,rules,rev,inps,recs,memo,seen,d,v,ak,at_) =>
  ∃ (idx:List Nat),vS l V inp n0 memo m list idx a∧py l V b (ao.mk rules (ai.mk rev inps recs) memo seen)∧ix memo0 memo∧idx0 <+: idx∧((ch=ch0∧idx=idx0)∨(ch=true∧idx0.length<idx.length)) ∧
   ws.length=k∧(∀ q x,q<k→r.Asks[q]? = some x→∃ v,ws[q]? = some v∧sV l V inp memo0 memo idx a x v)∧dC l (rk l i) ws=some ⟨d,v,⟨ak,at_⟩⟩
def D7 (l:List aI) (V:Nat→ByteArray) (b:ai) (inp:ae→ByteArray) (n0:Nat) (a:Nat→Nat) (i:Nat) (r:aI) (memo0:List (ae×ByteArray)) (idx0:List Nat) (ch0:Bool) :
  (List (ae×ByteArray))×(List ae)×Bool×(List aI)×Int×(List aT)×(List ad)×(List (ae×ByteArray))×(List (ae×(List ae)))×Bool×ByteArray×Int×ByteArray→Prop
 | (m,list,ch,rules,rev,inps,recs,memo,seen,d,v,ak,at_) =>
  ∃ (idx:List Nat) (ws:List ByteArray),vS l V inp n0 memo m list idx a∧py l V b (ao.mk rules (ai.mk rev inps recs) memo seen)∧ix memo0 memo∧idx0 <+: idx∧((ch=ch0∧idx=idx0)∨(ch=true∧idx0.length<idx.length)) ∧
   ws.length=r.Asks.length∧(∀ (q:Nat) (x:cD),r.Asks[q]? = some x→∃ (w:ByteArray),ws[q]? = some w∧sV l V inp memo0 memo idx a x w)∧v=bU (rT r ws)
section
variable {n0:Nat} {a:Nat→Nat} {i p:Nat} {r:aI} {memo0:List (ae×ByteArray)} {idx0:List Nat} {ch0:Bool} (hR:a8 l) (hi:l[i]? = some r) (hr:r.Ring=true) (hp:idx0[p]? = some i)
include hR hi
theorem qw {ws:List ByteArray} (h:ws.length≤r.Asks.length):∃ t,dC l (rk l i) ws=some t∧((ws.length=r.Asks.length∧t=⟨true,bU (rT r ws),⟨0,⟨#[]⟩⟩⟩)∨∃ x,r.Asks[ws.length]? = some x∧t=⟨false,⟨#[]⟩,gf l x ws⟩):=by
 rcases ik ws.length r.Asks.length with h1 | h1
 ·exact⟨_,Be hR hi (bC h1),.inr ⟨_,bC h1,rfl⟩⟩
 ·exact⟨_,yQ hR hi h1,.inl ⟨by omega,by rw [Bq (by omega)]⟩⟩
include hp
theorem J3 {k:Nat} {m:List (ae×ByteArray)} {list:List ae} {ch:Bool} {ws:List ByteArray} {rules:List aI} {rev:Int} {inps:List aT} {recs:List ad} {memo:List (ae×ByteArray)} {seen:List (ae×(List ae))} {idx:List Nat} {x:cD} {v:ByteArray}
  (h1:vS l V inp n0 memo m list idx a) (h2:py l V b (ao.mk rules (ai.mk rev inps recs) memo seen)) (h3:ix memo0 memo) (h4:idx0 <+: idx) (h5:(ch=ch0∧idx=idx0)∨(ch=true∧idx0.length<idx.length))
  (h6:ws.length=k) (h7:∀ q x,q<k→r.Asks[q]? = some x→∃ v,ws[q]? = some v∧sV l V inp memo0 memo idx a x v) (hx:r.Asks[k]? = some x) (hv:sV l V inp memo0 memo idx a x v) :
  Ok (cn p ws m list ch v rules rev inps recs memo seen) fun y=>match y with
   | .go s'=>k<r.Asks.length∧Jd l V b inp n0 a i r memo0 idx0 ch0 (k+1) s'
   | .out y=>D7 l V b inp n0 a i r memo0 idx0 ch0 y:=by
 have hk:=aW hx;have h3l:=(hR.each i r hi).asks;obtain⟨t,ht,_⟩:=qw hR hi (ws:=ws++[v]) (by rw [cW,h6]; simp; omega);have hlist:bk list (p:Int)=some (rk l i):=by
  obtain⟨u,rfl⟩:=h4;rw [bf,h1.eq,rH,og (aW hp),hp]; rfl
 have hru:rules=l:=h2.rules;unfold cn;refine eK (ey (by simp; omega)) (aN hlist (aN (by rw [hru]; exact ht) (aq ⟨hk,idx,h1,h2,h3,h4,h5,by rw [cW,h6]; rfl,fun q y hq hy=>?_,ht⟩)));rcases ik q k with h | h
 ·obtain⟨w,hw1,hw2⟩:=h7 q y h hy;exact⟨w,by rw [og (aW hw1)]; exact hw1,hw2⟩
 ·obtain rfl:q=k:=by omega
  rw [hx] at hy;obtain rfl:=bO hy;exact⟨v,by rw [qA (by omega),h6]; simp,hv⟩
end
end
end
section
open Go.RowKit
open Go.Lib hiding intOf
structure HV (l:List aI) (V:Nat→ByteArray) (b:ai) (inp:ae→ByteArray) (ρ:Nat) (vrec:ao→ae→Option (ByteArray×ao)):Prop where
 rule:∀ s n,py l V b s→n<l.length→mp (aU l) n<ρ→Ok (vrec s (rk l n)) fun y=>y.1=V n∧py l V b y.2∧ix s.Memo y.2.Memo
 cell:∀ s c,py l V b s→c<10→Ok (vrec s (cJ c)) fun y=>y.1=inp (cJ c)∧y.2=s
section
variable {l:List aI} {V:Nat→ByteArray} {b:ai} {inp:ae→ByteArray} {vrec:ao→ae→Option (ByteArray×ao)}
variable {n0:Nat} {a:Nat→Nat} {i p:Nat} {r:aI} {memo0:List (ae×ByteArray)} {idx0:List Nat} {ch0:Bool} (hR:a8 l) (hv:HV l V b inp (mp (aU l) n0) vrec) (hi:l[i]? = some r) (hr:r.Ring=true) (hp:idx0[p]? = some i)
include hR hv hi hr hp
theorem J5 {k:Nat} (hk:k≤r.Asks.length):∀ s,Jd l V b inp n0 a i r memo0 idx0 ch0 k s→Ok (cZ vrec p s.1 s.2.1 s.2.2.1 s.2.2.2.1 s.2.2.2.2.1 s.2.2.2.2.2.1 s.2.2.2.2.2.2.1 s.2.2.2.2.2.2.2.1 s.2.2.2.2.2.2.2.2.1 s.2.2.2.2.2.2.2.2.2.1 s.2.2.2.2.2.2.2.2.2.2.1 s.2.2.2.2.2.2.2.2.2.2.2.1 s.2.2.2.2.2.2.2.2.2.2.2.2.1 s.2.2.2.2.2.2.2.2.2.2.2.2.2) fun y=>match y with
   | .go s'=>k<r.Asks.length∧Jd l V b inp n0 a i r memo0 idx0 ch0 (k+1) s'
   | .out y=>D7 l V b inp n0 a i r memo0 idx0 ch0 y:=by
 rintro⟨m,list,ch,ws,rules,rev,inps,recs,memo,seen,d,v,ak,at_⟩ ⟨idx,h1,h2,h3,h4,h5,h6,h7,h8⟩;dsimp only;have hl8:=hR.high;obtain⟨t,ht,hcase⟩:=qw hR hi (ws:=ws) (by omega);rw [h8] at ht;obtain rfl:=bO ht;have hiI:i∈idx:=h4.subset (aH hp);unfold cZ;rcases hcase with⟨e1,e2⟩|⟨x,hx,e2⟩
 ·injection e2 with ed ev ea;subst ed;simp only [im,cond_false];exact aq ⟨idx,ws,h1,h2,h3,h4,h5,e1,fun q x hx=>h7 q x (by have:=aW hx; omega) hx,ev⟩
 ·injection e2 with ed ev ea;subst ed;rw [h6] at hx;have n1:=qp hR hi hr hx ws;have n2:=qp hR hi hr hx [];obtain⟨g0,hg⟩:=jk hR hi hx ws;simp only [nY,cond_true,aD];rw [ea];have done:∀ {m list ch rules rev inps recs memo seen} {idx:List Nat} {w:ByteArray},vS l V inp n0 memo m list idx a→py l V b (ao.mk rules (ai.mk rev inps recs) memo seen)→ix memo0 memo→idx0 <+: idx→((ch=ch0∧idx=idx0)∨(ch=true∧idx0.length<idx.length)) →
    (∀ q x,q<k→r.Asks[q]? = some x→∃ v,ws[q]? = some v∧sV l V inp memo0 memo idx a x v)→sV l V inp memo0 memo idx a x w→Ok (cn p ws m list ch w rules rev inps recs memo seen) fun y=>match y with
   | .go s'=>k<r.Asks.length∧Jd l V b inp n0 a i r memo0 idx0 ch0 (k+1) s'
   | .out y=>D7 l V b inp n0 a i r memo0 idx0 ch0 y:=fun q1 q2 q3 q4 q5 q6 q7=>J3 hR hi hp q1 q2 q3 q4 q5 h6 q6 hx q7
  rcases hg with⟨hc,c,hc4,e3,e4⟩|⟨hc,j,hj,e3,e4⟩
  ·have hB:D6 l x:=.inl hc;have hA:kr l inp V x []=inp (cJ c):=by
    unfold kr gf;rw [if_pos hc,if_pos hc,n2,← n1,e3]; rfl
   rw [e4,h2.cell c];simp only [Option.isSome_none,cond_false];refine aN (fP _) ?_;rw [Dh];simp only [nY,cond_true];refine aJ (hv.cell _ c h2 hc4) fun y hy=>?_;obtain⟨y1,y2⟩:=y;obtain⟨f1,f2⟩:=hy;simp only at f1 f2;subst f1 f2;exact done h1 h2 h3 h4 h5 h7 (.inl ⟨hB,hA.symm⟩)
  ·have hll:=qN (aW hi);have hjl:j<l.length:=by omega
   have hxj:x.N.toNat=j:=by omega
   have hri:(aU l)[i]? = some true:=by rw [fm hi,hr]
   have hio:=h1.ring i hiI;rw [e4];cases hm:cB aM (rk l j) memo with
   | some w =>
    have hw:=h2.memo j hjl w hm;simp only [Option.isSome_some,cond_true,vm];refine done h1 h2 h3 h4 h5 h7 ?_;by_cases hB:D6 l x
    ·refine .inl ⟨hB,?_⟩;unfold kr;rw [if_neg (by rw [hc]; simp),n2,hxj,hw]
    ·exact .inr ⟨hB,.inl ⟨by rw [hxj,hm]; simp,by rw [hxj,hw]⟩⟩
   | none =>
    simp only [Option.isSome_none,cond_false];refine aN (fP _) ?_;rw [CK];by_cases hrj:(aU l)[j]? = some true
    ·have hB:¬ D6 l x:=by
      rintro (h | h)
      ·rw [hc] at h; cases h
      ·rw [hxj] at h; exact h hrj
     have hm0:cB aM (rk l x.N.toNat) memo0=none:=by
      rw [hxj];cases h0:cB aM (rk l j) memo0 with
      | none=>rfl
      | some w=>rw [h3 _ _ h0] at hm; cases hm
     rw [decide_eq_true hrj];simp only [im,cond_false];have hg:=h1.get j hjl;by_cases hjI:j∈idx
     ·rw [if_pos hjI] at hg;rw [hg];simp only [Option.isSome_some,im,cond_false];unfold cY;rw [ea,e4,hg];exact done h1 h2 h3 h4 h5 h7 (.inr ⟨hB,.inr ⟨by rw [hxj]; exact hjI,by rw [hxj]; rfl,hm0⟩⟩)
     ·rw [if_neg hjI] at hg;rw [hg];simp only [Option.isSome_none,nY,cond_true];have hL:ie (rk l j)=some ⟨#[48]⟩:=by
       unfold ie;rcases ny (l:=l) (n:=j) with⟨_,h⟩|⟨h,_⟩
       ·exact absurd hrj h
       ·rw [h]; rfl
      have hadd:=h1.add hl8 hjl hrj (by have:=vg hri hj hrj; omega) hjI;have hlen:=h1.len;refine aN hL (eK (ey (by simp; omega)) ?_);unfold cY;rw [ea,e4,eP];refine done hadd h2 h3 (h4.trans (List.prefix_append _ _)) (.inr ⟨rfl,?_⟩) (fun q y hq hy=>?_) (.inr ⟨hB,.inr ⟨by rw [hxj]; exact ol _ (dq.2 rfl),?_,hm0⟩⟩)
      ·have:=h4.length_le;rw [cW]; simp; omega
      ·obtain⟨w,q1,q2⟩:=h7 q y hq hy;exact⟨w,q1,q2.mono (ix.refl _) fun _ h=>gv _ h⟩
      ·rw [hxj,h1.zero j hjI,zu]; rfl
    ·have hB:D6 l x:=.inr (by rw [hxj]; exact hrj);have hA:kr l inp V x []=V j:=by
      unfold kr;rw [if_neg (by rw [hc]; simp),n2,hxj]
     rw [decide_eq_false hrj];simp only [nY,cond_true];have hlow:=tK hri hj hrj;refine aJ (hv.rule _ j h2 hjl (by rw [qs hrj]; omega)) fun y hy=>?_;obtain⟨f1,f2,f3⟩:=hy;exact done (h1.grow f3) f2 (h3.trans f3) h4 h5 (fun q y hq hy=>by
      obtain⟨w,q1,q2⟩:=h7 q y hq hy;exact⟨w,q1,q2.mono f3 fun _ h=>h⟩) (.inl ⟨hB,by rw [hA,f1]⟩)
theorem FC {m:List (ae×ByteArray)} {list:List ae} {rules:List aI} {rev:Int} {inps:List aT} {recs:List ad} {seen:List (ae×(List ae))} (h1:vS l V inp n0 memo0 m list idx0 a) (h2:py l V b (ao.mk rules (ai.mk rev inps recs) memo0 seen)) {t:nC} (ht:dC l (rk l i) []=some t) {β:Type} {R:β→Prop} {g:_→Option β} (hg:∀ y,D7 l V b inp n0 a i r memo0 idx0 ch0 y→Ok (g y) R) :
  Ok ((loop (fun s:(List (ae×ByteArray))×(List ae)×Bool×(List ByteArray)×(List aI)×Int×(List aT)×(List ad)×(List (ae×ByteArray))×(List (ae×(List ae)))×Bool×ByteArray×Int×ByteArray=>cZ vrec p s.1 s.2.1 s.2.2.1 s.2.2.2.1 s.2.2.2.2.1 s.2.2.2.2.2.1 s.2.2.2.2.2.2.1 s.2.2.2.2.2.2.2.1 s.2.2.2.2.2.2.2.2.1 s.2.2.2.2.2.2.2.2.2.1 s.2.2.2.2.2.2.2.2.2.2.1 s.2.2.2.2.2.2.2.2.2.2.2.1 s.2.2.2.2.2.2.2.2.2.2.2.2.1 s.2.2.2.2.2.2.2.2.2.2.2.2.2) (m,list,ch0,[],rules,rev,inps,recs,memo0,seen,t.Done,t.Value,t.Ask.Kind,t.Ask.Text)).bind g) R:=by
 refine bK (Jd l V b inp n0 a i r memo0 idx0 ch0) (D7 l V b inp n0 a i r memo0 idx0 ch0) r.Asks.length ?_ (fun k s hk hI=>(J5 hR hv hi hr hp hk s hI).mono fun y hy=>by cases y <;> exact hy) hg;exact⟨idx0,h1,h2,ix.refl _,List.prefix_refl _,.inl ⟨rfl,rfl⟩,rfl,fun q x hq=>absurd hq (by omega),ht⟩
end
end
section
open Go.RowKit
open Go.Lib hiding intOf
def vl (a:Nat→Nat):Nat→Nat
 | 0=>0
 | n+1=>vl a n+a n
theorem CP {a a':Nat→Nat} (h:∀ j,a j≤a' j):∀ n,vl a n≤vl a' n
 | 0=>cM _
 | n+1=>Nat.add_le_add (CP h n) (h n)
theorem CQ {a a':Nat→Nat} (h:∀ j,a j≤a' j) {i:Nat} (hi:a i<a' i):∀ n,i<n→vl a n<vl a' n
 | 0,h0=>absurd h0 (by omega)
 | n+1,h0=>by
  have h1:=h n;have h2:=CP h n;show vl a n+a n<vl a' n+a' n;rcases ik i n with h3 | h3
  ·have:=CQ h hi n h3; omega
  ·obtain rfl:i=n:=by omega
   omega
theorem xo {a:Nat→Nat} (h:∀ j,a j<65536):∀ n,vl a n≤n*65536
 | 0=>by simp [vl]
 | n+1=>by
  have:=xo h n;have:=h n;show vl a n+a n≤_;omega
theorem F3 {a m:Nat} (h:∀ q,a.testBit q=true→m.testBit q=true):a≤m:=by
 have:a &&& m=a:=by
  apply Nat.eq_of_testBit_eq;intro q;rw [Nat.testBit_and];cases ha:a.testBit q with
  | false=>rfl
  | true=>rw [h q ha]; rfl
 rw [← this];exact Nat.and_le_right
section
variable {l:List aI} {V:Nat→ByteArray} {b:ai} {inp:ae→ByteArray} {vrec:ao→ae→Option (ByteArray×ao)}
def ZY (l:List aI) (V:Nat→ByteArray) (inp:ae→ByteArray) (idx:List Nat) (a:Nat→Nat) (i:Nat):Prop :=
 ∃ r,l[i]? = some r∧(∀ q,r.C.toNat.testBit q=true→(a i).testBit q=true)∧∀ x∈r.Asks,(D6 l x→∀ q,(e7 (kr l inp V x [])).toNat.testBit q=true→(a i).testBit q=true) ∧
  (¬ D6 l x→(∀ q,RB l inp V x.N.toNat q→(a i).testBit q=true)∨(x.N.toNat∈idx∧∀ q,(a x.N.toNat).testBit q=true→(a i).testBit q=true))
theorem BL {idx:List Nat} {a:Nat→Nat} (hc:∀ i∈idx,ZY l V inp idx a i) {i q:Nat} (h:RB l inp V i q):i∈idx→(a i).testBit q=true:=by
 induction h with
 | own h1 h2 =>
  intro hi;obtain⟨r,g1,g2,g3⟩:=hc _ hi;rw [h1] at g1;obtain rfl:=bO g1;exact g2 _ h2
 | ask h1 h2 h3 h4 =>
  intro hi;obtain⟨r,g1,g2,g3⟩:=hc _ hi;rw [h1] at g1;obtain rfl:=bO g1;exact (g3 _ h2).1 h3 _ h4
 | ring h1 h2 h3 h4 h5 ih =>
  intro hi;obtain⟨r,g1,g2,g3⟩:=hc _ hi;rw [h1] at g1;obtain rfl:=bO g1;rcases (g3 _ h2).2 (by rintro (h | h); rw [h3] at h; cases h; exact h h4) with h | ⟨h,k⟩
  ·exact h _ h5
  ·exact k _ (ih h)
theorem ua (hR:a8 l) (hD:y0 l inp V) {j:Nat} (hj:(aU l)[j]? = some true):∃ u:Nat,V j=bU u∧u<65536∧(e7 (V j)).toNat=u∧∀ q,u.testBit q=true↔RB l inp V j q:=by
 have hl:j<l.length:=by have:=aW hj; unfold aU at this; rwa [od] at this
 have hg:=bC hl;obtain⟨u,h1,h2,h3⟩:=hD.ring j l[j] hg (by rw [nV hl] at hj; exact bO hj);exact⟨u,h1,h2,by rw [h1,qz h2]; omega,h3⟩
theorem xu {n:Nat} (h:n<65536):(e7 (bU (n:Int))).toNat=n:=by rw [qz h]; omega
theorem BV {x:cD} (h:¬ D6 l x):x.Cell=false∧(aU l)[x.N.toNat]? = some true:=by
 constructor
 ·cases hc:x.Cell with
  | false=>rfl
  | true=>exact absurd (.inl hc) h
 ·exact FO fun e=>h (.inr e)
theorem vS.set {n0:Nat} {memo m:List (ae×ByteArray)} {list:List ae} {idx:List Nat} {a:Nat→Nat} (h:vS l V inp n0 memo m list idx a) (hl:l.length≤8) {i u:Nat} (hi:i∈idx) (hu:u<65536) (hlow:∀ q,(a i).testBit q=true→u.testBit q=true) (hRB:∀ q,u.testBit q=true→RB l inp V i q) (hF:∀ q,u.testBit q=true→Fb l V inp memo a i q) :
  vS l V inp n0 memo (de aM (rk l i) (bU (u:Int)) m) list idx (fun j=>if j=i then u else a j):=by
 have hmono:∀ j q,(a j).testBit q=true→(if j=i then u else a j).testBit q=true:=by
  intro j q hq;by_cases e:j=i
  ·rw [if_pos e]; rw [e] at hq; exact hlow q hq
  ·rw [if_neg e]; exact hq
 refine⟨h.eq,h.nd,h.ring,h.head,fun j hj=>?_,fun j hj=>?_,fun j=>?_,fun j q hq=>?_,fun j hj q hq=>?_⟩
 ·by_cases e:j=i
  ·subst e;rw [eP,if_pos hi,if_pos rfl]
  ·rw [jt (fun e2=>e (pi (by omega) (by have:=(h.ring i hi).1; omega) e2)),h.get j hj];simp only [if_neg e]
 ·have:j≠i:=fun e=>hj (e▸hi);show (if j=i then u else a j)=0;rw [if_neg this]; exact h.zero j hj
 ·show (if j=i then u else a j)<65536;split
  ·exact hu
  ·exact h.lt j
 ·by_cases e:j=i
  ·rw [if_pos e] at hq; rw [e]; exact hRB q hq
  ·rw [if_neg e] at hq; exact h.le j q hq
 ·by_cases e:j=i
  ·rw [if_pos e] at hq; rw [e]; exact (hF q hq).mono (ix.refl _) hmono
  ·rw [if_neg e] at hq; exact (h.up j hj q hq).mono (ix.refl _) hmono
section
variable {n0:Nat} {a:Nat→Nat} {i:Nat} {r:aI} {memo0 memo m m0:List (ae×ByteArray)} {idx0 idx:List Nat} {list list0:List ae} {ws:List ByteArray} {u:Nat} (hR:a8 l) (hD:y0 l inp V) (hi:l[i]? = some r) (hr:r.Ring=true)
 (h0:vS l V inp n0 memo0 m0 list0 idx0 a) (h1:vS l V inp n0 memo m list idx a) (hiI:i∈idx0) (hlen:ws.length=r.Asks.length) (hans:∀ (q:Nat) (x:cD),r.Asks[q]? = some x→∃ (w:ByteArray),ws[q]? = some w∧sV l V inp memo0 memo idx a x w)
 (hu:∀ q,u.testBit q=true↔r.C.toNat.testBit q=true∨∃ v∈ws,(e7 v).toNat.testBit q=true)
include hR hD hi h0 h1 hiI hlen hans hu
omit hlen in
theorem GR (q:Nat) (hq:(a i).testBit q=true):u.testBit q=true:=by
 obtain⟨r',g1,g2⟩:=h0.up i hiI q hq;rw [hi] at g1;obtain rfl:=bO g1;rcases g2 with g2 | ⟨x,g2,g3⟩
 ·exact (hu q).2 (.inl g2)
 ·obtain⟨k,hk⟩:=gZ.1 g2;obtain⟨w,w1,w2⟩:=hans k x hk;refine (hu q).2 (.inr ⟨w,aH w1,?_⟩);rcases w2 with⟨w2,rfl⟩|⟨w2,w3⟩
  ·rcases g3 with⟨_,g3⟩|⟨g3,_⟩
   ·exact g3
   ·exact absurd w2 g3
  ·obtain⟨u',d1,d2,d3,d4⟩:=ua hR hD (BV w2).2;rcases g3 with⟨g3,_⟩|⟨_,g3⟩
   ·exact absurd g3 w2
   ·rcases w3 with⟨_,rfl⟩|⟨_,rfl,w5⟩
    ·rw [d3,d4];rcases g3 with⟨_,g3⟩ | g3
     ·exact g3
     ·exact h1.le _ _ g3
    ·rw [xu (h1.lt _)];rcases g3 with⟨g3,_⟩ | g3
     ·exact absurd w5 g3
     ·exact g3
omit h0 hiI in
theorem IR (q:Nat) (hq:u.testBit q=true):RB l inp V i q∧Fb l V inp memo a i q:=by
 rcases (hu q).1 hq with g | ⟨w,g1,g2⟩
 ·exact⟨.own hi g,r,hi,.inl g⟩
 ·obtain⟨k,hk⟩:=gZ.1 g1;have hk2:=aW hk;have hx:=bC (l:=r.Asks) (i:=k) (by omega);obtain⟨w',w1,w2⟩:=hans k _ hx;rw [hk] at w1;obtain rfl:=bO w1;have hm:=aH hx;rcases w2 with⟨w2,rfl⟩|⟨w2,w3⟩
  ·exact⟨.ask hi hm w2 g2,r,hi,.inr ⟨_,hm,.inl ⟨w2,g2⟩⟩⟩
  ·obtain⟨u',d1,d2,d3,d4⟩:=ua hR hD (BV w2).2;rcases w3 with⟨w3,rfl⟩|⟨_,rfl,w5⟩
   ·rw [d3,d4] at g2;exact⟨.ring hi hm (BV w2).1 (BV w2).2 g2,r,hi,.inr ⟨_,hm,.inr ⟨w2,.inl ⟨w3,g2⟩⟩⟩⟩
   ·rw [xu (h1.lt _)] at g2;exact⟨.ring hi hm (BV w2).1 (BV w2).2 (h1.le _ _ g2),r,hi,.inr ⟨_,hm,.inr ⟨w2,.inr g2⟩⟩⟩
omit h0 hiI hlen in
theorem IQ (hau:a i=u):ZY l V inp idx a i:=by
 refine⟨r,hi,fun q hq=>?_,fun x hx=>?_⟩
 ·rw [hau]; exact (hu q).2 (.inl hq)
 ·obtain⟨k,hk⟩:=gZ.1 hx;obtain⟨w,w1,w2⟩:=hans k x hk;have hw:∀ q,(e7 w).toNat.testBit q=true→(a i).testBit q=true:=fun q hq=>by
   rw [hau]; exact (hu q).2 (.inr ⟨w,aH w1,hq⟩)
  rcases w2 with⟨w2,rfl⟩|⟨w2,w3⟩
  ·exact⟨fun _ q hq=>hw q hq,fun h=>absurd w2 h⟩
  ·obtain⟨u',d1,d2,d3,d4⟩:=ua hR hD (BV w2).2;refine⟨fun h=>absurd h w2,fun _=>?_⟩;rcases w3 with⟨_,rfl⟩|⟨w3,rfl,_⟩
   ·exact .inl fun q hq=>hw q (by rw [d3,d4]; exact hq)
   ·exact .inr ⟨w3,fun q hq=>hw q (by rw [xu (h1.lt _)]; exact hq)⟩
end
end
end
section
open Go.RowKit
open Go.Lib hiding intOf
section
variable {l:List aI} {V:Nat→ByteArray} {b:ai} {inp:ae→ByteArray} {vrec:ao→ae→Option (ByteArray×ao)}
def mu (l:List aI) (idx:List Nat) (a:Nat→Nat):Nat:=idx.length+vl a l.length
def Jm (l:List aI) (V:Nat→ByteArray) (b:ai) (inp:ae→ByteArray) (n0:Nat) (memo1:List (ae×ByteArray)) (idx1:List Nat) (a1:Nat→Nat) (k:Nat) :
  (List (ae×ByteArray))×(List ae)×Bool×Int×(List aI)×Int×(List aT)×(List ad)×(List (ae×ByteArray))×(List (ae×(List ae)))→Prop
 | (m,list,ch,p,rules,rev,inps,recs,memo,seen) =>
  ∃ (idx:List Nat) (a:Nat→Nat),p=(k:Int)∧k≤idx.length∧vS l V inp n0 memo m list idx a∧py l V b (ao.mk rules (ai.mk rev inps recs) memo seen)∧ix memo1 memo ∧
   ((ch=false∧idx=idx1∧a=a1∧∀ (q i:Nat),q<k→idx[q]? = some i→ZY l V inp idx a i)∨(ch=true∧mu l idx1 a1<mu l idx a))
def Jo (l:List aI) (V:Nat→ByteArray) (b:ai) (inp:ae→ByteArray) (n0:Nat) (memo1:List (ae×ByteArray)) (idx1:List Nat) (a1:Nat→Nat) :
  (List (ae×ByteArray))×(List ae)×Bool×(List aI)×Int×(List aT)×(List ad)×(List (ae×ByteArray))×(List (ae×(List ae)))→Prop
 | (m,list,ch,rules,rev,inps,recs,memo,seen) =>
  ∃ (idx:List Nat) (a:Nat→Nat),vS l V inp n0 memo m list idx a∧py l V b (ao.mk rules (ai.mk rev inps recs) memo seen)∧ix memo1 memo ∧
   ((ch=false∧∀ i∈idx,ZY l V inp idx a i)∨(ch=true∧mu l idx1 a1<mu l idx a))
section
variable {n0:Nat} {memo1:List (ae×ByteArray)} {idx1:List Nat} {a1:Nat→Nat} (hR:a8 l) (hD:y0 l inp V) (hv:HV l V b inp (mp (aU l) n0) vrec)
include hR hD hv
theorem IL {k:Nat} (hk:k≤l.length):∀ s,Jm l V b inp n0 memo1 idx1 a1 k s→Ok (dA vrec s.1 s.2.1 s.2.2.1 s.2.2.2.1 s.2.2.2.2.1 s.2.2.2.2.2.1 s.2.2.2.2.2.2.1 s.2.2.2.2.2.2.2.1 s.2.2.2.2.2.2.2.2.1 s.2.2.2.2.2.2.2.2.2) fun y=>match y with
   | .go s'=>k<l.length∧Jm l V b inp n0 memo1 idx1 a1 (k+1) s'
   | .out y=>Jo l V b inp n0 memo1 idx1 a1 y:=by
 rintro⟨m,list,ch,p,rules,rev,inps,recs,memo,seen⟩ ⟨idx,a,rfl,hkl,h1,h2,h3,h4⟩;dsimp only;have hl8:=hR.high;obtain⟨len1,len2⟩:=h1.len;unfold dA;refine aB (fun hb=>?_) (fun hb=>?_)
 ·have hlt:k<idx.length:=by have:=of_decide_eq_true hb; omega
  have hp:=bC hlt;have hiI:=aH hp;generalize idx[k]=i at hp hiI;obtain⟨hil,hir,hio⟩:=h1.ring i hiI;have hi:=bC hil;generalize l[i]=r at hi;have hr:r.Ring=true:=by rw [fm hi] at hir; exact bO hir
  obtain⟨t,ht,_⟩:=qw hR hi (ws:=[]) (by simp);have hget:bk list ((k:Nat):Int)=some (rk l i):=by rw [bf,h1.eq,rH,hp]; rfl
  have hru:rules=l:=h2.rules;refine aN hget (aN (by rw [hru]; exact ht) ?_);unfold eM;refine FC hR hv hi hr hp h1 h2 ht ?_;rintro⟨m',list',ch',rules',rev',inps',recs',memo',seen',d',v',ak',at'⟩ ⟨idx',ws,g1,g2,g3,g4,g5,g6,g7,g8⟩;dsimp only;obtain⟨u,hu1,hu2,hu3⟩:=Av hR hi hr ws;rw [hu1] at g8;subst g8;have hp':idx'[k]? = some i:=by
   obtain⟨z,rfl⟩:=g4;rw [og hlt]; exact hp
  have hiI':i∈idx':=g4.subset hiI;have hget':bk list' ((k:Nat):Int)=some (rk l i):=by rw [bf,g1.eq,rH,hp']; rfl
  have hm:=g1.get i hil;rw [if_pos hiI'] at hm;have hlen':=g4.length_le;have hk1:k+1≤idx'.length:=aW hp';have hwr:IntKind.i64.wrap ((k:Int)+1)=((k+1:Nat):Int):=cR (by omega);unfold dN;refine aN hget' ?_;rw [hm];simp only [vm,aD];by_cases e:a i=u
  ·rw [e,show ((bU (u:Int)).toList==(bU (u:Int)).toList)=true by simp];simp only [im,cond_false];unfold cX;rw [hwr];refine aq ⟨by omega,idx',a,rfl,hk1,g1,g2,h3.trans g3,?_⟩;rcases g5 with⟨e1,e2⟩|⟨e1,e2⟩
   ·subst e1 e2;rcases h4 with⟨q1,q2,q3,q4⟩|⟨q1,q2⟩
    ·refine .inl ⟨q1,q2,q3,fun q j hq hj=>?_⟩;rcases ik q k with hq2 | hq2
     ·exact q4 q j hq2 hj
     ·obtain rfl:q=k:=by omega
      rw [hp'] at hj;obtain rfl:=bO hj;exact IQ hR hD hi g1 g7 hu3 e
    ·exact .inr ⟨q1,q2⟩
   ·refine .inr ⟨e1,?_⟩;unfold mu at h4 ⊢;rcases h4 with⟨q1,q2,q3,q4⟩|⟨q1,q2⟩
    ·rw [← q2,← q3]; omega
    ·omega
  ·have hne:((bU ((a i:Nat):Int)).toList==(bU (u:Int)).toList)=false:=by
    rw [beq_eq_false_iff_ne];exact fun h=>e (uV (g1.lt i) hu2 (toList_inj h))
   rw [hne];simp only [nY,cond_true];refine aN hget' ?_;unfold cX;rw [hwr];have hlow:=GR hR hD hi h1 g1 hiI g7 hu3;have hup:=IR hR hD hi g1 g6 g7 hu3;have pr:=g1.set hl8 hiI' hu2 hlow (fun q hq=>(hup q hq).1) (fun q hq=>(hup q hq).2);refine aq ⟨by omega,idx',_,rfl,hk1,pr,g2,h3.trans g3,.inr ⟨rfl,?_⟩⟩;have hle:a i≤u:=F3 hlow;have hs:vl a l.length<vl (fun j=>if j=i then u else a j) l.length:=by
    refine CQ (i:=i) (fun j=>?_) ?_ _ hil
    ·show a j≤if j=i then u else a j;split
     ·rename_i hj; rw [hj]; exact hle
     ·exact cM _
    ·show a i<if i=i then u else a i;rw [if_pos rfl]; omega
   unfold mu at h4 ⊢;rcases h4 with⟨q1,q2,q3,q4⟩|⟨q1,q2⟩
   ·rw [← q2,← q3]; omega
   ·omega
 ·have hge:¬ k<idx.length:=by have:=of_decide_eq_false hb; omega
  refine aq ⟨idx,a,h1,h2,h3,?_⟩;rcases h4 with⟨q1,q2,q3,q4⟩|⟨q1,q2⟩
  ·refine .inl ⟨q1,fun i hi=>?_⟩;obtain⟨q,hq⟩:=gZ.1 hi;exact q4 q i (by have:=aW hq; omega) hq
  ·exact .inr ⟨q1,q2⟩
def Io (l:List aI) (V:Nat→ByteArray) (b:ai) (inp:ae→ByteArray) (n0:Nat) (memo1:List (ae×ByteArray)) (k:Nat) :
  (List (ae×ByteArray))×(List ae)×Bool×(List aI)×Int×(List aT)×(List ad)×(List (ae×ByteArray))×(List (ae×(List ae)))→Prop
 | (m,list,ch,rules,rev,inps,recs,memo,seen) =>
  ∃ (idx:List Nat) (a:Nat→Nat),vS l V inp n0 memo m list idx a∧py l V b (ao.mk rules (ai.mk rev inps recs) memo seen)∧ix memo1 memo ∧
   ((ch=false∧∀ i∈idx,ZY l V inp idx a i)∨(ch=true∧k≤mu l idx a))
def Fo (l:List aI) (V:Nat→ByteArray) (b:ai) (inp:ae→ByteArray) (n0:Nat) (memo1:List (ae×ByteArray)) :
  (List (ae×ByteArray))×(List ae)×(List aI)×Int×(List aT)×(List ad)×(List (ae×ByteArray))×(List (ae×(List ae)))→Prop
 | (m,list,rules,rev,inps,recs,memo,seen) =>
  ∃ (idx:List Nat) (a:Nat→Nat),vS l V inp n0 memo m list idx a∧py l V b (ao.mk rules (ai.mk rev inps recs) memo seen)∧ix memo1 memo∧∀ i∈idx,ZY l V inp idx a i
omit hD hv in
theorem EU {memo m:List (ae×ByteArray)} {list:List ae} {idx:List Nat} {a:Nat→Nat} (h:vS l V inp n0 memo m list idx a):mu l idx a≤600000:=by
 have:=xo h.lt l.length;have:=h.len.2;have:=hR.high;unfold mu;omega
theorem IM {k:Nat}:∀ s,Io l V b inp n0 memo1 k s→Ok (dB vrec s.1 s.2.1 s.2.2.1 s.2.2.2.1 s.2.2.2.2.1 s.2.2.2.2.2.1 s.2.2.2.2.2.2.1 s.2.2.2.2.2.2.2.1 s.2.2.2.2.2.2.2.2) fun y=>match y with
   | .go s'=>k<600001∧Io l V b inp n0 memo1 (k+1) s'
   | .out y=>Fo l V b inp n0 memo1 y:=by
 rintro⟨m,list,ch,rules,rev,inps,recs,memo,seen⟩ ⟨idx,a,h1,h2,h3,h4⟩;dsimp only;unfold dB;refine aB (fun hb=>?_) (fun hb=>?_)
 ·subst hb;have h5:k≤mu l idx a:=by
   rcases h4 with⟨h,_⟩|⟨_,h⟩
   ·cases h
   ·exact h
  have hbd:=EU hR h1;refine bK (Jm l V b inp n0 memo idx a) (Jo l V b inp n0 memo idx a) l.length ⟨idx,a,rfl,ez _,h1,h2,ix.refl _,.inl ⟨rfl,rfl,rfl,fun q i hq=>absurd hq (by omega)⟩⟩
   (fun k s hk hI=>(IL hR hD hv hk s hI).mono fun y hy=>by cases y <;> exact hy) ?_
  rintro⟨m',list',ch',rules',rev',inps',recs',memo',seen'⟩ ⟨idx',a',g1,g2,g3,g4⟩;refine aq ⟨by omega,idx',a',g1,g2,h3.trans g3,?_⟩;rcases g4 with⟨q1,q2⟩|⟨q1,q2⟩
  ·exact .inl ⟨q1,q2⟩
  ·exact .inr ⟨q1,by omega⟩
 ·subst hb;refine aq ⟨idx,a,h1,h2,h3,?_⟩;rcases h4 with⟨_,h⟩|⟨h,_⟩
  ·exact h
  ·cases h
omit hv in
theorem EB {m list memo idx a} (h1:vS l V inp n0 memo m list idx a) (hc:∀ i∈idx,ZY l V inp idx a i) {i:Nat} (hi:i∈idx):bU ((a i:Nat):Int)=V i:=by
 obtain⟨u,d1,d2,d3,d4⟩:=ua hR hD (h1.ring i hi).2.1;rw [d1];congr 2;apply Nat.eq_of_testBit_eq;intro q;rw [Bool.eq_iff_iff,d4];exact⟨h1.le i q,fun h=>BL hc h hi⟩
theorem Fw {s:ao} (hs:py l V b s) (hn:n0<l.length) (hr0:(aU l)[n0]? = some true) :
  Ok (fh vrec s (rk l n0)) fun s'=>py l V b s'∧ix s.Memo s'.Memo∧cB aM (rk l n0) s'.Memo=some (V n0):=by
 have hl8:=hR.high;have hL:ie (rk l n0)=some ⟨#[48]⟩:=by
  unfold ie;rcases ny (l:=l) (n:=n0) with⟨_,h⟩|⟨h,_⟩
  ·exact absurd hr0 h
  ·rw [h]; rfl
 unfold fh;refine aN hL ?_;unfold eN;have hA:vS l V inp n0 s.Memo (de aM (rk l n0) ⟨#[48]⟩ []) [rk l n0] [n0] (fun _=>0):=by
  refine⟨rfl,by simp,fun i hi=>?_,dq.2 rfl,fun i hi=>?_,fun _ _=>rfl,fun _=>by simp,fun i q hq=>by simp at hq,fun i _ q hq=>by simp at hq⟩
  ·rw [dq.1 hi]; exact⟨hn,hr0,cM _⟩
  ·by_cases e:i=n0
   ·subst e;rw [eP,if_pos (dq.2 rfl),zu]
   ·rw [jt (fun e2=>e (pi (by omega) (by omega) e2)),if_neg (by simpa using e)]; rfl
 refine bK (Io l V b inp n0 s.Memo) (Fo l V b inp n0 s.Memo) 600001 ⟨[n0],fun _=>0,hA,hs,ix.refl _,.inr ⟨rfl,ez _⟩⟩
  (fun k s hk hI=>(IM hR hD hv s hI).mono fun y hy=>by cases y <;> exact hy) ?_
 rintro⟨m,list,rules,rev,inps,recs,memo,seen⟩ ⟨idx,a,h1,h2,h3,h4⟩;obtain⟨len1,len2⟩:=h1.len;dsimp only;unfold dM;refine bK (fun (k:Nat) (st:Int×List (ae×ByteArray))=>st.1=k∧k≤idx.length∧py l V b (ao.mk rules (ai.mk rev inps recs) st.2 seen)∧ix s.Memo st.2∧∀ (q i:Nat),q<k→idx[q]? = some i→cB aM (rk l i) st.2=some (V i))
  (fun memo'=>py l V b (ao.mk rules (ai.mk rev inps recs) memo' seen)∧ix s.Memo memo'∧cB aM (rk l n0) memo'=some (V n0)) idx.length ⟨rfl,ez _,h2,h3,fun q i hq=>absurd hq (by omega)⟩ ?_ ?_
 ·rintro k ⟨p,memo'⟩ hk ⟨rfl,_,g1,g2,g3⟩;dsimp only;unfold ft;refine aB (fun hb=>?_) (fun hb=>?_)
  ·have hlt:k<idx.length:=by have:=of_decide_eq_true hb; omega
   have hp:=bC hlt;have hiI:=aH hp;generalize idx[k]=i at hp hiI;obtain⟨hil,_⟩:=h1.ring i hiI;have hget:bk list ((k:Nat):Int)=some (rk l i):=by rw [bf,h1.eq,rH,hp]; rfl
   refine aN hget ?_;have hm:=h1.get i hil;rw [if_pos hiI,EB hR hD h1 h4 hiI] at hm;rw [hm];simp only [vm,aD];obtain⟨p1,p2⟩:=g1.put hil hl8;refine aq ⟨hlt,cR (by omega),hlt,p1,g2.trans p2,fun q j hq hj=>?_⟩;rcases ik q k with hq2 | hq2
   ·exact p2 _ _ (g3 q j hq2 hj)
   ·obtain rfl:q=k:=by omega
    rw [hp] at hj;obtain rfl:=bO hj;exact eP _ _ _
  ·have hge:¬ k<idx.length:=by have:=of_decide_eq_false hb; omega
   obtain⟨q,hq⟩:=gZ.1 h1.head;exact aq ⟨g1,g2,g3 q n0 (by have:=aW hq; omega) hq⟩
 ·rintro memo' ⟨g1,g2,g3⟩;exact aq ⟨g1,g2,g3⟩
end
end
end
section
open Go.RowKit
set_option maxRecDepth 100000 in
set_option maxHeartbeats 4000000 in
theorem xT (T:Nat→Prop) (W0:World) (hT:∀ k,T k→k<W0.heap.size) (hD:tU T W0 []) (g:(List aX)) (H:Value) (b2:aC au (dT T []) W0 H g) (y:(List aX)) (hM:dj g=some y) (K:aX) (X:bk y (IntKind.i64.wrap ((y.length:Int)-1))=some K):a7 aO (MD []) 134 [H] W0 (fun v w'=>∃ (cl:ba) (P:Value) (N:ba) (Q:Value) (O:ba),az (HR au) (dT T [.own v 150 au.size cl,.own P 31 ac.size N,.own Q 9 aR.str.size O]) w' cl (dY y (IntKind.i64.wrap ((y.length:Int)-1)) [al K.Key.Kind,aZ K.Key.Text,.bool K.Running,al K.At,P,Q])∧az ac (dT T [.own v 150 au.size cl,.own P 31 ac.size N,.own Q 9 aR.str.size O]) w' N K.Reads∧az aR.str (dT T [.own v 150 au.size cl,.own P 31 ac.size N,.own Q 9 aR.str.size O]) w' O K.Answers∧lK W0 w' [] [.own v 150 au.size cl,.own P 31 ac.size N,.own Q 9 aR.str.size O]):=by
 refine eL (c:=_) Tryz.func134 rfl T 26 Tryz.ntmps134 hT rfl hD fun a hS=>?_;replace hS:=hS.fact (aL au H g) b2;unfold dj at hM;refine rq fun K26 a4=>?_;refine qa hS fun a hS=>?_;refine rz (a4 _ _ ?_);refine rq fun K27 a5=>?_;refine qa hS fun a hS=>?_;refine rz (a5 _ _ ?_);refine aK (J:=fun a w=>∃ (M:(List aX)) (I:Value) (t:(ba)) (G:List aX) (j:aX) (C:Value) (z:ba) (D:Value) (A:ba),M=G++[j]∧St W0 (MD []) T 26 [(3,I)] [.own I 150 au.size t,.own C 31 ac.size z,.own D 9 aR.str.size A] [an (HR au) t (w4 G [al j.Key.Kind,aZ j.Key.Text,.bool j.Running,al j.At,C,D]),an ac z j.Reads,an aR.str A j.Answers] a w∧cr M=some y) ?_ ?_
 ·skip;refine rq fun K40 af=>?_;refine qm hS fun a hS=>?_;refine qy hS (HM (R:=au) (xs:=g) hS se rfl 0 rfl) fun a hS=>?_;refine qm hS fun a hS=>?_;refine rz (af _ _ ?_);refine wp_block ?_;replace hS:=hS.nilRow au 150 (by decide);obtain⟨r1,b1,hMo1⟩:=bd hM;refine bx (fun s:(List aX)×Int=>bF g s.1 s.2) (fun s a w=>∃ (e:(List aX)) (f:Int) (q:Value) (o:(ba)),(e,f)=s∧((e=[]∧St W0 (MD []) T 26 [(3,q),(6,H),(7,al (g.length:Int)),(8,al f)] [.own q 150 au.size o] [an au o e,aL au H g] a w)∨∃ (G:List aX) (j:aX) (C:Value) (z:ba) (D:Value) (A:ba),e=G++[j]∧St W0 (MD []) T 26 [(3,q),(6,H),(7,al (g.length:Int)),(8,al f)] [.own q 150 au.size o,.own C 31 ac.size z,.own D 9 aR.str.size A] [an (HR au) o (w4 G [al j.Key.Kind,aZ j.Key.Text,.bool j.Running,al j.At,C,D]),an ac z j.Reads,an aR.str A j.Answers,aL au H g] a w)) b1 ⟨([]:List aX),0,(.slice none 0 0),([]),rfl,.inl ⟨rfl,(hS.meet [0] (by decide) ⟨rfl,rfl,rfl,rfl,trivial⟩ ⟨rfl,trivial⟩ ⟨⟨0,rfl⟩,⟨1,rfl⟩,trivial⟩)⟩⟩ ?_;rintro s a w Z ⟨e,f,q,o,rfl,W⟩ hM hf1;by_cases hlt:f<(g.length:Int)
  ·skip;have hS:St W0 (MD []) T 26 [(3,q),(6,H),(7,al (g.length:Int)),(8,al f)] [.own q 150 au.size o] [an au o e,aL au H g] a w:=by
    rcases W with⟨_,hS⟩|⟨G,j,C,z,D,A,ho,hS⟩
    · exact hS
    replace hS:=(hS.freeze (R:=ac) 1 rfl 1 rfl).freeze (R:=aR.str) 1 rfl 3 rfl;replace hS:=hS.closeLast (R:=au) (x:=j) 2 rfl ⟨_,_,rfl,hS.get 1 rfl,hS.get 0 rfl⟩;rw [← ho] at hS;exact hS.meet [0] (by decide) ⟨rfl,rfl,rfl,rfl,trivial⟩ ⟨rfl,trivial⟩ ⟨⟨0,rfl⟩,⟨6,rfl⟩,trivial⟩
   have hM:bF g e f=some Z:=hM;unfold bF at hM;refine rq fun K51 B=>?_;refine qy hS (Bp hS rfl rfl rfl) fun a hS=>?_;refine rz (B _ _ ?_);refine wp_seq_k fun K52 L=>?_;have p:decide (f<(g.length:Int))=true:=decide_eq_true hlt;replace hM:=ct p hM;refine Mj hS rfl p ?_;refine wp_skip ?_;refine L _ _ ?_;refine wp_seq_k fun K53 ag=>?_;refine wp_block ?_;refine rq fun K54 ak=>?_;obtain⟨b,S,hM⟩:=bd hM;refine wl rfl (bu (R:=au) hS se sj rfl rfl 1 rfl S rfl fun b3 bb b5 a0 a hS=>?_);obtain⟨E,F,rfl,U,V⟩:=a0;replace hS:=(hS.fact (aL ac E b.Reads) U).fact (aL aR.str F b.Answers) V;refine qy hS (uK (k:=0) hS sj 2 rfl rfl (fun _ h=>h.elim) (us:=[al b.Key.Kind,aZ b.Key.Text,.bool b.Running,al b.At,E,F]) rfl rfl (fun h=>by cases h)) fun a hS=>?_;refine wl rfl (cC hS qD rfl fun r b9 a w hk hS=>?_);refine wl rfl (qK hS rfl rfl (us:=[al b.Key.Kind,aZ b.Key.Text,.bool b.Running,al b.At,E,F]) rfl sj 0 rfl rfl rfl (oc rfl (oc rfl (oc rfl (oc rfl (oc (aC.one ((hS.get 1 rfl):aC ac _ _ _ _)) (oc (aC.one ((hS.get 0 rfl):aC aR.str _ _ _ _)) on)))))) fun w hk hS=>?_);refine rz (ak _ _ ?_);refine wp_seq_k fun K55 av=>?_;replace hS:=(hS.nilRow ac 31 (by decide)).nilRow aR.str 9 (by decide);refine HA [(2,.blk (Value.ownBlock (.slice none 0 0))),(5,.blk (Value.ownBlock (.slice none 0 0))),(7,.blk (some r)),(9,.blk (some r))] hS mixed rfl (fun c a d v w h=>by cases d <;> exact h) fun w hQ hS=>?_;refine dy 0 (v:=.pointer (some ⟨r,0+4,none⟩)) rfl (by kernel_rfl) (by kernel_rfl) (by kernel_rfl) rfl hQ hS (Bo hS rfl zo) rfl rfl rfl fun a hS=>?_;refine dy (l:=[]) 1 (v:=E) rfl (by kernel_rfl) (by kernel_rfl) (by kernel_rfl) (by kernel_rfl) hQ hS (dh hS rfl Cb 2 rfl bn (us:=[E]) rfl rfl (fun _=>rfl)) rfl rfl rfl fun a hS=>?_;refine dy 3 (v:=.pointer (some ⟨r,0+5,none⟩)) rfl (by kernel_rfl) (by kernel_rfl) (by kernel_rfl) rfl hQ hS (Bo hS rfl zp) rfl rfl rfl fun a hS=>?_;refine dy (l:=[.blk (Value.ownBlock (.slice none 0 0))]) 4 (v:=F) rfl (by kernel_rfl) (by kernel_rfl) (by kernel_rfl) (by kernel_rfl) hQ hS (dh hS rfl xr 2 rfl (gA hS 2 rfl rfl 0 rfl rfl (by decide) bn) (us:=[F]) rfl rfl (fun _=>rfl)) rfl rfl rfl fun a hS=>?_;obtain⟨a1,hM⟩:=bm hM;refine rr (i:=2) rfl (by kernel_rfl) rfl (bB (R:=ac) (xs:=([]:List ae)) (ys:=b.Reads) hS gh (by decide) (by decide) rfl rfl 1 rfl 1 rfl 3 rfl a1 rfl fun m b6 a w hk hS=>⟨ij rfl hk gt,?_⟩);refine dy 6 (v:=.pointer (some ⟨r,0+4,none⟩)) rfl (by kernel_rfl) (by kernel_rfl) (by kernel_rfl) rfl hQ hS (Bo hS rfl zo) rfl rfl rfl fun a hS=>?_;obtain⟨a2,hM⟩:=bm hM;refine rr (i:=5) rfl (by kernel_rfl) rfl (bB (R:=aR.str) (xs:=([]:List ByteArray)) (ys:=b.Answers) hS rR (by decide) (by decide) rfl rfl 0 rfl 1 rfl 3 rfl a2 rfl fun n b8 a w hk hS=>⟨ij rfl hk gt,?_⟩);refine rr (i:=7) rfl (by kernel_rfl) rfl (qK hS rfl rfl (us:=[m]) (lh (fV (hS.own _ (aH (i:=1) rfl)).1)) Cb 2 rfl rfl rfl (oc (fV (hS.own _ (aH (i:=1) rfl)).1) on) fun w hk hS=>⟨ij rfl hk hU,?_⟩);refine dy 8 (v:=.pointer (some ⟨r,0+5,none⟩)) rfl (by kernel_rfl) (by kernel_rfl) (by kernel_rfl) rfl hQ hS (Bo hS rfl zp) rfl rfl rfl fun a hS=>?_;refine rr (i:=9) rfl (by kernel_rfl) rfl (qK hS rfl rfl (us:=[n]) (lh (fV (hS.own _ (aH (i:=0) rfl)).1)) xr 2 rfl rfl rfl (oc (fV (hS.own _ (aH (i:=0) rfl)).1) on) fun w hk hS=>⟨ij rfl hk hU,?_⟩);refine Bk (by kernel_rfl) ?_ _;refine av _ _ ?_;refine B0 ?_;refine qm hS fun a hS=>?_;refine qy hS (dh hS rfl sj 2 rfl id (us:=[al b.Key.Kind,aZ b.Key.Text,.bool b.Running,al b.At,m,n]) rfl rfl (fun h=>by cases h)) fun a hS=>?_;refine wl rfl (bj (ps:=[(0,.tmp 21)]) hS ub qD (zl:=[al 0,aZ bW,.bool false,al 0,.slice none 0 0,.slice none 0 0]) (by kernel_rfl) rfl (us:=[[al b.Key.Kind,aZ b.Key.Text,.bool b.Running,al b.At,m,n]]) ⟨rfl,trivial⟩ (ws:=[al b.Key.Kind,aZ b.Key.Text,.bool b.Running,al b.At,m,n]) rfl rfl rfl rfl fun b4 a w hk hS=>?_);have hone:∀ u∈([al b.Key.Kind,aZ b.Key.Text,.bool b.Running,al b.At,m,n]:ba),u.oneCell'=true:=oc rfl (oc rfl (oc rfl (oc rfl (oc (fV (hS.own _ (aH (i:=2) rfl)).1) (oc (fV (hS.own _ (aH (i:=1) rfl)).1) on)))));replace hS:=(hS.lit (R:=HR au) (us:=[al b.Key.Kind,aZ b.Key.Text,.bool b.Running,al b.At,m,n]) (xs:=[Sum.inl [al b.Key.Kind,aZ b.Key.Text,.bool b.Running,al b.At,m,n]]) 0 rfl (by decide) (az.one_ (R:=HR au) (x:=Sum.inl [al b.Key.Kind,aZ b.Key.Text,.bool b.Running,al b.At,m,n]) ⟨rfl,rfl,hone⟩) rfl rfl).freeze (R:=HR au) 0 rfl 0 rfl;obtain⟨a3,hM⟩:=bm hM;replace hS:=hS.openH (R:=au) (cl:=o) (xs:=e) 9 rfl;refine wl rfl (bB (R:=HR au) (xs:=e.map Sum.inr) (ys:=[Sum.inl [al b.Key.Kind,aZ b.Key.Text,.bool b.Running,al b.At,m,n]]) hS ub (by decide) (by decide) rfl rfl 3 rfl 0 rfl 1 rfl (by rw [od]; exact a3) rfl fun b0 Y a w hk hS=>?_);refine qa hS fun a hS=>?_;refine rz (ag _ _ ?_);refine B0 ?_;refine qy hS (Bp hS rfl rfl rfl) fun a hS=>?_;refine qm hS fun a hS=>?_;refine wpList_nil ?_;exact⟨((e++([(aX.mk b.Key b.Running b.At (([]:List ae)++b.Reads) (([]:List ByteArray)++b.Answers))])),IntKind.i64.wrap (f+1)),(bO hM).symm,(e++([(aX.mk b.Key b.Running b.At (([]:List ae)++b.Reads) (([]:List ByteArray)++b.Answers))])),(IntKind.i64.wrap (f+1)),b0,Y,rfl,.inr ⟨e,(aX.mk b.Key b.Running b.At (([]:List ae)++b.Reads) (([]:List ByteArray)++b.Answers)),m,_,n,_,rfl,(hS.meet [3,1,0] (by decide) ⟨rfl,rfl,rfl,rfl,trivial⟩ ⟨rfl,rfl,rfl,trivial⟩ ⟨⟨0,rfl⟩,⟨5,rfl⟩,⟨4,rfl⟩,⟨12,rfl⟩,trivial⟩)⟩⟩
  rcases W with⟨ho,hS⟩|⟨G,j,C,z,D,A,ho,hS⟩
  ·have hM:bF g e f=some Z:=hM;unfold bF at hM;refine rq fun K51 B=>?_;refine qy hS (Bp hS rfl rfl rfl) fun a hS=>?_;refine rz (B _ _ ?_);refine wp_seq_k fun K52 L=>?_;have p:decide (f<(g.length:Int))=false:=decide_eq_false hlt;replace hM:=cf p hM;refine KO hS rfl p ?_;refine wp_exit ?_;injection hM with hM;subst hM;have hr:=hf1 _ rfl;subst hr;have hM:cr e=some y:=hMo1;subst ho;unfold cr at hM;obtain rfl:=bO hM;exact absurd X (by simp [bk])
  have hM:bF g e f=some Z:=hM;unfold bF at hM;refine rq fun K51 B=>?_;refine qy hS (Bp hS rfl rfl rfl) fun a hS=>?_;refine rz (B _ _ ?_);refine wp_seq_k fun K52 L=>?_;have p:decide (f<(g.length:Int))=false:=decide_eq_false hlt;replace hM:=cf p hM;refine KO hS rfl p ?_;refine wp_exit ?_;injection hM with hM;subst hM;have hr:=hf1 _ rfl;subst hr;have hM:cr e=some y:=hMo1;exact⟨e,q,o,G,j,C,z,D,A,ho,(hS.meet [0,1,2] (by decide) ⟨rfl,trivial⟩ ⟨rfl,rfl,rfl,trivial⟩ ⟨⟨0,rfl⟩,⟨1,rfl⟩,⟨2,rfl⟩,trivial⟩),hM⟩
 rintro a w ⟨M,I,t,G,j,C,z,D,A,ho,hS,hM⟩;unfold cr at hM;refine rq fun K39 a9=>?_;refine qm hS fun a hS=>?_;refine qa hS fun a hS=>?_;refine rz (a9 _ _ ?_);refine wp_ret ?_;injection hM with hM;subst hM;refine aG hS Tryz.results134 (aw hS rfl aF) ?_;subst ho;obtain⟨rfl,hix⟩:=EO (Nat.le_of_succ_le (by have:=E1 (R:=HR au) hS 0 rfl 0 rfl; simpa [w4] using this)) X;have hZ:=hS.meet (G':=[]) (D':=[.own I 150 au.size t,.own C 31 ac.size z,.own D 9 aR.str.size A]) (F':=[an (HR au) t (w4 G [al j.Key.Kind,aZ j.Key.Text,.bool j.Running,al j.At,C,D]),an ac z j.Reads,an aR.str A j.Answers]) [0,1,2] (by decide) trivial ⟨rfl,rfl,rfl,trivial⟩ ⟨⟨0,rfl⟩,⟨1,rfl⟩,⟨2,rfl⟩,trivial⟩;exact⟨_,_,_,_,_,by rw [yt hix]; exact hZ.get 0 rfl,hZ.get 1 rfl,hZ.get 2 rfl,hZ.dnew⟩
end
end Go.Proofs.YtdcojaccpnabkaaGreatDoor
