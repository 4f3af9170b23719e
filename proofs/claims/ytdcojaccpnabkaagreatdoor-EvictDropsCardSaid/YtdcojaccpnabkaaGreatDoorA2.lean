/- Texts of the proof, joined (2). -/
import Derived.Test.YtdcojaccpnabkaaGreatDoorA1
import Derived.Test.YtdcojaccpnabkaaGreatDoorA0
set_option linter.unusedVariables false
set_option linter.unusedSimpArgs false
set_option linter.unusedSectionVars false
namespace Go.Proofs.YtdcojaccpnabkaaGreatDoor
section
set_option maxRecDepth 100000
set_option maxHeartbeats 4000000
open Go.RowKit
noncomputable section
def qr (b:Bool):Option Bool:=some (b)
def l4 (b:Bool):Option Bool:=some (b)
def l5 (b:Int) (c:Int):Option Bool:=cond (decide ((0:Int)≤b)) (l4 (decide (b<c))) (l4 false)
def qL (b:LU) (e:Int) (g:dd) (c:Int):Option Bool:=cond g.Cell (cond (decide ((0:Int)≤c)) (qr (decide (c≤15))) (qr false)) ((ny b e).bind fun d=>(bg b e).bind fun f=>cond (!(f.Ring)) (l5 c d.1) (l5 c d.2))
theorem xw (T:Nat→Prop) (W0:World) (hT:TW T W0) (b:LU) (g:Int) (k:dd) (f:Int) (o:Value) (n:aD aw T W0 o b) (y:Bool) (hM:qL b g k f=some y):bc aQ No 112 [o,aj g,.agg (Kj k).toArray,aj f] W0 (fun v w'=>v = .bool y):=by
 refine en Tryz.func112 Tryz.ntmps112 hT fun a hS=>?_;replace hS:=hS.fS (aD.dn n);unfold qL at hM;refine al hS fun a hS=>?_;refine kb hS fun p t a w hk hS=>?_;refine al hS fun a hS=>?_;refine aA ?_;refine al hS fun a hS=>?_;rcases cd hM with⟨l,hM⟩|⟨l,hM⟩
 ·refine al hS fun a hS=>?_;refine aJ (J:=fun a w=>∃ (d:Bool),St W0 No T 39 [(8,.bool d)] [] [] a w∧qr d=some y) ?_ ?_
  ·exact fz
  rintro a w ⟨d,hS,hM⟩;unfold qr at hM;exact fz
 refine al hS fun a hS=>?_;obtain⟨x,i,hM⟩:=bd hM;refine kc hS MO (uW _ _ hS.dlt b g _ (hS.get 0 rfl) _ i) fun _ w hR a hk hA=>?_;obtain rfl:=hR;have hS:=bS hA;refine al hS fun a hS=>?_;refine aJ (J:=fun a w=>∃ (c:Int),St W0 No T 39 [(3,aj f),(10,aj c)] [] [] a w∧l5 f c=some y) ?_ ?_
 ·skip;refine al hS fun a hS=>?_;obtain⟨s,h,hM⟩:=bd hM;refine wl rfl (bD (R:=aw) hS w8 rV rfl rfl 0 rfl h rfl fun q u r m a hS=>?_);obtain⟨z,rfl,j⟩:=m;replace hS:=hS.fS j;exact fz
 rintro a w ⟨c,hS,hM⟩;unfold l5 at hM;refine aJ (J:=fun a w=>∃ (e:Bool),St W0 No T 39 [(8,.bool e)] [] [] a w∧l4 e=some y) ?_ ?_
 ·exact fz
 rintro a w ⟨e,hS,hM⟩;unfold l4 at hM;exact fz
def n7 (b:LU):Option Bool:=some (decide ((b.length:Int)≤24))
def n8 (b:Int):Option (Fl (Int) (Fl (Unit) Bool)):=some (.go (IntKind.i64.wrap (b+1)))
def dm (b:Int) (c:Bool):Option (Fl (Int) (Fl (Unit) Bool)):=cond c (some (.out (.out false))) (n8 b)
def gT (c:Int) (b:aR):Option (Fl (Int) (Fl (Unit) Bool)):=cond b.Ring (cond (b.Final != 5) (dm c true) (cond (decide (b.C<0)) (dm c true) (cond (decide ((65535:Int)<b.C)) (dm c true) (dm c false)))) (cond (decide (b.Final<1)) (dm c true) (cond (decide ((4:Int)<b.Final)) (dm c true) (cond (decide (b.C<0)) (dm c true) (dm c (decide ((999:Int)<b.C))))))
def eu (b:Int) (c:Bool):Option (Fl (Int) (Fl (Unit) Bool)):=cond c (some (.out (.out false))) (some (.go (IntKind.i64.wrap (b+1))))
def fo (d:LU) (f:Int) (e:aR) (b:Int):Option (Fl (Int) (Fl (Unit) Bool)):=cond (decide (b<(e.Asks.length:Int))) ((bg e.Asks b).bind fun c=>(qL d f c c.N).bind fun g=>cond (!(g)) (eu b true) (cond c.Pick (cond e.Ring (eu b true) (cond (b==0) (eu b true) ((qL d f c c.Else).bind fun h=>cond (!(h)) (eu b true) (eu b false)))) (eu b (c.Else != 0)))) (some (.out (.go ())))
def gU (b:LU) (c:Int):Option (Fl (Int) (Fl (Unit) Bool)):=cond (decide (c<(b.length:Int))) ((bg b c).bind fun d=>cond (decide ((6:Int)<(d.Asks.length:Int))) (some (.out (.out false))) ((loop (fun s:Int=>fo b c d s) 0).bind fun r=>Fl.el r (fun s=>gT c d) (fun y=>some (.out (.out y))))) (some (.out (.go ())))
def pH (b:LU):Option Bool:=(loop (fun s:Int=>gU b s) 0).bind fun r=>Fl.el r (fun s=>n7 b) (fun y=>some (y))
theorem Aj (T:Nat→Prop) (W0:World) (hT:TW T W0) (b:LU) (d:Value) (I:aD aw T W0 d b) (y:Bool) (hM:pH b=some y):bc aQ No 93 [d] W0 (fun v w'=>v = .bool y):=by
 refine en Tryz.func93 Tryz.ntmps93 hT fun a hS=>?_;replace hS:=hS.fS (aD.dn I);unfold pH at hM;refine al hS fun a hS=>?_;refine aJ (J:=fun a w=>St W0 No T 111 [(0,d)] [] [aK aw d b] a w∧n7 b=some y) ?_ ?_
 ·skip;refine al hS fun a hS=>?_;obtain⟨Y,G,hMo1⟩:=bd hM;refine bB _ (fun s a w=>∃ (c:Int),c=s∧St W0 No T 111 [(0,d),(7,d),(8,aj (b.length:Int)),(9,aj c)] [] [aK aw d b] a w) G ⟨_,rfl,hS.mt [] [0]⟩ ?_;rintro s a w m ⟨c,rfl,hS⟩ hM hf1;have hM:gU b c=some m:=hM;unfold gU at hM;refine al hS fun a hS=>?_;refine aA ?_;rcases cd hM with⟨t,hM⟩|⟨t,hM⟩
  ·refine al hS fun a hS=>?_;refine aJ (J:=fun a w=>St W0 No T 111 [(0,d),(7,d),(8,aj (b.length:Int)),(9,aj c)] [] [aK aw d b] a w∧n8 c=some m) ?_ ?_
   ·skip;refine al hS fun a hS=>?_;obtain⟨e,n,hM⟩:=bd hM;refine wl rfl (bD (R:=aw) hS w8 rV rfl rfl 0 rfl n rfl fun K U O u a hS=>?_);obtain⟨f,rfl,r⟩:=u;replace hS:=hS.fS r;refine al hS fun a hS=>?_;refine ka hS tz fun g Q a w hk hS=>?_;refine go hS fun a w hS=>?_;refine aA ?_;refine al hS fun a hS=>?_;rcases cd hM with⟨x,hM⟩|⟨x,hM⟩
    ·exact fz
    refine al hS fun a hS=>?_;refine aJ (J:=fun a w=>St W0 No T 111 [(0,d),(4,pt g 0),(7,d),(8,aj (b.length:Int)),(9,aj c)] [.box g (uO e f) 115] [aK aw d b,aK eU f e.Asks] a w∧gT c e=some m) ?_ ?_
    ·skip;refine al hS fun a hS=>?_;obtain⟨Z,H,hMo2⟩:=bd hM;refine bB _ (fun s a w=>∃ (h:Int),h=s∧St W0 No T 111 [(0,d),(3,aj c),(4,pt g 0),(7,d),(8,aj (b.length:Int)),(9,aj c),(19,f),(20,aj (e.Asks.length:Int)),(21,aj h)] [.box g (uO e f) 115] [aK aw d b,aK eU f e.Asks] a w) H ⟨_,rfl,hS.mt [0] [2,0]⟩ ?_;rintro s a w F ⟨h,rfl,hS⟩ hM hf2;have hM:fo b c e h=some F:=hM;unfold fo at hM;refine al hS fun a hS=>?_;refine aA ?_;rcases cd hM with⟨z,hM⟩|⟨z,hM⟩
     ·refine al hS fun a hS=>?_;refine aA ?_;refine al hS fun a hS=>?_;obtain⟨i,o,hM⟩:=bd hM;refine wl rfl (bD (R:=eU) hS Hz HL rfl rfl 1 rfl o rfl fun L V P A a hS=>?_);obtain rfl:=A;refine al hS fun a hS=>?_;refine ka hS zS fun M S a w hk hS=>?_;refine go hS fun a w hS=>?_;refine aJ (J:=fun a w=>∃ (k:Bool),St W0 No T 111 [(0,d),(3,aj c),(4,pt g 0),(7,d),(8,aj (b.length:Int)),(9,aj c),(19,f),(20,aj (e.Asks.length:Int)),(21,aj h),(63,.bool k)] [.box g (uO e f) 115] [aK aw d b,aK eU f e.Asks] a w∧eu h k=some F) ?_ ?_
      ·skip;refine al hS fun a hS=>?_;obtain⟨W,p,hM⟩:=bd hM;refine kc hS JB (xw _ _ hS.dlt b c i i.N _ (hS.get 1 rfl) _ p) fun _ w hR a hk hA=>?_;obtain rfl:=hR;have hS:=bS hA;refine al hS fun a hS=>?_;rcases cd hM with⟨B,hM⟩|⟨B,hM⟩
       ·exact fz
       refine al hS fun a hS=>?_;rcases cd hM with⟨C,hM⟩|⟨C,hM⟩
       ·refine al hS fun a hS=>?_;rcases cd hM with⟨D,hM⟩|⟨D,hM⟩
        ·exact fz
        refine al hS fun a hS=>?_;rcases cd hM with⟨l,hM⟩|⟨l,hM⟩
        ·exact fz
        refine al hS fun a hS=>?_;obtain⟨X,q,hM⟩:=bd hM;refine wg hS rfl rfl rfl l (be hS JB rfl rfl (xw _ _ hS.dlt b c i i.Else _ (hS.get 1 rfl) _ q) fun _ w hR a hk hA=>?_);obtain rfl:=hR;have hS:=bS hA;exact fz
       exact fz
      rintro a w ⟨k,hS,hM⟩;unfold eu at hM;rcases cd hM with⟨E,hM⟩|⟨E,hM⟩
      ·refine al hS fun a hS=>?_;cases hM
       have hr:=hf2 _ rfl;subst hr;replace hMo2:=iq hMo2;have hM:=hMo2;cases hM
       have hr:=hf1 _ rfl;subst hr;replace hMo1:=iq hMo1;have hM:=hMo1;cases hM
       refine aH hS rfl (az hS rfl aF) ?_;exact rfl
      exact fz
     exact fz
    rintro a w ⟨hS,hM⟩;unfold gT at hM;refine aJ (J:=fun a w=>∃ (j:Bool),St W0 No T 111 [(0,d),(7,d),(8,aj (b.length:Int)),(9,aj c),(106,.bool j)] [] [aK aw d b] a w∧dm c j=some m) ?_ ?_
    ·exact fz
    rintro a w ⟨j,hS,hM⟩;unfold dm at hM;exact fz
   rintro a w ⟨hS,hM⟩;unfold n8 at hM;exact fz
  exact fz
 rintro a w ⟨hS,hM⟩;unfold n7 at hM;exact fz
def pG (c:ByteArray) (b:Int):Option ah:=some ((ah.mk b c))
def lp (c:LU) (b:Int):Option ah:=cond (decide (b<0)) (some ((ah.mk 0 cr))) (cond (decide ((c.length:Int)≤b)) (some ((ah.mk 0 cr))) (cond (decide ((99:Int)<b)) (some ((ah.mk 0 cr))) ((vY b).bind fun d=>(bg c b).bind fun e=>cond e.Ring (pG d 32) (pG d 31))))
theorem oN (T:Nat→Prop) (W0:World) (hT:TW T W0) (hLv:dx T W0) (c:LU) (g:Int) (p:Value) (o:aD aw T W0 p c) (y:ah) (hM:lp c g=some y):bc aQ No 92 [p,aj g] W0 (fun v w'=>v = .agg (aX y).toArray):=by
 refine en Tryz.func92 Tryz.ntmps92 hT fun a hS=>?_;replace hS:=(hS.fact bu (dx.dn hLv)).fS (aD.dn o);unfold lp at hM;refine al hS fun a hS=>?_;refine ka hS gl fun e t a w hk hS=>?_;refine al hS fun a hS=>?_;refine aA ?_;refine i1 ?_;refine al hS fun a hS=>?_;rcases cd hM with⟨k,hM⟩|⟨k,hM⟩
 ·refine al hS fun a hS=>?_;refine qy hS (bE (ps:=[]) hS BH gl rfl (us:=[]) trivial (ws:=[aj 0,a8 cr]) rfl) fun a hS=>?_;refine go hS fun a w hS=>?_;cases hM
  refine aH hS rfl (rC 0 hS) ?_;exact rfl
 refine al hS fun a hS=>?_;rcases cd hM with⟨l,hM⟩|⟨l,hM⟩
 ·refine al hS fun a hS=>?_;refine qy hS (bE (ps:=[]) hS BH gl rfl (us:=[]) trivial (ws:=[aj 0,a8 cr]) rfl) fun a hS=>?_;refine go hS fun a w hS=>?_;cases hM
  refine aH hS rfl (rC 0 hS) ?_;exact rfl
 refine al hS fun a hS=>?_;rcases cd hM with⟨m,hM⟩|⟨m,hM⟩
 ·refine al hS fun a hS=>?_;refine qy hS (bE (ps:=[]) hS BH gl rfl (us:=[]) trivial (ws:=[aj 0,a8 cr]) rfl) fun a hS=>?_;refine go hS fun a w hS=>?_;cases hM
  refine aH hS rfl (rC 0 hS) ?_;exact rfl
 refine al hS fun a hS=>?_;obtain⟨b,i,hM⟩:=bd hM;refine kc hS Ep (xX _ _ hS.dlt (hS.get 1 rfl) g _ i) fun _ w hR a hk hA=>?_;obtain rfl:=hR;have hS:=bS hA;refine qy hS (bE (ps:=[(0,.const (aj 31)),(1,.tmp 20)]) hS BH gl rfl (us:=[[aj 31],[a8 b]]) ⟨rfl,⟨rfl,trivial⟩⟩ (ws:=[aj 31,a8 b]) rfl) fun a hS=>?_;refine ka hS gl fun f u a w hk hS=>?_;refine go hS fun a w hS=>?_;refine aJ (J:=fun a w=>∃ (d:Int),St W0 No T 29 [(4,pt e 0),(5,pt f 0)] [.box e [aj 0,a8 cr] 31,.box f [aj d,a8 b] 31] [bu] a w∧pG b d=some y) ?_ ?_
 ·skip;refine al hS fun a hS=>?_;obtain⟨s,h,hM⟩:=bd hM;refine wl rfl (bD (R:=aw) hS w8 rV rfl rfl 0 rfl h rfl fun q x r n a hS=>?_);obtain⟨z,rfl,j⟩:=n;replace hS:=hS.fS j;exact fz
 rintro a w ⟨d,hS,hM⟩;unfold pG at hM;refine go hS fun a w hS=>?_;cases hM
 refine aH hS rfl (rC 0 hS) ?_;exact rfl
def fx (b:Bool):Option Bool:=some (b)
def nB (c:LU) (b:ah):Option Bool:=(cW b).bind fun f=>cond f (cond (b.Kind != 31) (cond (b.Kind != 32) (fx true) ((iE b).bind fun g=>(lp c g).bind fun d=>fx (d.Kind==b.Kind&&d.Text.toList==b.Text.toList))) ((iE b).bind fun h=>(lp c h).bind fun e=>fx (e.Kind==b.Kind&&e.Text.toList==b.Text.toList))) (fx false)
theorem uZ (T:Nat→Prop) (W0:World) (hT:TW T W0) (hLv:dx T W0) (c:LU) (b:ah) (s:Value) (r:aD aw T W0 s c) (y:Bool) (hM:nB c b=some y):bc aQ No 94 [s,.agg (aX b).toArray] W0 (fun v w'=>v = .bool y):=by
 refine en Tryz.func94 Tryz.ntmps94 hT fun a hS=>?_;replace hS:=(hS.fact bu (dx.dn hLv)).fS (aD.dn r);unfold nB at hM;refine al hS fun a hS=>?_;refine kb hS fun t u a w hk hS=>?_;refine al hS fun a hS=>?_;refine aJ (J:=fun a w=>∃ (e:Bool),St W0 No T 25 [(4,.bool e)] [] [bu] a w∧fx e=some y) ?_ ?_
 ·skip;refine dr [] hS fun w hQ hS=>?_;refine gE [0] hS fun a hS=>?_;obtain⟨x,h,hM⟩:=bd hM;refine ec 1 hS Gm (my _ _ hS.dlt b _ h) fun _ w hR a hk hA=>?_;obtain rfl:=hR;have hS:=bS hA;refine gE [2] hS fun a hS=>?_;rcases cd hM with⟨n,hM⟩|⟨n,hM⟩
  ·refine gE [3,4,5,6] hS fun a hS=>?_;rcases cd hM with⟨o,hM⟩|⟨o,hM⟩
   ·refine gE [7,8,9,10,11] hS fun a hS=>?_;rcases cd hM with⟨d,hM⟩|⟨d,hM⟩
    ·refine gE [12,13,14,15,16,17,18,19,20] hS fun a hS=>?_;refine eD ?_;exact⟨_,hS.mt [] [1],hM⟩
    refine gE [12,13,16] hS fun a hS=>?_;obtain⟨p,j,hM⟩:=bd hM;refine bV (i:=14) rfl (by kernel_rfl) hS rfl rfl rfl d (be hS Ih rfl rfl (n5 _ _ hS.dlt b _ j) fun _ w hR a hk hA=>⟨eS (hk),?_⟩);obtain rfl:=hR;have hS:=bS hA;obtain⟨f,k,hM⟩:=bd hM;refine bV (i:=15) rfl (by kernel_rfl) hS rfl rfl rfl d (be hS Fm rfl rfl (oN _ _ hS.dlt (hS.get 1 rfl) c p _ (hS.get 0 rfl) _ k) fun _ w hR a hk hA=>⟨eS (hk),?_⟩);obtain rfl:=hR;have hS:=bS hA;refine yG 17 (v:=.bool (f.Kind==b.Kind&&f.Text.toList==b.Text.toList)) rfl (by kernel_rfl) (by kernel_rfl) (by kernel_rfl) rfl hQ hS (z7 hS rfl rfl) rfl rfl rfl d rfl rfl fun a hS=>?_;refine gE [18,19,20] hS fun a hS=>?_;refine eD ?_;exact⟨_,hS.mt [] [1],hM⟩
   refine gE [7,8,9,10,11,12,13,16] hS fun a hS=>?_;obtain⟨q,l,hM⟩:=bd hM;refine bV (i:=14) rfl (by kernel_rfl) hS rfl rfl rfl rfl (be hS Ih rfl rfl (n5 _ _ hS.dlt b _ l) fun _ w hR a hk hA=>⟨eS (hk),?_⟩);obtain rfl:=hR;have hS:=bS hA;obtain⟨g,m,hM⟩:=bd hM;refine bV (i:=15) rfl (by kernel_rfl) hS rfl rfl rfl rfl (be hS Fm rfl rfl (oN _ _ hS.dlt (hS.get 1 rfl) c q _ (hS.get 0 rfl) _ m) fun _ w hR a hk hA=>⟨eS (hk),?_⟩);obtain rfl:=hR;have hS:=bS hA;refine yG 17 (v:=.bool (g.Kind==b.Kind&&g.Text.toList==b.Text.toList)) rfl (by kernel_rfl) (by kernel_rfl) (by kernel_rfl) rfl hQ hS (z7 hS rfl rfl) rfl rfl rfl rfl rfl rfl fun a hS=>?_;refine gE [18,19,20] hS fun a hS=>?_;refine eD ?_;exact⟨_,hS.mt [] [1],hM⟩
  refine gE [3,4,5,6,7,8,9,10,11,12,13,14,15,16,17,18,19,20] hS fun a hS=>?_;refine eD ?_;exact⟨_,hS.mt [] [1],hM⟩
 rintro a w ⟨e,hS,hM⟩;unfold fx at hM;exact fz
def ru:Option Int:=some (0)
def lE (d:LU) (b:LK) (c:Int):Option (Fl (Int) (Fl (Unit) Int)):=cond (decide (c<(b.length:Int))) ((bg b c).bind fun e=>(nB d e).bind fun f=>cond (!(f)) (some (.out (.out 40))) (some (.go (IntKind.i64.wrap (c+1))))) (some (.out (.go ())))
def lD (c:LU) (f:am) (b:LK):Option Int:=(pH c).bind fun d=>cond (!(d)) (some (41)) ((fw f).bind fun e=>cond (!(e)) (some (42)) (cond (decide ((32:Int)<(b.length:Int))) (some (3)) ((loop (fun s:Int=>lE c b s) 0).bind fun r=>Fl.el r (fun s=>ru) (fun y=>some (y)))))
theorem sd (T:Nat→Prop) (W0:World) (hT:TW T W0) (hLv:dx T W0) (b:LU) (e:am) (c:LK) (j:Value) (A:Value) (B:Value) (k:Value) (t:aD aw T W0 j b) (u:aD ad T W0 A e.Inputs) (x:aD aa T W0 B e.Records) (z:aD ac T W0 k c) (y:Int) (hM:lD b e c=some y):bc aQ No 61 [j,.agg (aY e A B).toArray,k] W0 (fun v w'=>v=aj y):=by
 refine en Tryz.func61 Tryz.ntmps61 hT fun a hS=>?_;replace hS:=((((hS.fact bu (dx.dn hLv)).fS (aD.dn t)).fS (aD.dn u)).fS (aD.dn x)).fS (aD.dn z);unfold lD at hM;refine al hS fun a hS=>?_;refine kb hS fun C H a w hk hS=>?_;refine al hS fun a hS=>?_;refine aA ?_;refine al hS fun a hS=>?_;obtain⟨M,h,hM⟩:=bd hM;refine kc hS Ol (Aj _ _ hS.dlt b _ (hS.get 3 rfl) _ h) fun _ w hR a hk hA=>?_;obtain rfl:=hR;have hS:=bS hA;refine al hS fun a hS=>?_;rcases cd hM with⟨m,hM⟩|⟨m,hM⟩
 ·exact fz
 refine al hS fun a hS=>?_;obtain⟨N,i,hM⟩:=bd hM;refine kc hS Ic (pn _ _ hS.dlt (hS.get 4 rfl) e _ _ (hS.get 2 rfl) (hS.get 1 rfl) _ i) fun _ w hR a hk hA=>?_;obtain rfl:=hR;have hS:=bS hA;refine al hS fun a hS=>?_;rcases cd hM with⟨n,hM⟩|⟨n,hM⟩
 ·exact fz
 refine al hS fun a hS=>?_;rcases cd hM with⟨o,hM⟩|⟨o,hM⟩
 ·exact fz
 refine al hS fun a hS=>?_;refine aJ (J:=fun a w=>St W0 No T 32 [] [] [bu] a w∧ru=some y) ?_ ?_
 ·skip;refine al hS fun a hS=>?_;obtain⟨O,r,hMo1⟩:=bd hM;refine bB _ (fun s a w=>∃ (d:Int),d=s∧St W0 No T 32 [(0,j),(21,k),(22,aj (c.length:Int)),(23,aj d)] [] [aK aw j b,aK ac k c,bu] a w) r ⟨_,rfl,hS.mt [] [3,0,4]⟩ ?_;rintro s a w G ⟨d,rfl,hS⟩ hM hf1;have hM:lE b c d=some G:=hM;unfold lE at hM;refine al hS fun a hS=>?_;refine aA ?_;rcases cd hM with⟨p,hM⟩|⟨p,hM⟩
  ·refine al hS fun a hS=>?_;refine aA ?_;refine al hS fun a hS=>?_;obtain⟨l,f,hM⟩:=bd hM;refine wl rfl (bD (R:=ac) hS mM e7 rfl rfl 1 rfl f rfl fun D K F q a hS=>?_);obtain rfl:=q;refine al hS fun a hS=>?_;refine ka hS gl fun E I a w hk hS=>?_;refine go hS fun a w hS=>?_;obtain⟨L,g,hM⟩:=bd hM;refine kc hS MQ (uZ _ _ hS.dlt (hS.get 3 rfl) b l _ (hS.get 1 rfl) _ g) fun _ w hR a hk hA=>?_;obtain rfl:=hR;have hS:=bS hA;exact fz
  exact fz
 rintro a w ⟨hS,hM⟩;unfold ru at hM;exact fz
def kh (b:LU):Option LU:=some (b)
def g9 (e:LU) (d:LU) (c:Int):Option (Fl (LU×Int) (LU)):=cond (decide (c<(e.length:Int))) ((bg e c).bind fun b=>gd (bT (([]:List dd).length+b.Asks.length)) <| gd (bT (d.length+([(aR.mk b.Ring (([]:List dd)++b.Asks) b.Final b.C)]).length)) <| some (.go ((d++([(aR.mk b.Ring (([]:List dd)++b.Asks) b.Final b.C)])),IntKind.i64.wrap (c+1)))) (some (.out d))
def kF (b:LU):Option LU:=(loop (fun s:LU×Int=>g9 b s.1 s.2) (([]:List aR),0)).bind fun r=>kh r
theorem wz (T:Nat→Prop) (W0:World) (hT:TW T W0) (g:LU) (o:Value) (A:aD aw T W0 o g) (y:LU) (hM:kF g=some y):bc aQ No 133 [o] W0 (fun v w'=>∃ (u:Value) (jT:bh),v=u∧ip aw T W0 w' [bU u jT] 115 u jT y):=by
 refine en Tryz.func133 Tryz.ntmps133 hT fun a hS=>?_;replace hS:=hS.fS (aD.dn A);unfold kF at hM;refine al hS fun a hS=>?_;refine aJ (J:=fun a w=>∃ (j:LU) (f:Value) (d:LV),St W0 No T 22 [(3,f)] [bU f d] [ao aw d j] a w∧kh j=some y) ?_ ?_
 ·skip;refine al hS fun a hS=>?_;replace hS:=hS.nilRow aw 115 (by decide);obtain⟨O,z,hMo1⟩:=bd hM;refine bB _ (fun s a w=>∃ (c:LU) (e:Int) (k:Value) (h:LV),(c,e)=s∧St W0 No T 22 [(3,k),(6,o),(7,aj (g.length:Int)),(8,aj e)] [bU k h] [ao aw h c,aK aw o g] a w) z ⟨_,_,_,_,rfl,hS.mt [0] [0,1]⟩ ?_;rintro s a w I ⟨c,e,k,h,rfl,hS⟩ hM hf1;have hM:g9 g c e=some I:=hM;unfold g9 at hM;refine al hS fun a hS=>?_;refine aA ?_;rcases cd hM with⟨p,hM⟩|⟨p,hM⟩
  ·refine al hS fun a hS=>?_;refine aA ?_;refine al hS fun a hS=>?_;obtain⟨b,m,hM⟩:=bd hM;refine wl rfl (bD (R:=aw) hS w8 rV rfl rfl 1 rfl m rfl fun B L F q a hS=>?_);obtain⟨M,rfl,n⟩:=q;replace hS:=hS.fS n;refine al hS fun a hS=>?_;refine ka hS tz fun D K a w hk hS=>?_;refine go hS fun a w hS=>?_;replace hS:=hS.nilRow eU 119 (by decide);obtain⟨r,hM⟩:=bo hM;refine wl rfl (bM (R:=eU) (xs:=([]:List dd)) (ys:=b.Asks) hS Gx (by decide) (by decide) rfl rfl 0 rfl 0 rfl 1 rfl r rfl fun l G a w hk hS=>?_);refine go hS fun a w hS=>?_;refine wl rfl (bf (ps:=[(0,.tmp 17)]) hS Il tz (zl:=[.bool false,.slice none 0 0,aj 0,aj 0]) (by kernel_rfl) rfl (us:=[(uO b l)]) ⟨rfl,trivial⟩ (ws:=(uO b l)) rfl rfl rfl rfl fun E a w hk hS=>?_);replace hS:=hS.freeze (R:=eU) 1 rfl 0 rfl;replace hS:=(hS.lit (R:=aw) (us:=(uO b l)) (xs:=[(aR.mk b.Ring (([]:List dd)++b.Asks) b.Final b.C)]) 0 rfl (by decide) (aB.one_ (R:=aw) (x:=(aR.mk b.Ring (([]:List dd)++b.Asks) b.Final b.C)) (⟨_,rfl,(hS.get 0 rfl)⟩)) rfl rfl).freeze (R:=aw) 0 rfl 0 rfl;obtain⟨t,hM⟩:=bo hM;refine wl rfl (bM (R:=aw) (xs:=c) (ys:=[(aR.mk b.Ring (([]:List dd)++b.Asks) b.Final b.C)]) hS Il (by decide) (by decide) rfl rfl 1 rfl 7 rfl 0 rfl t rfl fun N H a w hk hS=>?_);exact fz
  exact fz
 rintro a w ⟨j,f,d,hS,hM⟩;unfold kh at hM;refine al hS fun a hS=>?_;cases hM
 refine aH hS rfl (az hS rfl aF) ?_;exact⟨f,d,rfl,hS.retOwn ⟨.inr (aG (i:=0) rfl),trivial⟩ 0 rfl 0 rfl⟩
def cL (b:LF):Option LF:=some (b)
def bR (e:LF) (d:LF) (c:Int):Option (Fl (LF×Int) (LF)):=cond (decide (c<(e.length:Int))) ((bg e c).bind fun b=>gd (bT (([]:List ah).length+b.Reads.length)) <| gd (bT (([]:List ByteArray).length+b.Answers.length)) <| gd (bT (d.length+([(bv.mk b.Key b.Running b.At (([]:List ah)++b.Reads) (([]:List ByteArray)++b.Answers))]).length)) <| some (.go ((d++([(bv.mk b.Key b.Running b.At (([]:List ah)++b.Reads) (([]:List ByteArray)++b.Answers))])),IntKind.i64.wrap (c+1)))) (some (.out d))
def dW (b:LF):Option LF:=(loop (fun s:LF×Int=>bR b s.1 s.2) (([]:List bv),0)).bind fun r=>cL r
theorem vx (T:Nat→Prop) (W0:World) (hT:TW T W0) (g:LF) (u:Value) (G:aD ax T W0 u g) (y:LF) (hM:dW g=some y):bc aQ No 134 [u] W0 (fun v w'=>∃ (E:Value) (jT:bh),v=E∧ip ax T W0 w' [dC E jT] 150 E jT y):=by
 refine en Tryz.func134 Tryz.ntmps134 hT fun a hS=>?_;replace hS:=hS.fS (aD.dn G);unfold dW at hM;refine al hS fun a hS=>?_;refine aJ (J:=fun a w=>∃ (j:LF) (f:Value) (d:LV),St W0 No T 26 [(3,f)] [dC f d] [ao ax d j] a w∧cL j=some y) ?_ ?_
 ·skip;refine al hS fun a hS=>?_;replace hS:=hS.nilRow ax 150 (by decide);obtain⟨V,F,hMo1⟩:=bd hM;refine bB _ (fun s a w=>∃ (c:LF) (e:Int) (k:Value) (h:LV),(c,e)=s∧St W0 No T 26 [(3,k),(6,u),(7,aj (g.length:Int)),(8,aj e)] [dC k h] [ao ax h c,aK ax u g] a w) F ⟨_,_,_,_,rfl,hS.mt [0] [0,1]⟩ ?_;rintro s a w O ⟨c,e,k,h,rfl,hS⟩ hM hf1;have hM:bR g c e=some O:=hM;unfold bR at hM;refine al hS fun a hS=>?_;refine aA ?_;rcases cd hM with⟨z,hM⟩|⟨z,hM⟩
  ·refine al hS fun a hS=>?_;refine aA ?_;refine al hS fun a hS=>?_;obtain⟨b,q,hM⟩:=bd hM;refine wl rfl (bD (R:=ax) hS tY ua rfl rfl 1 rfl q rfl fun H Q K A a hS=>?_);obtain⟨S,p,rfl,r,t⟩:=A;replace hS:=(hS.fS r).fS t;refine al hS fun a hS=>?_;refine ka hS sM fun o P a w hk hS=>?_;refine go hS fun a w hS=>?_;refine aA ?_;replace hS:=(hS.nilRow ac 31 (by decide)).nilRow aS.str 9 (by decide);refine dr [(2,.blk (Value.ownBlock (.slice none 0 0))),(5,.blk (Value.ownBlock (.slice none 0 0))),(7,.blk (some o)),(9,.blk (some o))] hS fun w hQ hS=>?_;refine gE [0,1,3] hS fun a hS=>?_;refine dy (l:=[.blk (Value.ownBlock (.slice none 0 0))]) 4 (v:=p) rfl (by kernel_rfl) (by kernel_rfl) (by kernel_rfl) (by kernel_rfl) hQ hS (dQ hS rfl zA 2 rfl (iZ hS 2 rfl rfl 0 rfl rfl (by decide) br) (us:=[p]) rfl rfl (fun _=>rfl)) rfl rfl rfl fun a hS=>?_;obtain⟨B,hM⟩:=bo hM;refine e1 2 (bM (R:=ac) (xs:=([]:List ah)) (ys:=b.Reads) hS gf (by decide) (by decide) rfl rfl 1 rfl 1 rfl 3 rfl B rfl fun m L a w hk hS=>⟨jl rfl hk im,?_⟩);refine gE [6] hS fun a hS=>?_;obtain⟨C,hM⟩:=bo hM;refine e1 5 (bM (R:=aS.str) (xs:=([]:List ByteArray)) (ys:=b.Answers) hS tG (by decide) (by decide) rfl rfl 0 rfl 1 rfl 3 rfl C rfl fun n M a w hk hS=>⟨jl rfl hk im,?_⟩);refine es 7 hS fun w hS=>?_;refine gE [8] hS fun a hS=>?_;refine es 9 hS fun w hS=>?_;refine eD ?_;refine al hS fun a hS=>?_;refine wl rfl (bf (ps:=[(0,.tmp 21)]) hS vV sM (zl:=[aj 0,a8 cr,.bool false,aj 0,.slice none 0 0,.slice none 0 0]) (by kernel_rfl) rfl (us:=[(mg b m n)]) ⟨rfl,trivial⟩ (ws:=(mg b m n)) rfl rfl rfl rfl fun I a w hk hS=>?_);replace hS:=(hS.freeze (R:=ac) 2 rfl 1 rfl).freeze (R:=aS.str) 1 rfl 1 rfl;replace hS:=(hS.lit (R:=ax) (us:=(mg b m n)) (xs:=[(bv.mk b.Key b.Running b.At (([]:List ah)++b.Reads) (([]:List ByteArray)++b.Answers))]) 0 rfl (by decide) (aB.one_ (R:=ax) (x:=(bv.mk b.Key b.Running b.At (([]:List ah)++b.Reads) (([]:List ByteArray)++b.Answers))) (⟨_,_,rfl,(hS.get 1 rfl),(hS.get 0 rfl)⟩)) rfl rfl).freeze (R:=ax) 0 rfl 0 rfl;obtain⟨D,hM⟩:=bo hM;refine wl rfl (bM (R:=ax) (xs:=c) (ys:=[(bv.mk b.Key b.Running b.At (([]:List ah)++b.Reads) (([]:List ByteArray)++b.Answers))]) hS vV (by decide) (by decide) rfl rfl 1 rfl 11 rfl 0 rfl D rfl fun U N a w hk hS=>?_);exact fz
  exact fz
 rintro a w ⟨j,f,d,hS,hM⟩;unfold cL at hM;refine al hS fun a hS=>?_;cases hM
 refine aH hS rfl (az hS rfl aF) ?_;exact⟨f,d,rfl,hS.retOwn ⟨.inr (aG (i:=0) rfl),trivial⟩ 0 rfl 0 rfl⟩
def nn (b:de):Option de:=(kF b.Rules).bind fun c=>(eA b.Base).bind fun d=>gd (bT (([]:List ah).length+b.Goals.length)) <| (dW b.Stack).bind fun e=>gd (bT (([]:List ah).length+b.Ran.length)) <| some ((de.mk c d (([]:List ah)++b.Goals) e (([]:List ah)++b.Ran)))
theorem tb (T:Nat→Prop) (W0:World) (hT:TW T W0) (b:de) (Z:Value) (v2:Value) (v3:Value) (v4:Value) (F:Value) (G:Value) (hD:vL T W0 []) (S:aD aw (dT T []) W0 Z b.Rules) (U:aD ad (dT T []) W0 v2 b.Base.Inputs) (V:aD aa (dT T []) W0 v3 b.Base.Records) (W:aD ac (dT T []) W0 v4 b.Goals) (X:aD ax (dT T []) W0 F b.Stack) (Y:aD ac (dT T []) W0 G b.Ran) (y:de) (hM:nn b=some y):bc aQ (MD []) 108 [.agg (uP b Z v2 v3 v4 F G).toArray] W0 (fun v w'=>∃ (s:Value) (yt:bh) (t:Value) (qR:bh) (g:Value) (sS:bh) (h:Value) (d:bh) (j:Value) (e:bh) (k:Value) (f:bh),v = .agg (uP y s t g h j k).toArray∧aB aw (dT T [bU s yt,aT t qR,ae g sS,ay h d,dC j e,ay k f]) w' yt y.Rules∧aB ad (dT T [bU s yt,aT t qR,ae g sS,ay h d,dC j e,ay k f]) w' qR y.Base.Inputs∧aB aa (dT T [bU s yt,aT t qR,ae g sS,ay h d,dC j e,ay k f]) w' sS y.Base.Records∧aB ac (dT T [bU s yt,aT t qR,ae g sS,ay h d,dC j e,ay k f]) w' d y.Goals∧aB ax (dT T [bU s yt,aT t qR,ae g sS,ay h d,dC j e,ay k f]) w' e y.Stack∧aB ac (dT T [bU s yt,aT t qR,ae g sS,ay h d,dC j e,ay k f]) w' f y.Ran∧nO W0 w' [] [bU s yt,aT t qR,ae g sS,ay h d,dC j e,ay k f]):=by
 refine gg (c:=_) Tryz.func108 rfl T 19 Tryz.ntmps108 hT rfl hD fun a hS=>?_;replace hS:=(((((hS.fS S).fS U).fS V).fS W).fS X).fS Y;unfold nn at hM;refine al hS fun a hS=>?_;refine kb hS fun a3 a4 a w hk hS=>?_;refine ka hS ul fun H a5 a w hk hS=>?_;refine al hS fun a hS=>?_;refine aA ?_;replace hS:=(hS.nilRow ac 31 (by decide)).nilRow ac 31 (by decide);refine dr [(8,.blk (Value.ownBlock (.slice none 0 0))),(14,.blk (Value.ownBlock (.slice none 0 0))),(16,.blk (some H))] hS fun w hQ hS=>?_;refine gE [0,1,3,4,6,7,9] hS fun a hS=>?_;refine dy (l:=[.blk (Value.ownBlock (.slice none 0 0))]) 10 (v:=F) rfl (by kernel_rfl) (by kernel_rfl) (by kernel_rfl) (by kernel_rfl) hQ hS (dQ hS rfl JY 3 rfl (iZ hS 3 rfl rfl 0 rfl rfl (by decide) br) (us:=[F]) rfl rfl (fun _=>rfl)) rfl rfl rfl fun a hS=>?_;refine gE [12] hS fun a hS=>?_;refine dy (l:=[.blk (Value.ownBlock (.slice none 0 0))]) 13 (v:=G) rfl (by kernel_rfl) (by kernel_rfl) (by kernel_rfl) (by kernel_rfl) hQ hS (dQ hS rfl BS 3 rfl (iZ hS 3 rfl rfl 0 rfl rfl (by decide) br) (us:=[G]) rfl rfl (fun _=>rfl)) rfl rfl rfl fun a hS=>?_;obtain⟨a9,C,hM⟩:=bd hM;refine ec 2 hS Mp (wz _ _ hS.dlt b.Rules _ (hS.get 7 rfl) _ C) fun _ w hR a hk hA=>?_;obtain⟨m,I,he,x⟩:=hR;obtain rfl:=he.symm;have hS:=qe hA x;obtain⟨u,D,hM⟩:=bd hM;refine ec 5 hS yr (eB _ _ hS.dlt b.Base _ _ (hS.get 7 rfl) (hS.get 6 rfl) _ D) fun _ w hR a hk hA=>?_;obtain⟨n,J,o,K,he,z,A,Q⟩:=hR;obtain rfl:=he.symm;have hS:=Aw hA z A Q;obtain⟨O,hM⟩:=bo hM;refine e1 8 (bM (R:=ac) (xs:=([]:List ah)) (ys:=b.Goals) hS gf (by decide) (by decide) rfl rfl 4 rfl 3 rfl 7 rfl O rfl fun p L a w hk hS=>⟨jl rfl hk im,?_⟩);obtain⟨af,E,hM⟩:=bd hM;refine ec 11 hS JJ (vx _ _ hS.dlt b.Stack _ (hS.get 7 rfl) _ E) fun _ w hR a hk hA=>?_;obtain⟨q,M,he,B⟩:=hR;obtain rfl:=he.symm;have hS:=qe hA B;obtain⟨P,hM⟩:=bo hM;refine e1 14 (bM (R:=ac) (xs:=([]:List ah)) (ys:=b.Ran) hS gf (by decide) (by decide) rfl rfl 4 rfl 5 rfl 7 rfl P rfl fun r N a w hk hS=>⟨jl rfl hk im,?_⟩);refine dy 15 (v:=.agg #[m,aj u.Revision,n,o,p,q,r]) rfl (by kernel_rfl) (by kernel_rfl) (by kernel_rfl) rfl hQ hS (bE (ps:=[(0,.tmp 5),(1,.tmp 8),(2,.tmp 11),(3,.tmp 14),(4,.tmp 17)]) hS Hb ul rfl (us:=[[m],(aY u n o),[p],[q],[r]]) ⟨(lb (iD (hS.own _ (aG (i:=3) rfl)).1)),⟨rfl,⟨(lb (iD (hS.own _ (aG (i:=5) rfl)).1)),⟨(lb (iD (hS.own _ (aG (i:=0) rfl)).1)),⟨(lb (iD (hS.own _ (aG (i:=4) rfl)).1)),trivial⟩⟩⟩⟩⟩ (ws:=[m,aj u.Revision,n,o,p,q,r]) rfl) rfl rfl rfl fun a hS=>?_;refine es 16 hS fun w hS=>?_;refine eD ?_;refine al hS fun a hS=>?_;cases hM
 refine aH hS rfl (rC 6 hS) ?_;have hZ:=hS.sl [3,1,2,5,0,4] [5,4,3,2,1,0];exact⟨m,I,n,J,o,K,p,L,q,M,r,N,rfl,(hZ.get 0 rfl),(hZ.get 1 rfl),(hZ.get 2 rfl),(hZ.get 3 rfl),(hZ.get 4 rfl),(hZ.get 5 rfl),hZ.dnew⟩
def pL (c:LU) (e:am) (b:LK):Option (de×Int):=(lD c e b).bind fun d=>cond (d != 0) (some (((de.mk ([]:List aR) (am.mk 0 ([]:List aZ) ([]:List ab)) ([]:List ah) ([]:List bv) ([]:List ah)),d))) ((nn (de.mk c e b ([]) ([]))).bind fun f=>some ((f,0)))
theorem se (T:Nat→Prop) (W0:World) (hT:TW T W0) (f:LU) (g:am) (e:LK) (z:Value) (A:Value) (B:Value) (C:Value) (hD:vL T W0 []) (R:aD aw (dT T []) W0 z f) (S:aD ad (dT T []) W0 A g.Inputs) (U:aD aa (dT T []) W0 B g.Records) (V:aD ac (dT T []) W0 C e) (hLv:dx (dT T []) W0) (y:de×Int) (hM:pL f g e=some y):bc aQ (MD []) 86 [z,.agg (aY g A B).toArray,C] W0 (fun v w'=>∃ (l:Value) (vJ:bh) (m:Value) (yt:bh) (n:Value) (qR:bh) (i:Value) (sS:bh) (j:Value) (b:bh) (k:Value) (d:bh),v = .tuple #[.agg (uP y.1 l m n i j k).toArray,aj y.2]∧aB aw (dT T [bU l vJ,aT m yt,ae n qR,ay i sS,dC j b,ay k d]) w' vJ y.1.Rules∧aB ad (dT T [bU l vJ,aT m yt,ae n qR,ay i sS,dC j b,ay k d]) w' yt y.1.Base.Inputs∧aB aa (dT T [bU l vJ,aT m yt,ae n qR,ay i sS,dC j b,ay k d]) w' qR y.1.Base.Records∧aB ac (dT T [bU l vJ,aT m yt,ae n qR,ay i sS,dC j b,ay k d]) w' sS y.1.Goals∧aB ax (dT T [bU l vJ,aT m yt,ae n qR,ay i sS,dC j b,ay k d]) w' b y.1.Stack∧aB ac (dT T [bU l vJ,aT m yt,ae n qR,ay i sS,dC j b,ay k d]) w' d y.1.Ran∧nO W0 w' [] [bU l vJ,aT m yt,ae n qR,ay i sS,dC j b,ay k d]):=by
 refine gg (c:=_) Tryz.func86 rfl T 22 Tryz.ntmps86 hT rfl hD fun a hS=>?_;replace hS:=((((hS.fact bu hLv).fS R).fS S).fS U).fS V;unfold pL at hM;refine al hS fun a hS=>?_;refine kb hS fun W Y a w hk hS=>?_;refine ka hS ul fun X Z a w hk hS=>?_;refine al hS fun a hS=>?_;refine aA ?_;refine al hS fun a hS=>?_;obtain⟨a0,u,hM⟩:=bd hM;refine kc hS Kq (sd _ _ hS.dlt (hS.get 4 rfl) f g e _ _ _ _ (hS.get 3 rfl) (hS.get 2 rfl) (hS.get 1 rfl) (hS.get 0 rfl) _ u) fun _ w hR a hk hA=>?_;obtain rfl:=hR;have hS:=bS hA;refine al hS fun a hS=>?_;rcases cd hM with⟨J,hM⟩|⟨J,hM⟩
 ·refine al hS fun a hS=>?_;refine qy hS (bE (ps:=[]) hS Hb ul rfl (us:=[]) trivial (ws:=[.slice none 0 0,aj 0,.slice none 0 0,.slice none 0 0,.slice none 0 0,.slice none 0 0,.slice none 0 0]) rfl) fun a hS=>?_;refine go hS fun a w hS=>?_;replace hS:=(((((hS.nilRow aw 115 (by decide)).nilRow ad 75 (by decide)).nilRow aa 33 (by decide)).nilRow ac 31 (by decide)).nilRow ax 150 (by decide)).nilRow ac 31 (by decide);cases hM
  refine aH hS Tryz.results86 (bj hS rfl 6 rfl sI rfl (fun h=>by cases h) (az hS rfl aF)) ?_;have hZ:=hS.sl [5,4,3,2,1,0] [5,4,3,0,1];exact⟨(.slice none 0 0),[],(.slice none 0 0),[],(.slice none 0 0),[],(.slice none 0 0),[],(.slice none 0 0),[],(.slice none 0 0),[],rfl,(hZ.get 0 rfl),(hZ.get 1 rfl),(hZ.get 2 rfl),(hZ.get 3 rfl),(hZ.get 4 rfl),(hZ.get 3 rfl),hZ.dnew⟩
 refine al hS fun a hS=>?_;refine qy hS (bE (ps:=[(0,.tmp 17),(1,.tmp 18),(2,.tmp 19)]) hS Hb ul rfl (us:=[[z],(aY g A B),[C]]) ⟨(lb (aD.one ((hS.get 3 rfl):aD aw _ _ _ _))),⟨rfl,⟨(lb (aD.one ((hS.get 0 rfl):aD ac _ _ _ _))),trivial⟩⟩⟩ (ws:=[z,aj g.Revision,A,B,C,.slice none 0 0,.slice none 0 0]) rfl) fun a hS=>?_;replace hS:=(hS.fact (aK ax (.slice none 0 0) []) (aD.nil_ _ _ _)).fact (aK ac (.slice none 0 0) []) (aD.nil_ _ _ _);obtain⟨a1,x,hM⟩:=bd hM;replace hS:=hS.re [] [0,1];refine wl rfl (bC hS Gh rfl rfl (tb _ _ hS.dltD (de.mk f g e ([]) ([])) _ _ _ _ _ _ hS.dok (hS.getD 5 rfl) (hS.getD 4 rfl) (hS.getD 3 rfl) (hS.getD 2 rfl) (hS.getD 1 rfl) (hS.getD 0 rfl) _ x) fun _ w hR a hk hA=>?_);obtain⟨L,D,M,E,N,F,O,G,P,H,Q,I,he,o,p,q,r,s,t,K⟩:=hR;obtain rfl:=he.symm;have hS:=hA _ K;replace hS:=(((((hS.fR (o.keep (ai _ _) (au _))).fR (p.keep (ai _ _) (au _))).fR (q.keep (ai _ _) (au _))).fR (r.keep (ai _ _) (au _))).fR (s.keep (ai _ _) (au _))).fR (t.keep (ai _ _) (au _));refine go hS fun a w hS=>?_;cases hM
 refine aH hS Tryz.results86 (bj hS rfl 6 rfl sI rfl (fun h=>by cases h) (az hS rfl aF)) ?_;have hZ:=hS.sl [0,1,2,3,4,5] [5,4,3,2,1,0];exact⟨L,D,M,E,N,F,O,G,P,H,Q,I,rfl,(hZ.get 0 rfl),(hZ.get 1 rfl),(hZ.get 2 rfl),(hZ.get 3 rfl),(hZ.get 4 rfl),(hZ.get 5 rfl),hZ.dnew⟩
def sF (k:aW) (b:LU):Option (ah×aW):=(bJ k 8).bind fun c=>cond (c.1==1) ((bJ (aW.mk c.2.L c.2.At) 4).bind fun e=>(nj e.1).bind fun h=>some ((h,(aW.mk e.2.L e.2.At)))) ((bJ (aW.mk c.2.L c.2.At) 2).bind fun d=>cond (d.1==0) ((bJ (aW.mk d.2.L d.2.At) (min 3 (b.length:Int))).bind fun f=>(lp b (IntKind.i64.wrap ((IntKind.i64.wrap ((b.length:Int)-1))-f.1))).bind fun i=>some ((i,(aW.mk f.2.L f.2.At)))) ((bJ (aW.mk d.2.L d.2.At) (b.length:Int)).bind fun g=>(lp b g.1).bind fun j=>some ((j,(aW.mk g.2.L g.2.At)))))
theorem CT (T:Nat→Prop) (W0:World) (hT:TW T W0) (e:aW) (b:LU) (d:Value) (Q:Value) (h:Nat) (N:W0.heap[h]? = some (.cells (a6 e d).toArray 73 (0,0))) (M:¬ T h) (O:aD (aS.int .i64) (dT T [.box h (a6 e d) 73]) W0 d e.L) (P:aD aw (dT T [.box h (a6 e d) 73]) W0 Q b) (hLv:dx (dT T [.box h (a6 e d) 73]) W0) (y:ah×aW) (hM:sF e b=some y):bc aQ (fun k=>k=h) 60 [pt h 0,Q] W0 (fun v w'=>∃ (I:Value),v = .agg (aX y.1).toArray∧w'.heap[h]? = some (.cells (a6 y.2 I).toArray 73 (0,0))∧aD (aS.int .i64) (dT T [.box h (a6 y.2 I) 73]) w' I y.2.L∧d=I):=by
 refine rY (c:=_) Tryz.func60 rfl T 31 Tryz.ntmps60 hT rfl N M fun a hS=>?_;replace hS:=((hS.fact bu hLv).fS O).fS P;unfold sF at hM;refine al hS fun a hS=>?_;refine ka hS gl fun R S a w hk hS=>?_;refine al hS fun a hS=>?_;refine aA ?_;refine al hS fun a hS=>?_;obtain⟨f,A,hM⟩:=bd hM;refine wl rfl (cn hS lO rfl rfl 1 rfl (bn _ _ (hS.drop 1).dlt e 8 _ _ (hS.boxRow 1 rfl) (hS.notin 1 rfl) (aD.lent (i:=1) rfl (hS.get 1 rfl)) _ A) fun _ w hR hk=>?_);obtain⟨X,he,hrow,p,l⟩:=hR;obtain rfl:=he.symm;subst l;refine⟨(a6 f.2 d),hrow,fun a hS=>?_⟩;replace hS:=hS.fS (aD.back (i:=1) rfl p);refine al hS fun a hS=>?_;rcases cd hM with⟨J,hM⟩|⟨J,hM⟩
 ·refine al hS fun a hS=>?_;obtain⟨u,B,hM⟩:=bd hM;refine wl rfl (cn hS lO rfl rfl 1 rfl (bn _ _ (hS.drop 1).dlt (aW.mk f.2.L f.2.At) 4 _ _ (hS.boxRow 1 rfl) (hS.notin 1 rfl) (aD.lent (i:=1) rfl (hS.get 0 rfl)) _ B) fun _ w hR hk=>?_);obtain⟨Y,he,hrow,q,m⟩:=hR;obtain rfl:=he.symm;subst m;refine⟨(a6 u.2 d),hrow,fun a hS=>?_⟩;replace hS:=hS.fS (aD.back (i:=1) rfl q);obtain⟨U,C,hM⟩:=bd hM;refine kc hS Kw (s7 _ _ hS.dlt (hS.get 4 rfl) u.1 _ C) fun _ w hR a hk hA=>?_;obtain rfl:=hR;have hS:=bS hA;refine go hS fun a w hS=>?_;cases hM
  refine aH hS rfl (rC 0 hS) ?_;exact⟨d,rfl,hS.boxRow 1 rfl,(aD.up ⟨.inr (aG (i:=1) rfl),trivial⟩ (hS.get 0 rfl)),rfl⟩
 refine al hS fun a hS=>?_;refine aA ?_;refine al hS fun a hS=>?_;obtain⟨g,D,hM⟩:=bd hM;refine wl rfl (cn hS lO rfl rfl 1 rfl (bn _ _ (hS.drop 1).dlt (aW.mk f.2.L f.2.At) 2 _ _ (hS.boxRow 1 rfl) (hS.notin 1 rfl) (aD.lent (i:=1) rfl (hS.get 0 rfl)) _ D) fun _ w hR hk=>?_);obtain⟨Z,he,hrow,r,n⟩:=hR;obtain rfl:=he.symm;subst n;refine⟨(a6 g.2 d),hrow,fun a hS=>?_⟩;replace hS:=hS.fS (aD.back (i:=1) rfl r);refine al hS fun a hS=>?_;rcases cd hM with⟨K,hM⟩|⟨K,hM⟩
 ·refine al hS fun a hS=>?_;refine qy hS (J6 hS rfl rfl) fun a hS=>?_;obtain⟨x,E,hM⟩:=bd hM;refine wl rfl (cn hS lO rfl rfl 1 rfl (bn _ _ (hS.drop 1).dlt (aW.mk g.2.L g.2.At) (min 3 (b.length:Int)) _ _ (hS.boxRow 1 rfl) (hS.notin 1 rfl) (aD.lent (i:=1) rfl (hS.get 0 rfl)) _ E) fun _ w hR hk=>?_);obtain⟨a0,he,hrow,s,o⟩:=hR;obtain rfl:=he.symm;subst o;refine⟨(a6 x.2 d),hrow,fun a hS=>?_⟩;replace hS:=hS.fS (aD.back (i:=1) rfl s);refine al hS fun a hS=>?_;obtain⟨V,F,hM⟩:=bd hM;refine kc hS Fm (oN _ _ hS.dlt (hS.get 5 rfl) b (IntKind.i64.wrap ((IntKind.i64.wrap ((b.length:Int)-1))-x.1)) _ (hS.get 3 rfl) _ F) fun _ w hR a hk hA=>?_;obtain rfl:=hR;have hS:=bS hA;refine go hS fun a w hS=>?_;cases hM
  refine aH hS rfl (rC 0 hS) ?_;exact⟨d,rfl,hS.boxRow 1 rfl,(aD.up ⟨.inr (aG (i:=1) rfl),trivial⟩ (hS.get 0 rfl)),rfl⟩
 refine al hS fun a hS=>?_;obtain⟨z,G,hM⟩:=bd hM;refine wl rfl (cn hS lO rfl rfl 1 rfl (bn _ _ (hS.drop 1).dlt (aW.mk g.2.L g.2.At) (b.length:Int) _ _ (hS.boxRow 1 rfl) (hS.notin 1 rfl) (aD.lent (i:=1) rfl (hS.get 0 rfl)) _ G) fun _ w hR hk=>?_);obtain⟨a1,he,hrow,t,j⟩:=hR;obtain rfl:=he.symm;subst j;refine⟨(a6 z.2 d),hrow,fun a hS=>?_⟩;replace hS:=hS.fS (aD.back (i:=1) rfl t);obtain⟨W,H,hM⟩:=bd hM;refine kc hS Fm (oN _ _ hS.dlt (hS.get 5 rfl) b z.1 _ (hS.get 3 rfl) _ H) fun _ w hR a hk hA=>?_;obtain rfl:=hR;have hS:=bS hA;refine go hS fun a w hS=>?_;cases hM
 refine aH hS rfl (rC 0 hS) ?_;exact⟨d,rfl,hS.boxRow 1 rfl,(aD.up ⟨.inr (aG (i:=1) rfl),trivial⟩ (hS.get 0 rfl)),rfl⟩
def o6 (d:LK) (b:LN) (c:Int):Option (LK×aW):=some ((d,(aW.mk b c)))
def o7 (g:LU) (c:LK) (f:Int) (d:LN) (e:Int):Option (Fl (LK×Int×LN×Int) (LK×LN×Int)):=cond (decide ((0:Int)<f)) ((sF (aW.mk d e) g).bind fun b=>gd (bT (c.length+([(ah.mk b.1.Kind b.1.Text)]).length)) <| some (.go ((c++([(ah.mk b.1.Kind b.1.Text)])),IntKind.i64.wrap (f-1),b.2.L,b.2.At))) (some (.out (c,d,e)))
def oL (e:aW) (c:LU) (d:Int):Option (LK×aW):=(bJ e d).bind fun b=>(loop (fun s:LK×Int×LN×Int=>o7 c s.1 s.2.1 s.2.2.1 s.2.2.2) (([]:List ah),IntKind.i64.wrap (b.1+1),b.2.L,b.2.At)).bind fun r=>o6 r.1 r.2.1 r.2.2
theorem s5 (T:Nat→Prop) (W0:World) (hT:TW T W0) (l:aW) (d:LU) (o:Int) (j:Value) (H:Value) (e:Nat) (P:W0.heap[e]? = some (.cells (a6 l j).toArray 73 (0,0))) (N:¬ T e) (S:aD (aS.int .i64) (dT T [.box e (a6 l j) 73]) W0 j l.L) (U:aD aw (dT T [.box e (a6 l j) 73]) W0 H d) (hLv:dx (dT T [.box e (a6 l j) 73]) W0) (y:LK×aW) (hM:oL l d o=some y):bc aQ (fun k=>k=e) 28 [pt e 0,H,aj o] W0 (fun v w'=>∃ (I:Value) (xJ:bh) (E:Value),v=I∧ip ac T W0 w' [ay I xJ,.box e (a6 y.2 E) 73] 31 I xJ y.1∧w'.heap[e]? = some (.cells (a6 y.2 E).toArray 73 (0,0))∧aD (aS.int .i64) (dT T [ay I xJ,.box e (a6 y.2 E) 73]) w' E y.2.L∧j=E):=by
 refine rY (c:=_) Tryz.func28 rfl T 24 Tryz.ntmps28 hT rfl P N fun a hS=>?_;replace hS:=((hS.fact bu hLv).fS S).fS U;unfold oL at hM;refine al hS fun a hS=>?_;refine aJ (J:=fun a w=>∃ (A:LK) (u:LN) (z:Int) (p:Value) (m:LV),St W0 (fun k=>k=e) T 24 [(7,p)] [ay p m,.box e [j,aj z] 73] [ao ac m A,aK (aS.int .i64) j u,bu] a w∧o6 A u z=some y) ?_ ?_
 ·skip;refine al hS fun a hS=>?_;obtain⟨O,G,hM⟩:=bd hM;refine wl rfl (cn hS lO rfl rfl 0 rfl (bn _ _ (hS.drop 0).dlt l o _ _ (hS.boxRow 0 rfl) (hS.notin 0 rfl) (aD.lent (i:=0) rfl (hS.get 1 rfl)) _ G) fun _ w hR hk=>?_);obtain⟨Y,he,hrow,C,q⟩:=hR;obtain rfl:=he.symm;subst q;refine⟨(a6 O.2 j),hrow,fun a hS=>?_⟩;replace hS:=hS.fS (aD.back (i:=0) rfl C);refine al hS fun a hS=>?_;replace hS:=hS.nilRow ac 31 (by decide);obtain⟨r1,Q,hMo1⟩:=bd hM;refine bB _ (fun s a w=>∃ (h:LK) (n:Int) (f:LN) (g:Int) (B:Value) (t:LV),(h,n,f,g)=s∧St W0 (fun k=>k=e) T 24 [(0,pt e 0),(1,H),(7,B),(8,aj n)] [ay B t,.box e [j,aj g] 73] [aK aw H d,ao ac t h,aK (aS.int .i64) j f,bu] a w) Q ⟨_,_,_,_,_,_,rfl,hS.mt [0,1] [2,0,1,4]⟩ ?_;rintro s a w X ⟨h,n,f,g,B,t,rfl,hS⟩ hM hf1;have hM:o7 d h n f g=some X:=hM;unfold o7 at hM;refine aA ?_;refine al hS fun a hS=>?_;rcases cd hM with⟨K,hM⟩|⟨K,hM⟩
  ·refine al hS fun a hS=>?_;refine aA ?_;refine al hS fun a hS=>?_;obtain⟨b,F,hM⟩:=bd hM;refine wl rfl (cn hS N3 rfl rfl 1 rfl (CT _ _ (hS.drop 1).dlt (aW.mk f g) d _ _ _ (hS.boxRow 1 rfl) (hS.notin 1 rfl) (aD.lent (i:=1) rfl (hS.get 2 rfl)) (aD.lent (i:=1) rfl (hS.get 0 rfl)) (bu.keep (hS.get 3 rfl) (ai _ _) (fun k hk=>.inl ((nV (i:=1) rfl k).1 hk))) _ F) fun _ w hR hk=>?_);obtain⟨Z,he,hrow,D,r⟩:=hR;obtain rfl:=he.symm;subst r;refine⟨(a6 b.2 j),hrow,fun a hS=>?_⟩;replace hS:=hS.fS (aD.back (i:=1) rfl D);refine wl rfl (bf (ps:=[(0,.tmp 20)]) hS gf gl (zl:=[aj 0,a8 cr]) (by kernel_rfl) rfl (us:=[(aX b.1)]) ⟨rfl,trivial⟩ (ws:=(aX b.1)) rfl rfl rfl rfl fun V a w hk hS=>?_);replace hS:=(hS.lit (R:=ac) (us:=(aX b.1)) (xs:=[(ah.mk b.1.Kind b.1.Text)]) 0 rfl (by decide) (aB.one_ (R:=ac) (x:=(ah.mk b.1.Kind b.1.Text)) rfl) rfl rfl).freeze (R:=ac) 0 rfl 0 rfl;obtain⟨M,hM⟩:=bo hM;refine wl rfl (bM (R:=ac) (xs:=h) (ys:=[(ah.mk b.1.Kind b.1.Text)]) hS gf (by decide) (by decide) rfl rfl 0 rfl 4 rfl 0 rfl M rfl fun a0 W a w hk hS=>?_);refine al hS fun a hS=>?_;exact⟨_,(cR hM).symm,_,_,_,_,_,_,rfl,hS.mt [0,1] [4,0,3,7]⟩
  refine al hS fun a hS=>?_;cases hM
  have hr:=hf1 _ rfl;subst hr;have hM:o6 h f g=some y:=hMo1;exact⟨_,_,_,_,_,hS.mt [0,1] [1,2,3],hM⟩
 rintro a w ⟨A,u,z,p,m,hS,hM⟩;unfold o6 at hM;refine al hS fun a hS=>?_;cases hM
 refine aH hS rfl (az hS rfl aF) ?_;exact⟨p,m,j,rfl,hS.retOwnm ⟨.inr (aG (i:=0) rfl),⟨.inr (aG (i:=1) rfl),trivial⟩⟩ 0 rfl 0 rfl 1 rfl (by decide),hS.boxRow 1 rfl,(aD.up ⟨.inr (aG (i:=0) rfl),⟨.inr (aG (i:=1) rfl),trivial⟩⟩ (hS.get 1 rfl)),rfl⟩
def r7:Option (ab×Bool):=some (((ab.mk (ah.mk 0 cr) cr ([]) 0 0 0 false),false))
def iS (e:LR) (d:ah) (c:Int):Option (Fl (Int) (Fl (Unit) (ab×Bool))):=cond (decide (c<(e.length:Int))) ((bg e c).bind fun b=>cond (b.Key.Kind==d.Kind&&b.Key.Text.toList==d.Text.toList) ((gq b).bind fun f=>some (.out (.out (f,true)))) (some (.go (IntKind.i64.wrap (c+1))))) (some (.out (.go ())))
def bX (c:LR) (b:ah):Option (ab×Bool):=(loop (fun s:Int=>iS c b s) 0).bind fun r=>Fl.el r (fun s=>r7) (fun y=>some (y))
theorem bx (T:Nat→Prop) (W0:World) (hT:TW T W0) (e:LR) (b:ah) (n:Value) (z:aD aa T W0 n e) (y:ab×Bool) (hM:bX e b=some y):bc aQ No 23 [n,.agg (aX b).toArray] W0 (fun v w'=>∃ (u:Value) (jT:bh),v = .tuple #[.agg (aE y.1 u).toArray,.bool y.2]∧ip ac T W0 w' [ay u jT] 31 u jT y.1.Reads):=by
 refine en Tryz.func23 Tryz.ntmps23 hT fun a hS=>?_;replace hS:=hS.fS (aD.dn z);unfold bX at hM;refine al hS fun a hS=>?_;refine kb hS fun g E a w hk hS=>?_;refine ka hS dq fun c F a w hk hS=>?_;refine al hS fun a hS=>?_;refine aJ (J:=fun a w=>St W0 No T 22 [(4,pt c 0)] [.box c [aj 0,a8 cr,a8 cr,.slice none 0 0,aj 0,aj 0,aj 0,.bool false] 33] [] a w∧r7=some y) ?_ ?_
 ·skip;refine al hS fun a hS=>?_;obtain⟨L,x,hMo1⟩:=bd hM;refine bB _ (fun s a w=>∃ (d:Int),d=s∧St W0 No T 22 [(3,pt g 0),(4,pt c 0),(8,n),(9,aj (e.length:Int)),(10,aj d)] [.box g (aX b) 31,.box c [aj 0,a8 cr,a8 cr,.slice none 0 0,aj 0,aj 0,aj 0,.bool false] 33] [aK aa n e] a w) x ⟨_,rfl,hS.mt [1,0] [0]⟩ ?_;rintro s a w D ⟨d,rfl,hS⟩ hM hf1;have hM:iS e b d=some D:=hM;unfold iS at hM;refine al hS fun a hS=>?_;refine aA ?_;rcases cd hM with⟨p,hM⟩|⟨p,hM⟩
  ·refine al hS fun a hS=>?_;refine aA ?_;refine al hS fun a hS=>?_;obtain⟨f,k,hM⟩:=bd hM;refine wl rfl (bD (R:=aa) hS dM bZ rfl rfl 0 rfl k rfl fun A H C q a hS=>?_);obtain⟨K,rfl,m⟩:=q;replace hS:=hS.fS m;refine al hS fun a hS=>?_;refine ka hS dq fun B G a w hk hS=>?_;refine go hS fun a w hS=>?_;refine wl rfl (ky (v:=.bool (f.Key.Kind==b.Kind&&f.Key.Text.toList==b.Text.toList)) hS (z7 hS rfl rfl) rfl rfl fun a hS=>?_);refine al hS fun a hS=>?_;rcases cd hM with⟨r,hM⟩|⟨r,hM⟩
   ·refine al hS fun a hS=>?_;obtain⟨I,l,hM⟩:=bd hM;refine kc hS If (mX _ _ hS.dlt f _ (hS.get 0 rfl) _ l) fun _ w hR a hk hA=>?_;obtain⟨t,o,he,j⟩:=hR;obtain rfl:=he.symm;have hS:=qe hA j;refine go hS fun a w hS=>?_;cases hM
    have hr:=hf1 _ rfl;subst hr;replace hMo1:=iq hMo1;have hM:=hMo1;cases hM
    refine aH hS Tryz.results23 (bj hS rfl 3 rfl bZ rfl (fun h=>by cases h) (az hS rfl aF)) ?_;exact⟨t,o,rfl,hS.retOwn ⟨.inr (aG (i:=0) rfl),trivial⟩ 0 rfl 0 rfl⟩
   exact fz
  exact fz
 rintro a w ⟨hS,hM⟩;unfold r7 at hM;refine al hS fun a hS=>?_;refine qy hS (bE (ps:=[]) hS Hd dq rfl (us:=[]) trivial (ws:=[aj 0,a8 cr,a8 cr,.slice none 0 0,aj 0,aj 0,aj 0,.bool false]) rfl) fun a hS=>?_;refine go hS fun a w hS=>?_;cases hM
 refine aH hS Tryz.results23 (bj hS rfl 0 rfl bZ rfl (fun h=>by cases h) (az hS rfl aF)) ?_;exact⟨.slice none 0 0,[],rfl,td _ _ _ _ _ _⟩
def s8:Option Bool:=some (false)
def lZ (e:LK) (d:ah) (b:Int):Option (Fl (Int) (Fl (Unit) Bool)):=cond (decide (b<(e.length:Int))) ((bg e b).bind fun c=>cond (c.Kind==d.Kind&&c.Text.toList==d.Text.toList) (some (.out (.out true))) (some (.go (IntKind.i64.wrap (b+1))))) (some (.out (.go ())))
def nx (c:LK) (b:ah):Option Bool:=(loop (fun s:Int=>lZ c b s) 0).bind fun r=>Fl.el r (fun s=>s8) (fun y=>some (y))
theorem rQ (T:Nat→Prop) (W0:World) (hT:TW T W0) (d:LK) (b:ah) (h:Value) (l:aD ac T W0 h d) (y:Bool) (hM:nx d b=some y):bc aQ No 33 [h,.agg (aX b).toArray] W0 (fun v w'=>v = .bool y):=by
 refine en Tryz.func33 Tryz.ntmps33 hT fun a hS=>?_;replace hS:=hS.fS (aD.dn l);unfold nx at hM;refine al hS fun a hS=>?_;refine kb hS fun e q a w hk hS=>?_;refine al hS fun a hS=>?_;refine aJ (J:=fun a w=>St W0 No T 17 [] [] [] a w∧s8=some y) ?_ ?_
 ·skip;refine al hS fun a hS=>?_;obtain⟨u,k,hMo1⟩:=bd hM;refine bB _ (fun s a w=>∃ (c:Int),c=s∧St W0 No T 17 [(3,pt e 0),(7,h),(8,aj (d.length:Int)),(9,aj c)] [.box e (aX b) 31] [aK ac h d] a w) k ⟨_,rfl,hS.mt [0] [0]⟩ ?_;rintro s a w p ⟨c,rfl,hS⟩ hM hf1;have hM:lZ d b c=some p:=hM;unfold lZ at hM;refine al hS fun a hS=>?_;refine aA ?_;rcases cd hM with⟨i,hM⟩|⟨i,hM⟩
  ·refine al hS fun a hS=>?_;refine aA ?_;refine al hS fun a hS=>?_;obtain⟨f,g,hM⟩:=bd hM;refine wl rfl (bD (R:=ac) hS mM e7 rfl rfl 0 rfl g rfl fun m t o j a hS=>?_);obtain rfl:=j;refine al hS fun a hS=>?_;refine ka hS gl fun n r a w hk hS=>?_;refine go hS fun a w hS=>?_;refine wl rfl (ky (v:=.bool (f.Kind==b.Kind&&f.Text.toList==b.Text.toList)) hS (z7 hS rfl rfl) rfl rfl fun a hS=>?_);exact fz
  exact fz
 rintro a w ⟨hS,hM⟩;unfold s8 at hM;exact fz
def m5 (b:(List cT)):Option (List cT):=some (b)
def m6 (b:Int) (c:(List cT)):Option (Fl ((List cT)×Int) ((List cT))):=some (.go (c,IntKind.i64.wrap (b+1)))
def kC (b:Int) (c:(List cT)):Option (Fl ((List cT)×Int) ((List cT))):=some (.go (c,IntKind.i64.wrap (b+1)))
def ix (f:LK) (e:ah) (g:(ab×Bool)) (c:(List cT)) (b:Int):Option (Fl ((List cT)×Int) ((List cT))):=cond (decide (b<(g.1.Reads.length:Int))) ((bg g.1.Reads b).bind fun d=>(nx f d).bind fun h=>cond (!(h)) (gd (bT (c.length+([(cT.mk e d)]).length)) <| kC b (c++([(cT.mk e d)]))) (kC b c)) (some (.out c))
def kD (g:LR) (b:LK) (e:(List cT)) (c:Int):Option (Fl ((List cT)×Int) ((List cT))):=cond (decide (c<(b.length:Int))) ((bg b c).bind fun d=>(bX g d).bind fun f=>(loop (fun s:(List cT)×Int=>ix b d f s.1 s.2) (e,0)).bind fun r=>m6 c r) (some (.out e))
def iK (c:LR) (b:LK):Option (List cT):=(loop (fun s:(List cT)×Int=>kD c b s.1 s.2) (([]:List cT),0)).bind fun r=>m5 r
theorem od (T:Nat→Prop) (W0:World) (hT:TW T W0) (j:LR) (b:LK) (n:Value) (f:Value) (a5:aD aa T W0 n j) (a9:aD ac T W0 f b) (y:(List cT)) (hM:iK j b=some y):bc aQ No 115 [n,f] W0 (fun v w'=>∃ (v3:Value) (wO:bh),v=v3∧ip fV T W0 w' [mV v3 wO] 158 v3 wO y):=by
 refine en Tryz.func115 Tryz.ntmps115 hT fun a hS=>?_;replace hS:=(hS.fS (aD.dn a5)).fS (aD.dn a9);unfold iK at hM;refine al hS fun a hS=>?_;refine aJ (J:=fun a w=>∃ (D:(List cT)) (t:Value) (p:LV),St W0 No T 44 [(5,t)] [mV t p] [ao fV p D] a w∧m5 D=some y) ?_ ?_
 ·skip;refine al hS fun a hS=>?_;replace hS:=hS.nilRow fV 158 (by decide);obtain⟨r1,a3,hMo1⟩:=bd hM;refine bB _ (fun s a w=>∃ (r:(List cT)) (e:Int) (G:Value) (z:LV),(r,e)=s∧St W0 No T 44 [(0,n),(1,f),(5,G),(12,f),(13,aj (b.length:Int)),(14,aj e)] [mV G z] [aK aa n j,aK ac f b,ao fV z r] a w) a3 ⟨_,_,_,_,rfl,hS.mt [0] [2,1,0]⟩ ?_;rintro s a w f1 ⟨r,e,G,z,rfl,hS⟩ hM hf1;have hM:kD j b r e=some f1:=hM;unfold kD at hM;refine al hS fun a hS=>?_;refine aA ?_;rcases cd hM with⟨Q,hM⟩|⟨Q,hM⟩
  ·refine al hS fun a hS=>?_;refine aJ (J:=fun a w=>∃ (E:(List cT)) (H:Value) (A:LV),St W0 No T 44 [(0,n),(1,f),(5,H),(12,f),(13,aj (b.length:Int)),(14,aj e)] [mV H A] [aK aa n j,aK ac f b,ao fV A E] a w∧m6 e E=some f1) ?_ ?_
   ·skip;refine al hS fun a hS=>?_;obtain⟨c,M,hM⟩:=bd hM;refine wl rfl (bD (R:=ac) hS mM e7 rfl rfl 1 rfl M rfl fun af b6 b0 S a hS=>?_);obtain rfl:=S;refine al hS fun a hS=>?_;refine ka hS gl fun o b3 a w hk hS=>?_;refine go hS fun a w hS=>?_;obtain⟨m,O,hM⟩:=bd hM;refine kc hS oC (bx _ _ hS.dlt j c _ (hS.get 1 rfl) _ O) fun _ w hR a hk hA=>?_;obtain⟨u,q,he,L⟩:=hR;obtain rfl:=he.symm;have hS:=qe hA L;refine al hS fun a hS=>?_;refine ka hS dq fun ag b4 a w hk hS=>?_;refine go hS fun a w hS=>?_;obtain⟨r2,a4,hMo2⟩:=bd hM;refine bB _ (fun s a w=>∃ (l:(List cT)) (g:Int) (I:Value) (B:LV),(l,g)=s∧St W0 No T 44 [(0,n),(1,f),(5,I),(7,pt o 0),(12,f),(13,aj (b.length:Int)),(14,aj e),(25,u),(26,aj (m.1.Reads.length:Int)),(27,aj g)] [mV I B,ay u q,.box o (aX c) 31] [aK aa n j,aK ac f b,ao fV B l,ao ac q m.1.Reads] a w) a4 ⟨_,_,_,_,rfl,hS.mt [3,1,2] [2,3,4,0]⟩ ?_;rintro s a w f2 ⟨l,g,I,B,rfl,hS⟩ hM hf2;have hM:ix b c m l g=some f2:=hM;unfold ix at hM;refine al hS fun a hS=>?_;refine aA ?_;rcases cd hM with⟨U,hM⟩|⟨U,hM⟩
    ·refine al hS fun a hS=>?_;refine aJ (J:=fun a w=>∃ (F:(List cT)) (K:Value) (C:LV),St W0 No T 44 [(0,n),(1,f),(5,K),(7,pt o 0),(12,f),(13,aj (b.length:Int)),(14,aj e),(25,u),(26,aj (m.1.Reads.length:Int)),(27,aj g)] [mV K C,ay u q,.box o (aX c) 31] [aK aa n j,aK ac f b,ao fV C F,ao ac q m.1.Reads] a w∧kC g F=some f2) ?_ ?_
     ·skip;refine al hS fun a hS=>?_;obtain⟨d,N,hM⟩:=bd hM;refine wl rfl (cU (R:=ac) hS mM e7 rfl rfl 1 rfl 3 rfl N rfl fun ak b8 b9 b1 V W X a hS=>?_);obtain rfl:=V;refine qy hS (bp (k:=0) hS e7 1 rfl W X rfl id (us:=(aX d)) rfl rfl (fun h=>by cases h)) fun a hS=>?_;refine ka hS gl fun an b5 a w hk hS=>?_;refine go hS fun a w hS=>?_;obtain⟨bb,P,hM⟩:=bd hM;refine kc hS Id (rQ _ _ hS.dlt b d _ (hS.get 1 rfl) _ P) fun _ w hR a hk hA=>?_;obtain rfl:=hR;have hS:=bS hA;refine al hS fun a hS=>?_;rcases cd hM with⟨Y,hM⟩|⟨Y,hM⟩
      ·refine al hS fun a hS=>?_;refine qy hS (bE (ps:=[(0,.tmp 36),(1,.tmp 37)]) hS M6 Fa rfl (us:=[(aX c),(aX d)]) ⟨rfl,⟨rfl,trivial⟩⟩ (ws:=[aj c.Kind,a8 c.Text,aj d.Kind,a8 d.Text]) rfl) fun a hS=>?_;refine wl rfl (bf (ps:=[(0,.tmp 38)]) hS JQ Fa (zl:=[aj 0,a8 cr,aj 0,a8 cr]) (by kernel_rfl) rfl (us:=[[aj c.Kind,a8 c.Text,aj d.Kind,a8 d.Text]]) ⟨rfl,trivial⟩ (ws:=[aj c.Kind,a8 c.Text,aj d.Kind,a8 d.Text]) rfl rfl rfl rfl fun av a w hk hS=>?_);replace hS:=(hS.lit (R:=fV) (us:=[aj c.Kind,a8 c.Text,aj d.Kind,a8 d.Text]) (xs:=[(cT.mk c d)]) 0 rfl (by decide) (aB.one_ (R:=fV) (x:=(cT.mk c d)) rfl) rfl rfl).freeze (R:=fV) 0 rfl 0 rfl;obtain⟨Z,hM⟩:=bo hM;refine wl rfl (bM (R:=fV) (xs:=l) (ys:=[(cT.mk c d)]) hS JQ (by decide) (by decide) rfl rfl 1 rfl 4 rfl 0 rfl Z rfl fun bi b2 a w hk hS=>?_);exact fz
      exact fz
     rintro a w ⟨F,K,C,hS,hM⟩;unfold kC at hM;exact fz
    exact fz
   rintro a w ⟨E,H,A,hS,hM⟩;unfold m6 at hM;exact fz
  exact fz
 rintro a w ⟨D,t,p,hS,hM⟩;unfold m5 at hM;refine al hS fun a hS=>?_;cases hM
 refine aH hS rfl (az hS rfl aF) ?_;exact⟨t,p,rfl,hS.retOwn ⟨.inr (aG (i:=0) rfl),trivial⟩ 0 rfl 0 rfl⟩
def p8 (b:LK):Option LK:=some (b)
def iw (b:Int) (c:LK):Option (Fl (LK×Int) (LK)):=some (.go (c,IntKind.i64.wrap (b+1)))
def eQ (c:LK) (e:Int) (d:ah) (f:Int) (h:Bool):Option (Fl (LK×Int) (LK)):=cond h ((qw c 0 f).bind fun b=>(qw c f c.length).bind fun g=>gd (bT (([]:List ah).length+b.length)) <| gd (bT ((([]:List ah)++b).length+([d]).length)) <| gd (bT (((([]:List ah)++b)++([d])).length+g.length)) <| iw e (((([]:List ah)++b)++([d]))++g)) (iw e c)
def kw (d:LK) (f:Int) (b:ah) (c:Int):Option (Fl (LK×Int) (LK)):=cond (c==(d.length:Int)) (eQ d f b c true) ((bg d c).bind fun e=>eQ d f b c (!(e.Kind==b.Kind&&e.Text.toList==b.Text.toList)))
def fT (c:LK) (d:ah) (b:Int):Option (Fl (Int) (Int)):=cond (decide (b<(c.length:Int))) ((bg c b).bind fun e=>(iu e d).bind fun f=>cond (decide (f<0)) (some (.go (IntKind.i64.wrap (b+1)))) (some (.out b))) (some (.out b))
def mW (e:LK) (c:LK) (b:Int):Option (Fl (LK×Int) (LK)):=cond (decide (b<(e.length:Int))) ((bg e b).bind fun d=>(loop (fun s:Int=>fT c d s) 0).bind fun r=>kw c b d r) (some (.out c))
def iG (b:LK):Option LK:=(loop (fun s:LK×Int=>mW b s.1 s.2) (([]:List ah),0)).bind fun r=>p8 r
theorem ro (T:Nat→Prop) (W0:World) (hT:TW T W0) (hLv:dx T W0) (e:LK) (o:Value) (bl:aD ac T W0 o e) (y:LK) (hM:iG e=some y):bc aQ No 34 [o] W0 (fun v w'=>∃ (v2:Value) (jT:bh),v=v2∧ip ac T W0 w' [ay v2 jT] 31 v2 jT y):=by
 refine en Tryz.func34 Tryz.ntmps34 hT fun a hS=>?_;replace hS:=(hS.fact bu (dx.dn hLv)).fS (aD.dn bl);unfold iG at hM;refine al hS fun a hS=>?_;refine aJ (J:=fun a w=>∃ (G:LK) (A:Value) (q:LV),St W0 No T 53 [(3,A)] [ay A q] [ao ac q G,bu] a w∧p8 G=some y) ?_ ?_
 ·skip;refine al hS fun a hS=>?_;replace hS:=hS.nilRow ac 31 (by decide);obtain⟨r1,bb,hMo1⟩:=bd hM;refine bB _ (fun s a w=>∃ (d:LK) (c:Int) (g:Value) (f:LV),(d,c)=s∧St W0 No T 53 [(3,g),(7,o),(8,aj (e.length:Int)),(9,aj c)] [ay g f] [ao ac f d,aK ac o e,bu] a w) bb ⟨_,_,_,_,rfl,hS.mt [0] [0,1,2]⟩ ?_;rintro s a w O ⟨d,c,g,f,rfl,hS⟩ hM hf1;have hM:mW e d c=some O:=hM;unfold mW at hM;refine al hS fun a hS=>?_;refine aA ?_;rcases cd hM with⟨a1,hM⟩|⟨a1,hM⟩
  ·refine al hS fun a hS=>?_;refine aJ (J:=fun a w=>∃ (H:LK) (I:Value) (B:LV),St W0 No T 53 [(3,I),(7,o),(8,aj (e.length:Int)),(9,aj c)] [ay I B] [ao ac B H,aK ac o e,bu] a w∧iw c H=some O) ?_ ?_
   ·skip;refine al hS fun a hS=>?_;obtain⟨b,P,hM⟩:=bd hM;refine wl rfl (bD (R:=ac) hS mM e7 rfl rfl 1 rfl P rfl fun bs c9 c0 a2 a hS=>?_);obtain rfl:=a2;refine al hS fun a hS=>?_;refine ka hS gl fun m c6 a w hk hS=>?_;refine go hS fun a w hS=>?_;refine aJ (J:=fun a w=>∃ (p:Int),St W0 No T 53 [(3,g),(5,pt m 0),(6,aj p),(7,o),(8,aj (e.length:Int)),(9,aj c)] [ay g f,.box m (aX b) 31] [ao ac f d,aK ac o e,bu] a w∧kw d c b p=some O) ?_ ?_
    ·skip;refine al hS fun a hS=>?_;obtain⟨r2,bi,hMo2⟩:=bd hM;refine bB _ (fun s a w=>∃ (z:Int),z=s∧St W0 No T 53 [(3,g),(5,pt m 0),(6,aj z),(7,o),(8,aj (e.length:Int)),(9,aj c)] [ay g f,.box m (aX b) 31] [ao ac f d,aK ac o e,bu] a w) bi ⟨_,rfl,hS.mt [1,0] [1,2,3]⟩ ?_;rintro s a w f2 ⟨z,rfl,hS⟩ hM hf2;have hM:fT d b z=some f2:=hM;unfold fT at hM;refine aA ?_;refine aA ?_;refine dr [] hS fun w hQ hS=>?_;refine gE [0,1,2,3,4] hS fun a hS=>?_;rcases cd hM with⟨t,hM⟩|⟨t,hM⟩
     ·refine gE [5,6] hS fun a hS=>?_;obtain⟨C,S,hM⟩:=bd hM;obtain⟨X,b2,ca,c1,a3,a4,a5,a9⟩:=bP (R:=ac) hS mM e7 0 rfl 0 rfl S;obtain rfl:=a3;refine yG 7 (v:=pt X b2) rfl (by kernel_rfl) (by kernel_rfl) (by kernel_rfl) rfl hQ hS (a9 rfl rfl) rfl rfl rfl t rfl rfl fun a hS=>?_;refine yG (l:=[]) 8 (v:=.agg (aX C).toArray) rfl (by kernel_rfl) (by kernel_rfl) (by kernel_rfl) (by kernel_rfl) hQ hS (bp (k:=0) hS e7 0 rfl a4 a5 rfl br (us:=(aX C)) rfl rfl (fun h=>by cases h)) rfl rfl rfl t rfl rfl fun a hS=>?_;refine gE [9] hS fun a hS=>?_;obtain⟨ck,W,hM⟩:=bd hM;refine bV (i:=10) rfl (by kernel_rfl) hS rfl rfl rfl t (be hS DF rfl rfl (ln _ _ hS.dlt (hS.get 2 rfl) C b _ W) fun _ w hR a hk hA=>⟨eS (hk),?_⟩);obtain rfl:=hR;have hS:=bS hA;refine gE [11,12] hS fun a hS=>?_;refine eD ?_;exact fz
     refine gE [5,6,7,8,9,10,11,12] hS fun a hS=>?_;refine eD ?_;exact fz
    rintro a w ⟨p,hS,hM⟩;unfold kw at hM;refine aJ (J:=fun a w=>∃ (D:Bool),St W0 No T 53 [(3,g),(5,pt m 0),(6,aj p),(7,o),(8,aj (e.length:Int)),(9,aj c),(39,.bool D)] [ay g f,.box m (aX b) 31] [ao ac f d,aK ac o e,bu] a w∧eQ d c b p D=some O) ?_ ?_
    ·skip;refine dr [] hS fun w hQ hS=>?_;refine gE [0,1,2,3,4] hS fun a hS=>?_;rcases cd hM with⟨u,hM⟩|⟨u,hM⟩
     ·refine gE [5,6,7,8,9,10,11] hS fun a hS=>?_;refine eD ?_;exact⟨_,hS.mt [0,1] [0,1,2],hM⟩
     refine gE [5,6] hS fun a hS=>?_;obtain⟨r,Q,hM⟩:=bd hM;obtain⟨Y,b3,ch,c2,af,ag,ak,an⟩:=bP (R:=ac) hS mM e7 0 rfl 0 rfl Q;obtain rfl:=af;refine yG 7 (v:=pt Y b3) rfl (by kernel_rfl) (by kernel_rfl) (by kernel_rfl) rfl hQ hS (an rfl rfl) rfl rfl rfl u rfl rfl fun a hS=>?_;refine yG (l:=[]) 8 (v:=.agg (aX r).toArray) rfl (by kernel_rfl) (by kernel_rfl) (by kernel_rfl) (by kernel_rfl) hQ hS (bp (k:=0) hS e7 0 rfl ag ak rfl br (us:=(aX r)) rfl rfl (fun h=>by cases h)) rfl rfl rfl u rfl rfl fun a hS=>?_;refine gE [9] hS fun a hS=>?_;refine yG 10 (v:=.bool (!(r.Kind==b.Kind&&r.Text.toList==b.Text.toList))) rfl (by kernel_rfl) (by kernel_rfl) (by kernel_rfl) rfl hQ hS (AE hS rfl rfl) rfl rfl rfl u rfl rfl fun a hS=>?_;refine gE [11] hS fun a hS=>?_;refine eD ?_;exact⟨_,hS.mt [0,1] [0,1,2],hM⟩
    rintro a w ⟨D,hS,hM⟩;unfold eQ at hM;rcases cd hM with⟨av,hM⟩|⟨av,hM⟩
    ·refine al hS fun a hS=>?_;replace hS:=hS.nilRow ac 31 (by decide);refine dr [(3,.blk (Value.ownBlock (.slice none 0 0))),(6,.any),(10,.any)] hS fun w hQ hS=>?_;refine gE [0,1] hS fun a hS=>?_;obtain⟨n,U,hM⟩:=bd hM;obtain⟨b4,K,b0⟩:=yB (R:=ac) hS mM e7 1 rfl 1 rfl U;refine dy 2 (v:=b4) rfl (by kernel_rfl) (by kernel_rfl) (by kernel_rfl) rfl hQ hS (b0 (k1:=.i64) rfl (.inr ⟨rfl,rfl⟩) (.inl ⟨_,rfl,rfl⟩)) rfl rfl rfl fun a hS=>?_;refine dy (l:=[.blk (Value.ownBlock (.slice none 0 0))]) 4 (v:=.agg (aX b).toArray) rfl (by kernel_rfl) (by kernel_rfl) (by kernel_rfl) (by kernel_rfl) hQ hS (dQ hS rfl e7 2 rfl (iZ hS 2 rfl rfl 0 rfl rfl (by decide) br) (us:=(aX b)) rfl rfl (fun h=>by cases h)) rfl rfl rfl fun a hS=>?_;refine gE [7,8] hS fun a hS=>?_;obtain⟨N,V,hM⟩:=bd hM;obtain⟨b5,L,b1⟩:=yB (R:=ac) hS mM e7 1 rfl 1 rfl V;refine dy 9 (v:=b5) rfl (by kernel_rfl) (by kernel_rfl) (by kernel_rfl) rfl hQ hS (b1 (k2:=.i64) rfl (.inl ⟨_,rfl,rfl⟩) (.inr ⟨rfl,rfl⟩)) rfl rfl rfl fun a hS=>?_;obtain⟨M,hM⟩:=bo hM;refine di (i:=3) (j:=5) rfl rfl (by kernel_rfl) rfl rfl ?_ ?_
     ·skip;skip;replace hS:=hS.freeze (R:=ac) 1 rfl 1 rfl;replace hS:=hS.fS (K _ _ (hS.get 0 rfl));refine id (bM (R:=ac) (xs:=([]:List ah)) (ys:=n) hS gf (by decide) (by decide) rfl rfl 0 rfl 2 rfl 0 rfl M rfl fun cl c3 a w hk hS=>⟨jl rfl hk im,?_⟩);refine e1 5 (bf (ps:=[(0,.tmp 44)]) hS gf gl (zl:=[aj 0,a8 cr]) (by kernel_rfl) rfl (us:=[(aX b)]) ⟨rfl,trivial⟩ (ws:=(aX b)) rfl rfl rfl rfl fun bt a w hk hS=>⟨eS (hk),?_⟩);replace hS:=(hS.lit (R:=ac) (us:=(aX b)) (xs:=[b]) 0 rfl (by decide) (aB.one_ (R:=ac) (x:=b) rfl) rfl rfl).freeze (R:=ac) 0 rfl 0 rfl;obtain⟨E,hM⟩:=bo hM;refine e1 6 (bM (R:=ac) (xs:=(([]:List ah)++n)) (ys:=[b]) hS gf (by decide) (by decide) rfl rfl 0 rfl 2 rfl 0 rfl E rfl fun b6 Z a w hk hS=>⟨jl rfl hk uR,?_⟩);replace hS:=hS.fS (L _ _ (hS.get 5 rfl));obtain⟨F,hM⟩:=bo hM;refine e1 10 (bM (R:=ac) (xs:=((([]:List ah)++n)++([b]))) (ys:=N) hS gf (by decide) (by decide) rfl rfl 0 rfl 1 rfl 0 rfl F rfl fun b8 a0 a w hk hS=>⟨jl rfl hk uR,?_⟩);refine gE [11] hS fun a hS=>?_;refine eD ?_;exact⟨_,_,_,hS.mt [0] [0,10,11],hM⟩
     skip;refine id (bf (ps:=[(0,.tmp 44)]) hS gf gl (zl:=[aj 0,a8 cr]) (by kernel_rfl) rfl (us:=[(aX b)]) ⟨rfl,trivial⟩ (ws:=(aX b)) rfl rfl rfl rfl fun bF a w hk hS=>⟨eS (hk),?_⟩);replace hS:=hS.freeze (R:=ac) 2 rfl 1 rfl;replace hS:=hS.fS (K _ _ (hS.get 0 rfl));refine e1 3 (bM (R:=ac) (xs:=([]:List ah)) (ys:=n) hS gf (by decide) (by decide) rfl rfl 1 rfl 2 rfl 0 rfl M rfl fun co c4 a w hk hS=>⟨jl rfl hk im,?_⟩);replace hS:=(hS.lit (R:=ac) (us:=(aX b)) (xs:=[b]) 0 rfl (by decide) (aB.one_ (R:=ac) (x:=b) rfl) rfl rfl).freeze (R:=ac) 0 rfl 0 rfl;obtain⟨E,hM⟩:=bo hM;refine e1 6 (bM (R:=ac) (xs:=(([]:List ah)++n)) (ys:=[b]) hS gf (by decide) (by decide) rfl rfl 0 rfl 2 rfl 0 rfl E rfl fun b6 Z a w hk hS=>⟨jl rfl hk uR,?_⟩);replace hS:=hS.fS (L _ _ (hS.get 5 rfl));obtain⟨F,hM⟩:=bo hM;refine e1 10 (bM (R:=ac) (xs:=((([]:List ah)++n)++([b]))) (ys:=N) hS gf (by decide) (by decide) rfl rfl 0 rfl 1 rfl 0 rfl F rfl fun b8 a0 a w hk hS=>⟨jl rfl hk uR,?_⟩);refine gE [11] hS fun a hS=>?_;refine eD ?_;exact⟨_,_,_,hS.mt [0] [0,10,11],hM⟩
    exact fz
   rintro a w ⟨H,I,B,hS,hM⟩;unfold iw at hM;exact fz
  exact fz
 rintro a w ⟨G,A,q,hS,hM⟩;unfold p8 at hM;refine al hS fun a hS=>?_;cases hM
 refine aH hS rfl (az hS rfl aF) ?_;exact⟨A,q,rfl,hS.retOwn ⟨.inr (aG (i:=0) rfl),trivial⟩ 0 rfl 0 rfl⟩
def iU (b:Bool):Option Bool:=some (b)
def oR (f:LR) (b:Int) (d:ah):Option Bool:=(bX f d).bind fun c=>cond c.2 ((cB d).bind fun e=>cond e (cond (decide (c.1.Verified<b)) (iU (!(c.1.Dirty))) (iU false)) (iU false)) (iU false)
theorem wv (T:Nat→Prop) (W0:World) (hT:TW T W0) (g:LR) (b:Int) (d:ah) (k:Value) (j:aD aa T W0 k g) (y:Bool) (hM:oR g b d=some y):bc aQ No 139 [k,aj b,.agg (aX d).toArray] W0 (fun v w'=>v = .bool y):=by
 refine en Tryz.func139 Tryz.ntmps139 hT fun a hS=>?_;replace hS:=hS.fS (aD.dn j);unfold oR at hM;refine al hS fun a hS=>?_;refine kb hS fun l o a w hk hS=>?_;refine al hS fun a hS=>?_;obtain⟨q,h,hM⟩:=bd hM;refine kc hS oC (bx _ _ hS.dlt g d _ (hS.get 0 rfl) _ h) fun _ w hR a hk hA=>?_;obtain⟨s,n,he,f⟩:=hR;obtain rfl:=he.symm;have hS:=qe hA f;refine al hS fun a hS=>?_;refine ka hS dq fun m p a w hk hS=>?_;refine go hS fun a w hS=>?_;refine aJ (J:=fun a w=>∃ (c:Bool),St W0 No T 31 [(6,.bool c)] [] [] a w∧iU c=some y) ?_ ?_
 ·skip;refine al hS fun a hS=>?_;rcases cd hM with⟨e,hM⟩|⟨e,hM⟩
  ·refine al hS fun a hS=>?_;obtain⟨r,i,hM⟩:=bd hM;refine wg hS rfl rfl rfl e (be hS wN rfl rfl (cO _ _ hS.dlt d _ i) fun _ w hR a hk hA=>?_);obtain rfl:=hR;have hS:=bS hA;exact fz
  exact fz
 rintro a w ⟨c,hS,hM⟩;unfold iU at hM;exact fz
def oe (b:LO):Option LO:=some (b)
def lA (b:Int) (d:LO) (c:LK):Option (Fl (LO×LK×Int) (LO)):=some (.go (d,c,IntKind.i64.wrap (b+1)))
def lB (b:Int) (d:LO) (c:LK):Option (Fl (LO×LK×Int) (LO×LK)):=some (.go (d,c,IntKind.i64.wrap (b+1)))
def lC (e:LO) (c:LK) (d:Int) (b:ah) (f:Bool):Option (Fl (LO×LK×Int) (LO×LK)):=cond f (gd (bT (c.length+([b]).length)) <| lB d (d9 aP b true e) (c++([b]))) (lB d e c)
def fy (j:LR) (e:Int) (g:(ab×Bool)) (d:LO) (f:LK) (c:Int):Option (Fl (LO×LK×Int) (LO×LK)):=cond (decide (c<(g.1.Reads.length:Int))) ((bg g.1.Reads c).bind fun b=>(oR j e b).bind fun h=>cond h ((some ((cV aP b d).getD false)).bind fun i=>lC d f c b (!(i))) (lC d f c b false)) (some (.out (d,f)))
def gY (f:LR) (b:Int) (e:LO) (d:LK) (c:Int):Option (Fl (LO×LK×Int) (LO)):=cond (decide (c<(d.length:Int))) ((bg d c).bind fun g=>(bX f g).bind fun h=>(loop (fun s:LO×LK×Int=>fy f b h s.1 s.2.1 s.2.2) (e,d,0)).bind fun r=>lA c r.1 r.2) (some (.out e))
def nE (d:LR) (b:Int) (c:ah):Option LO:=(loop (fun s:LO×LK×Int=>gY d b s.1 s.2.1 s.2.2) (([]:LO),[c],0)).bind fun r=>oe r
theorem u0 (T:Nat→Prop) (W0:World) (hT:TW T W0) (l:LR) (b:Int) (u:ah) (q:Value) (c3:aD aa T W0 q l) (y:LO) (hM:nE l b u=some y):bc aQ No 140 [q,aj b,.agg (aX u).toArray] W0 (fun v w'=>∃ (b2:Nat) (an:Array MapEntry) (ak:Nat),v = .map (some b2)∧L8 ac true aS.bool false T W0 w' [om b2 an ak] b2 an ak y):=by
 refine en Tryz.func140 Tryz.ntmps140 hT fun a hS=>?_;replace hS:=hS.fS (aD.dn c3);unfold nE at hM;refine al hS fun a hS=>?_;refine kb hS fun c4 d2 a w hk hS=>?_;refine al hS fun a hS=>?_;refine wl rfl (rN ac true aS.bool false hS rfl fun e d3 a w hk hS=>?_);refine al hS fun a hS=>?_;refine wl rfl (bf (ps:=[(0,.tmp 15)]) hS gf gl (zl:=[aj 0,a8 cr]) (by kernel_rfl) rfl (us:=[(aX u)]) ⟨rfl,trivial⟩ (ws:=(aX u)) rfl rfl rfl rfl fun c5 a w hk hS=>?_);refine al hS fun a hS=>?_;refine aJ (J:=fun a w=>∃ (P:LO) (A:AM) (D:Nat),St W0 No T 57 [(7,.map (some e))] [om e A D] [uU A P] a w∧oe P=some y) ?_ ?_
 ·skip;refine al hS fun a hS=>?_;replace hS:=hS.lit (R:=ac) (us:=(aX u)) (xs:=[u]) 0 rfl (by decide) (aB.one_ (R:=ac) (x:=u) rfl) rfl rfl;obtain⟨r1,c1,hMo1⟩:=bd hM;refine bB _ (fun s a w=>∃ (C:LO) (B:LK) (f:Int) (I:AM) (Y:Nat) (U:Value) (E:LV),(C,B,f)=s∧St W0 No T 57 [(0,q),(1,aj b),(7,.map (some e)),(8,U),(9,aj f)] [om e I Y,ay U E] [aK aa q l,uU I C,ao ac E B] a w) c1 ⟨_,_,_,_,_,_,_,rfl,hS.mt [1,0] [2,1,0]⟩ ?_;rintro s a w f1 ⟨C,B,f,I,Y,U,E,rfl,hS⟩ hM hf1;have hM:gY l b C B f=some f1:=hM;unfold gY at hM;refine aA ?_;refine al hS fun a hS=>?_;rcases cd hM with⟨b3,hM⟩|⟨b3,hM⟩
  ·refine al hS fun a hS=>?_;refine aJ (J:=fun a w=>∃ (Q:LO) (N:LK) (K:AM) (Z:Nat) (V:Value) (F:LV),St W0 No T 57 [(0,q),(1,aj b),(7,.map (some e)),(8,V),(9,aj f)] [om e K Z,ay V F] [aK aa q l,uU K Q,ao ac F N] a w∧lA f Q N=some f1) ?_ ?_
   ·skip;refine al hS fun a hS=>?_;obtain⟨a1,a5,hM⟩:=bd hM;refine wl rfl (cU (R:=ac) hS mM e7 rfl rfl 1 rfl 2 rfl a5 rfl fun c6 d6 ds ck b4 b5 b6 a hS=>?_);obtain rfl:=b4;refine qy hS (bp (k:=0) hS e7 1 rfl b5 b6 rfl id (us:=(aX a1)) rfl rfl (fun h=>by cases h)) fun a hS=>?_;obtain⟨n,a9,hM⟩:=bd hM;refine kc hS oC (bx _ _ hS.dlt l a1 _ (hS.get 0 rfl) _ a9) fun _ w hR a hk hA=>?_;obtain⟨p,o,he,a3⟩:=hR;obtain rfl:=he.symm;have hS:=qe hA a3;refine al hS fun a hS=>?_;refine ka hS dq fun c9 d4 a w hk hS=>?_;refine go hS fun a w hS=>?_;obtain⟨r2,c2,hMo2⟩:=bd hM;refine bB _ (fun s a w=>∃ (m:LO) (j:LK) (g:Int) (t:AM) (G:Nat) (z:Value) (r:LV),(m,j,g)=s∧St W0 No T 57 [(0,q),(1,aj b),(7,.map (some e)),(8,z),(9,aj f),(33,p),(34,aj (n.1.Reads.length:Int)),(35,aj g)] [om e t G,ay z r,ay p o] [aK aa q l,uU t m,ao ac r j,ao ac o n.1.Reads] a w) c2 ⟨_,_,_,_,_,_,_,rfl,hS.mt [2,3,1] [1,2,3,0]⟩ ?_;rintro s a w f2 ⟨m,j,g,t,G,z,r,rfl,hS⟩ hM hf2;have hM:fy l b n m j g=some f2:=hM;unfold fy at hM;refine al hS fun a hS=>?_;refine aA ?_;rcases cd hM with⟨b8,hM⟩|⟨b8,hM⟩
    ·refine al hS fun a hS=>?_;refine aJ (J:=fun a w=>∃ (S:LO) (O:LK) (L:AM) (a0:Nat) (W:Value) (H:LV),St W0 No T 57 [(0,q),(1,aj b),(7,.map (some e)),(8,W),(9,aj f),(33,p),(34,aj (n.1.Reads.length:Int)),(35,aj g)] [om e L a0,ay W H,ay p o] [aK aa q l,uU L S,ao ac H O,ao ac o n.1.Reads] a w∧lB g S O=some f2) ?_ ?_
     ·skip;refine al hS fun a hS=>?_;obtain⟨d,a4,hM⟩:=bd hM;refine wl rfl (cU (R:=ac) hS mM e7 rfl rfl 2 rfl 3 rfl a4 rfl fun ca dl e0 cl b9 bb bi a hS=>?_);obtain rfl:=b9;refine qy hS (bp (k:=0) hS e7 2 rfl bb bi rfl id (us:=(aX d)) rfl rfl (fun h=>by cases h)) fun a hS=>?_;refine ka hS gl fun X d5 a w hk hS=>?_;refine go hS fun a w hS=>?_;refine aJ (J:=fun a w=>∃ (M:Bool),St W0 No T 57 [(0,q),(1,aj b),(7,.map (some e)),(8,z),(9,aj f),(13,pt X 0),(33,p),(34,aj (n.1.Reads.length:Int)),(35,aj g),(48,.bool M)] [om e t G,ay z r,ay p o,.box X (aX d) 31] [aK aa q l,uU t m,ao ac r j,ao ac o n.1.Reads] a w∧lC m j g d M=some f2) ?_ ?_
      ·skip;refine al hS fun a hS=>?_;obtain⟨e2,af,hM⟩:=bd hM;refine kc hS JL (wv _ _ hS.dlt l b d _ (hS.get 0 rfl) _ af) fun _ w hR a hk hA=>?_;obtain rfl:=hR;have hS:=bS hA;refine al hS fun a hS=>?_;rcases cd hM with⟨a2,hM⟩|⟨a2,hM⟩
       ·refine al hS fun a hS=>?_;obtain⟨c0,ag,hM⟩:=bd hM;obtain⟨co,bl,bs⟩:=lR hS Af ei 1 rfl 1 rfl (c:=(aX d)) (key:=d) rfl L3 (zc:=[.bool false]) rfl rfl ag;obtain rfl:=bl;refine wg hS rfl rfl rfl a2 (ky (v:=.bool c0) hS (bs rfl rfl id) rfl rfl fun a hS=>?_);exact fz
       exact fz
      rintro a w ⟨M,hS,hM⟩;unfold lC at hM;rcases cd hM with⟨bt,hM⟩|⟨bt,hM⟩
      ·refine al hS fun a hS=>?_;refine wl rfl (yQ hS Af ei 0 rfl 1 rfl (c:=(aX d)) (cv:=[.bool true]) (key:=d) (val:=true) rfl rfl rfl rfl rfl fun d1 cs w hk hS=>?_);refine al hS fun a hS=>?_;refine wl rfl (bf (ps:=[(0,.tmp 52)]) hS gf gl (zl:=[aj 0,a8 cr]) (by kernel_rfl) rfl (us:=[(aX d)]) ⟨rfl,trivial⟩ (ws:=(aX d)) rfl rfl rfl rfl fun ch a w hk hS=>?_);replace hS:=(hS.lit (R:=ac) (us:=(aX d)) (xs:=[d]) 0 rfl (by decide) (aB.one_ (R:=ac) (x:=d) rfl) rfl rfl).freeze (R:=ac) 0 rfl 0 rfl;obtain⟨bF,hM⟩:=bo hM;refine wl rfl (bM (R:=ac) (xs:=j) (ys:=[d]) hS gf (by decide) (by decide) rfl rfl 1 rfl 5 rfl 0 rfl bF rfl fun e3 d0 a w hk hS=>?_);exact fz
      exact fz
     rintro a w ⟨S,O,L,a0,W,H,hS,hM⟩;unfold lB at hM;exact fz
    refine al hS fun a hS=>?_;cases hM
    have hr:=hf2 _ rfl;subst hr;have hM:lA f m j=some f1:=hMo2;exact⟨_,_,_,_,_,_,hS.mt [0,1] [0,1,2],hM⟩
   rintro a w ⟨Q,N,K,Z,V,F,hS,hM⟩;unfold lA at hM;exact fz
  exact fz
 rintro a w ⟨P,A,D,hS,hM⟩;unfold oe at hM;refine al hS fun a hS=>?_;cases hM
 refine aH hS rfl (az hS rfl aF) ?_;exact⟨e,A,D,rfl,hS.retMap ⟨.inr (aG (i:=0) rfl),trivial⟩ 0 rfl 0 rfl⟩
def rR (b:LK):Option LK:=(iG b).bind fun c=>some (c)
def pK (b:Int) (c:LK):Option (Fl (LK×Int) (LK)):=some (.go (c,IntKind.i64.wrap (b+1)))
def nC (b:LK) (d:Int) (c:ab) (e:Bool):Option (Fl (LK×Int) (LK)):=cond e (gd (bT (b.length+([c.Key]).length)) <| pK d (b++([c.Key]))) (pK d b)
def nD (g:LR) (e:Int) (f:ah) (h:LO) (d:LK) (c:Int):Option (Fl (LK×Int) (LK)):=cond (decide (c<(g.length:Int))) ((bg g c).bind fun b=>cond (!(b.Key.Kind==f.Kind&&b.Key.Text.toList==f.Text.toList)) ((some ((cV aP b.Key h).getD false)).bind fun i=>cond i ((nE g e b.Key).bind fun j=>(some ((cV aP f j).getD false)).bind fun k=>nC d c b k) (nC d c b false)) (nC d c b false)) (some (.out d))
def mE (d:LR) (b:Int) (c:ah):Option LK:=(oR d b c).bind fun f=>cond (!(f)) (some ([c])) ((nE d b c).bind fun e=>(loop (fun s:LK×Int=>nD d b c e s.1 s.2) ([c],0)).bind fun r=>rR r)
theorem s9 (T:Nat→Prop) (W0:World) (hT:TW T W0) (hLv:dx T W0) (f:LR) (b:Int) (d:ah) (o:Value) (bi:aD aa T W0 o f) (y:LK) (hM:mE f b d=some y):bc aQ No 114 [o,aj b,.agg (aX d).toArray] W0 (fun v w'=>∃ (v2:Value) (jT:bh),v=v2∧ip ac T W0 w' [ay v2 jT] 31 v2 jT y):=by
 refine en Tryz.func114 Tryz.ntmps114 hT fun a hS=>?_;replace hS:=(hS.fact bu (dx.dn hLv)).fS (aD.dn bi);unfold mE at hM;refine al hS fun a hS=>?_;refine kb hS fun m c3 a w hk hS=>?_;refine al hS fun a hS=>?_;refine aA ?_;refine al hS fun a hS=>?_;obtain⟨ca,a2,hM⟩:=bd hM;refine kc hS JL (wv _ _ hS.dlt f b d _ (hS.get 0 rfl) _ a2) fun _ w hR a hk hA=>?_;obtain rfl:=hR;have hS:=bS hA;refine al hS fun a hS=>?_;rcases cd hM with⟨ak,hM⟩|⟨ak,hM⟩
 ·refine al hS fun a hS=>?_;refine wl rfl (bf (ps:=[(0,.tmp 16)]) hS gf gl (zl:=[aj 0,a8 cr]) (by kernel_rfl) rfl (us:=[(aX d)]) ⟨rfl,trivial⟩ (ws:=(aX d)) rfl rfl rfl rfl fun a4 a w hk hS=>?_);refine al hS fun a hS=>?_;replace hS:=hS.lit (R:=ac) (us:=(aX d)) (xs:=[d]) 0 rfl (by decide) (aB.one_ (R:=ac) (x:=d) rfl) rfl rfl;cases hM
  refine aH hS rfl (az hS rfl aF) ?_;exact⟨(.slice (some ⟨a4,0,none⟩) 1 1),(aX d),rfl,hS.retOwn ⟨.inr (aG (i:=0) rfl),trivial⟩ 0 rfl 0 rfl⟩
 refine al hS fun a hS=>?_;refine wl rfl (bf (ps:=[(0,.tmp 18)]) hS gf gl (zl:=[aj 0,a8 cr]) (by kernel_rfl) rfl (us:=[(aX d)]) ⟨rfl,trivial⟩ (ws:=(aX d)) rfl rfl rfl rfl fun bl a w hk hS=>?_);refine al hS fun a hS=>?_;obtain⟨t,Y,hM⟩:=bd hM;refine kc hS JM (u0 _ _ hS.dlt f b d _ (hS.get 0 rfl) _ Y) fun _ w hR a hk hA=>?_;obtain⟨h,j,q,he,⟨M,I,P⟩⟩:=hR;obtain rfl:=he.symm;have hS:=hA [om h j q] (fG M (EK I)) (uz _);replace hS:=hS.fM (P.keep (ai _ _) (oE _));refine al hS fun a hS=>?_;refine aJ (J:=fun a w=>∃ (r:LK) (D:Value) (u:LV),St W0 No T 57 [(7,D)] [ay D u] [ao ac u r,bu] a w∧rR r=some y) ?_ ?_
 ·skip;refine al hS fun a hS=>?_;replace hS:=hS.lit (R:=ac) (us:=(aX d)) (xs:=[d]) 1 rfl (by decide) (aB.one_ (R:=ac) (x:=d) rfl) rfl rfl;obtain⟨r1,bb,hMo1⟩:=bd hM;refine bB _ (fun s a w=>∃ (k:LK) (g:Int) (p:Value) (n:LV),(k,g)=s∧St W0 No T 57 [(0,o),(1,aj b),(5,pt m 0),(7,p),(8,.map (some h)),(24,o),(25,aj (f.length:Int)),(26,aj g)] [ay p n,om h j q,.box m (aX d) 31] [aK aa o f,ao ac n k,uU j t,bu] a w) bb ⟨_,_,_,_,rfl,hS.mt [1,0,2] [2,0,1,3]⟩ ?_;rintro s a w f1 ⟨k,g,p,n,rfl,hS⟩ hM hf1;have hM:nD f b d t k g=some f1:=hM;unfold nD at hM;refine al hS fun a hS=>?_;refine aA ?_;rcases cd hM with⟨an,hM⟩|⟨an,hM⟩
  ·refine al hS fun a hS=>?_;refine aJ (J:=fun a w=>∃ (C:LK) (E:Value) (z:LV),St W0 No T 57 [(0,o),(1,aj b),(5,pt m 0),(7,E),(8,.map (some h)),(24,o),(25,aj (f.length:Int)),(26,aj g)] [ay E z,om h j q,.box m (aX d) 31] [aK aa o f,ao ac z C,uU j t,bu] a w∧pK g C=some f1) ?_ ?_
   ·skip;refine al hS fun a hS=>?_;obtain⟨e,W,hM⟩:=bd hM;refine wl rfl (bD (R:=aa) hS dM bZ rfl rfl 0 rfl W rfl fun bs c5 bF av a hS=>?_);obtain⟨U,rfl,a3⟩:=av;replace hS:=hS.fS a3;refine al hS fun a hS=>?_;refine ka hS dq fun F c4 a w hk hS=>?_;refine go hS fun a w hS=>?_;refine aJ (J:=fun a w=>∃ (A:Bool),St W0 No T 57 [(0,o),(1,aj b),(5,pt m 0),(7,p),(8,.map (some h)),(10,pt F 0),(24,o),(25,aj (f.length:Int)),(26,aj g),(48,.bool A)] [ay p n,om h j q,.box m (aX d) 31,.box F (aE e U) 33] [aK aa o f,ao ac n k,uU j t,aK ac U e.Reads,bu] a w∧nC k g e A=some f1) ?_ ?_
    ·skip;refine dr [] hS fun w hQ hS=>?_;refine gE [0,1,2] hS fun a hS=>?_;refine dy 3 (v:=.bool (!(e.Key.Kind==d.Kind&&e.Key.Text.toList==d.Text.toList))) rfl (by kernel_rfl) (by kernel_rfl) (by kernel_rfl) rfl hQ hS (AE hS rfl rfl) rfl rfl rfl fun a hS=>?_;refine gE [4] hS fun a hS=>?_;rcases cd hM with⟨H,hM⟩|⟨H,hM⟩
     ·refine gE [5,6,7] hS fun a hS=>?_;obtain⟨b6,Z,hM⟩:=bd hM;obtain⟨c0,b0,b1⟩:=lR hS Af ei 2 rfl 4 rfl (c:=(aX e.Key)) (key:=e.Key) rfl L3 (zc:=[.bool false]) rfl rfl Z;obtain rfl:=b0;refine yG (l:=[]) 8 (v:=.bool b6) rfl (by kernel_rfl) (by kernel_rfl) (by kernel_rfl) (by kernel_rfl) hQ hS (b1 rfl rfl br) rfl rfl rfl H rfl rfl fun a hS=>?_;refine gE [9,10] hS fun a hS=>?_;rcases cd hM with⟨B,hM⟩|⟨B,hM⟩
      ·refine gE [11,12,13,14,16] hS fun a hS=>?_;obtain⟨c9,a0,hM⟩:=bd hM;refine bV (i:=15) rfl (by kernel_rfl) hS rfl rfl rfl B (be hS JM rfl rfl (u0 _ _ hS.dlt f b e.Key _ (hS.get 2 rfl) _ a0) fun _ w hR a hk hA=>⟨eS (hk),?_⟩);obtain⟨a5,af,a9,he,⟨N,K,Q⟩⟩:=hR;obtain rfl:=he.symm;have hS:=hA [om a5 af a9] (fG N (EK K)) (uz _);replace hS:=hS.fM (Q.keep (ai _ _) (oE _));obtain⟨b8,a1,hM⟩:=bd hM;obtain⟨c1,b2,b3⟩:=lR hS Af ei 0 rfl 0 rfl (c:=(aX d)) (key:=d) rfl L3 (zc:=[.bool false]) rfl rfl a1;obtain rfl:=b2;refine yG (l:=[]) 17 (v:=.bool b8) rfl (by kernel_rfl) (by kernel_rfl) (by kernel_rfl) (by kernel_rfl) hQ hS (b3 rfl rfl br) rfl rfl rfl B rfl rfl fun a hS=>?_;refine gE [18] hS fun a hS=>?_;refine eD ?_;exact⟨_,hS.mt [2,3,4,1] [3,4,5,1,6],hM⟩
      refine gE [11,12,13,14,15,16,17,18] hS fun a hS=>?_;refine eD ?_;exact⟨_,hS.mt [1,2,3,0] [2,3,4,0,5],hM⟩
     refine gE [5,6,7,8,9,10,11,12,13,14,15,16,17,18] hS fun a hS=>?_;refine eD ?_;exact⟨_,hS.mt [1,2,3,0] [2,3,4,0,5],hM⟩
    rintro a w ⟨A,hS,hM⟩;unfold nC at hM;rcases cd hM with⟨b4,hM⟩|⟨b4,hM⟩
    ·refine al hS fun a hS=>?_;refine wl rfl (bf (ps:=[(0,.tmp 51)]) hS gf gl (zl:=[aj 0,a8 cr]) (by kernel_rfl) rfl (us:=[(aX e.Key)]) ⟨rfl,trivial⟩ (ws:=(aX e.Key)) rfl rfl rfl rfl fun bt a w hk hS=>?_);replace hS:=(hS.lit (R:=ac) (us:=(aX e.Key)) (xs:=[e.Key]) 0 rfl (by decide) (aB.one_ (R:=ac) (x:=e.Key) rfl) rfl rfl).freeze (R:=ac) 0 rfl 0 rfl;obtain⟨b5,hM⟩:=bo hM;refine wl rfl (bM (R:=ac) (xs:=k) (ys:=[e.Key]) hS gf (by decide) (by decide) rfl rfl 0 rfl 3 rfl 0 rfl b5 rfl fun ch c2 a w hk hS=>?_);exact fz
    exact fz
   rintro a w ⟨C,E,z,hS,hM⟩;unfold pK at hM;exact fz
  exact fz
 rintro a w ⟨r,D,u,hS,hM⟩;unfold rR at hM;refine al hS fun a hS=>?_;have hL:=hS;replace hL:=hL.freeze (R:=ac) 0 rfl 0 rfl;obtain⟨c6,X,hM⟩:=bd hM;refine kc hS Km (ro _ _ hL.dlt (hL.get 2 rfl) r _ (hL.get 0 rfl) _ X) fun _ w hR a hk hA=>?_;obtain⟨V,G,he,⟨O,L,S⟩⟩:=hR;obtain rfl:=he.symm;have hS:=hA [ay V G] (fG ⟨O,by decide⟩ L) (uz _);replace hS:=hS.fR S;refine al hS fun a hS=>?_;cases hM
 refine aH hS rfl (az hS rfl aF) ?_;exact⟨V,G,rfl,hS.retOwn ⟨.inr (aG (i:=0) rfl),trivial⟩ 0 rfl 0 rfl⟩
end
end
section
set_option maxRecDepth 100000
set_option maxHeartbeats 4000000
open Go.RowKit
noncomputable section
def iQ (b:LN):Option Bool:=some (decide ((b.length:Int)≤400))
theorem qp (T:Nat→Prop) (W0:World) (hT:TW T W0) (b:LN) (d:Value) (c:aD (aS.int .i64) T W0 d b) (y:Bool) (hM:iQ b=some y):bc aQ No 8 [d] W0 (fun v w'=>v = .bool y):=by
 refine en Tryz.func8 Tryz.ntmps8 hT fun a hS=>?_;replace hS:=hS.fS (aD.dn c);unfold iQ at hM;exact fz
def wQ:Option Int:=some (0)
def lQ (c:LN) (b:Int):Option (Fl (Int) (Fl (Unit) Int)):=cond (decide (b<(c.length:Int))) ((bg c b).bind fun d=>cond (d != 0) (some (.out (.out d))) (some (.go (IntKind.i64.wrap (b+1))))) (some (.out (.go ())))
def tE (b:LN):Option Int:=(loop (fun s:Int=>lQ b s) 0).bind fun r=>Fl.el r (fun s=>wQ) (fun y=>some (y))
theorem Cr (T:Nat→Prop) (W0:World) (hT:TW T W0) (b:LN) (e:Value) (i:aD (aS.int .i64) T W0 e b) (y:Int) (hM:tE b=some y):bc aQ No 43 [e] W0 (fun v w'=>v=aj y):=by
 refine en Tryz.func43 Tryz.ntmps43 hT fun a hS=>?_;replace hS:=hS.fS (aD.dn i);unfold tE at hM;refine al hS fun a hS=>?_;refine aJ (J:=fun a w=>St W0 No T 18 [(3,aj 0)] [] [] a w∧wQ=some y) ?_ ?_
 ·skip;refine al hS fun a hS=>?_;obtain⟨o,h,hMo1⟩:=bd hM;refine bB _ (fun s a w=>∃ (c:Int),c=s∧St W0 No T 18 [(3,aj 0),(6,e),(7,aj (b.length:Int)),(8,aj c)] [] [aK (aS.int .i64) e b] a w) h ⟨_,rfl,hS.mt [] [0]⟩ ?_;rintro s a w m ⟨c,rfl,hS⟩ hM hf1;have hM:lQ b c=some m:=hM;unfold lQ at hM;refine al hS fun a hS=>?_;refine aA ?_;rcases cd hM with⟨f,hM⟩|⟨f,hM⟩
  ·refine al hS fun a hS=>?_;refine aA ?_;refine al hS fun a hS=>?_;obtain⟨l,d,hM⟩:=bd hM;refine wl rfl (bD (R:=(aS.int .i64)) hS DW zB rfl rfl 0 rfl d rfl fun j n k g a hS=>?_);obtain rfl:=g;exact fz
  exact fz
 rintro a w ⟨hS,hM⟩;unfold wQ at hM;exact fz
def mo (b:Int):Option Bool:=some (b != b)
theorem tl (T:Nat→Prop) (W0:World) (hT:TW T W0) (b:Int) (y:Bool) (hM:mo b=some y):bc aQ No 70 [aj b] W0 (fun v w'=>v = .bool y):=by
 refine en Tryz.func70 Tryz.ntmps70 hT fun a hS=>?_;unfold mo at hM;exact fz
def lc (c:Int) (d:Int):Option Int:=(mo c).bind fun e=>(mo d).bind fun b=>cond e (cond b (some (0)) (some ((-1)))) (cond b (some (1)) (cond (decide (c<d)) (some ((-1))) (cond (decide (d<c)) (some (1)) (some (0)))))
theorem rX (T:Nat→Prop) (W0:World) (hT:TW T W0) (b:Int) (c:Int) (y:Int) (hM:lc b c=some y):bc aQ No 44 [aj b,aj c] W0 (fun v w'=>v=aj y):=by
 refine en Tryz.func44 Tryz.ntmps44 hT fun a hS=>?_;unfold lc at hM;refine al hS fun a hS=>?_;obtain⟨i,d,hM⟩:=bd hM;refine kc hS ML (tl _ _ hS.dlt b _ d) fun _ w hR a hk hA=>?_;obtain rfl:=hR;have hS:=bS hA;refine al hS fun a hS=>?_;obtain⟨j,e,hM⟩:=bd hM;refine kc hS ML (tl _ _ hS.dlt c _ e) fun _ w hR a hk hA=>?_;obtain rfl:=hR;have hS:=bS hA;refine al hS fun a hS=>?_;refine aA ?_;refine al hS fun a hS=>?_;rcases cd hM with⟨f,hM⟩|⟨f,hM⟩
 ·refine al hS fun a hS=>?_;refine aA ?_;exact fz
 refine al hS fun a hS=>?_;refine aA ?_;refine al hS fun a hS=>?_;rcases cd hM with⟨g,hM⟩|⟨g,hM⟩
 ·exact fz
 refine al hS fun a hS=>?_;refine aA ?_;refine al hS fun a hS=>?_;rcases cd hM with⟨h,hM⟩|⟨h,hM⟩
 ·exact fz
 refine al hS fun a hS=>?_;refine aA ?_;exact fz
def sY (b:ah) (c:ah):Option Int:=(lc b.Kind c.Kind).bind fun d=>(su b.Text c.Text).bind fun e=>(tE ([d,e])).bind fun f=>some (f)
theorem wU (T:Nat→Prop) (W0:World) (hT:TW T W0) (hLv:dx T W0) (d:ah) (e:ah) (y:Int) (hM:sY d e=some y):bc aQ No 45 [.agg (aX d).toArray,.agg (aX e).toArray] W0 (fun v w'=>v=aj y):=by
 refine en Tryz.func45 Tryz.ntmps45 hT fun a hS=>?_;replace hS:=hS.fact bu (dx.dn hLv);unfold sY at hM;refine al hS fun a hS=>?_;refine kb hS fun i l a w hk hS=>?_;refine kb hS fun j m a w hk hS=>?_;refine al hS fun a hS=>?_;refine aA ?_;refine dr [] hS fun w hQ hS=>?_;refine gE [0,1,2,3,5,6,7,8] hS fun a hS=>?_;obtain⟨b,f,hM⟩:=bd hM;refine ec 4 hS Kn (rX _ _ hS.dlt d.Kind e.Kind _ f) fun _ w hR a hk hA=>?_;obtain rfl:=hR;have hS:=bS hA;obtain⟨c,g,hM⟩:=bd hM;refine ec 9 hS MK (xq _ _ hS.dlt (hS.get 0 rfl) d.Text e.Text _ g) fun _ w hR a hk hA=>?_;obtain rfl:=hR;have hS:=bS hA;refine e1 10 (bf (ps:=[(0,.tmp 9),(1,.tmp 14)]) hS Fs L1 (zl:=[aj 0,aj 0]) (by kernel_rfl) rfl (us:=[[aj b],[aj c]]) ⟨rfl,⟨rfl,trivial⟩⟩ (ws:=[aj b,aj c]) rfl rfl rfl rfl fun k a w hk hS=>⟨eS (hk),?_⟩);replace hS:=hS.lit (R:=(aS.int .i64)) (us:=[aj b,aj c]) (xs:=[b,c]) 0 rfl (by decide) ((aB.one_ (R:=(aS.int .i64)) (x:=b) rfl).append (aB.one_ (R:=(aS.int .i64)) (x:=c) rfl)) rfl rfl;have hL:=hS;replace hL:=hL.freeze (R:=(aS.int .i64)) 0 rfl 0 rfl;obtain⟨n,h,hM⟩:=bd hM;refine ec 11 hS MH (Cr _ _ hL.dlt ([b,c]) _ (hL.get 0 rfl) _ h) fun _ w hR a hk hA=>?_;obtain rfl:=hR;have hS:=bS hA;refine gE [12] hS fun a hS=>?_;refine eD ?_;exact fz
def rf (b:Bool):Option Bool:=some (b)
def mQ (b:Int):Option Bool:=cond (decide ((30:Int)≤b)) (rf (decide (b≤32))) (rf false)
theorem AN (T:Nat→Prop) (W0:World) (hT:TW T W0) (c:Int) (y:Bool) (hM:mQ c=some y):bc aQ No 130 [aj c] W0 (fun v w'=>v = .bool y):=by
 refine en Tryz.func130 Tryz.ntmps130 hT fun a hS=>?_;unfold mQ at hM;refine al hS fun a hS=>?_;refine aJ (J:=fun a w=>∃ (b:Bool),St W0 No T 9 [(2,.bool b)] [] [] a w∧rf b=some y) ?_ ?_
 ·exact fz
 rintro a w ⟨b,hS,hM⟩;unfold rf at hM;exact fz
def jV (c:ah):Option Int:=(mQ c.Kind).bind fun d=>cond (!(d)) (some ((-1))) ((vP c.Text).bind fun b=>cond b.2 (some ((-1))) (cond (decide (b.1<0)) (some ((-1))) (cond (decide ((99:Int)<b.1)) (some ((-1))) ((vY b.1).bind fun e=>cond (!(e.toList==c.Text.toList)) (some ((-1))) (some (b.1))))))
theorem BA (T:Nat→Prop) (W0:World) (hT:TW T W0) (hLv:dx T W0) (b:ah) (y:Int) (hM:jV b=some y):bc aQ No 131 [.agg (aX b).toArray] W0 (fun v w'=>v=aj y):=by
 refine en Tryz.func131 Tryz.ntmps131 hT fun a hS=>?_;replace hS:=hS.fact bu (dx.dn hLv);unfold jV at hM;refine al hS fun a hS=>?_;refine kb hS fun m n a w hk hS=>?_;refine al hS fun a hS=>?_;refine aA ?_;refine al hS fun a hS=>?_;obtain⟨o,f,hM⟩:=bd hM;refine kc hS JH (AN _ _ hS.dlt b.Kind _ f) fun _ w hR a hk hA=>?_;obtain rfl:=hR;have hS:=bS hA;refine al hS fun a hS=>?_;rcases cd hM with⟨j,hM⟩|⟨j,hM⟩
 ·exact fz
 refine al hS fun a hS=>?_;obtain⟨e,g,hM⟩:=bd hM;refine kc hS Mx (H5 _ _ hS.dlt (hS.get 0 rfl) b.Text _ g) fun _ w hR a hk hA=>?_;obtain⟨q,he,d⟩:=hR;obtain rfl:=he.symm;have hS:=hA [] (fun r hr=>by cases hr) uL;refine al hS fun a hS=>?_;refine aA ?_;refine aA ?_;refine dr [] hS fun w hQ hS=>?_;refine gE [0] hS fun a hS=>?_;refine dy 1 (v:=.bool e.2) rfl (by kernel_rfl) (by kernel_rfl) (by kernel_rfl) rfl hQ hS (Jl hS rfl d MW) rfl rfl rfl fun a hS=>?_;refine gE [2] hS fun a hS=>?_;rcases cd hM with⟨k,hM⟩|⟨k,hM⟩
 ·refine gE [3,4,5,6,7,8,9,10,11,12,13,14,15,16] hS fun a hS=>?_;refine eD ?_;exact fz
 refine gE [3,4,5,6] hS fun a hS=>?_;rcases cd hM with⟨l,hM⟩|⟨l,hM⟩
 ·refine gE [7,8,9,10,11,12,13,14,15,16] hS fun a hS=>?_;refine eD ?_;exact fz
 refine gE [7,8,9,10] hS fun a hS=>?_;rcases cd hM with⟨c,hM⟩|⟨c,hM⟩
 ·refine gE [11,12,13,14,15,16] hS fun a hS=>?_;refine eD ?_;exact fz
 refine gE [11,13,14] hS fun a hS=>?_;obtain⟨p,h,hM⟩:=bd hM;refine bV (i:=12) rfl (by kernel_rfl) hS rfl rfl rfl c (be hS Ep rfl rfl (xX _ _ hS.dlt (hS.get 0 rfl) e.1 _ h) fun _ w hR a hk hA=>⟨eS (hk),?_⟩);obtain rfl:=hR;have hS:=bS hA;refine gE [15,16] hS fun a hS=>?_;refine eD ?_;exact fz
def fO (b:Bool):Option Bool:=some (b)
def jW (b:Int):Option Bool:=cond (decide ((1:Int)≤b)) (fO (decide (b≤22))) (fO false)
theorem tL (T:Nat→Prop) (W0:World) (hT:TW T W0) (c:Int) (y:Bool) (hM:jW c=some y):bc aQ No 132 [aj c] W0 (fun v w'=>v = .bool y):=by
 refine en Tryz.func132 Tryz.ntmps132 hT fun a hS=>?_;unfold jW at hM;refine al hS fun a hS=>?_;refine aJ (J:=fun a w=>∃ (b:Bool),St W0 No T 9 [(2,.bool b)] [] [] a w∧fO b=some y) ?_ ?_
 ·exact fz
 rintro a w ⟨b,hS,hM⟩;unfold fO at hM;exact fz
def iC (b:Bool):Option Bool:=some (b)
def lT (b:ah) (c:Bool):Option Bool:=(jW b.Kind).bind fun d=>cond d (cond (decide (((b.Text.size:Int):Int)≤1073741824)) (cond (!(c)) (iC true) (iC (b.Text.toList==cr.toList))) (iC false)) (iC false)
def dv (b:ah):Option Bool:=(mQ b.Kind).bind fun c=>cond c ((jV b).bind fun d=>some (decide ((0:Int)≤d))) (cond (b.Kind==1) (lT b true) (lT b (b.Kind==21)))
theorem tK (T:Nat→Prop) (W0:World) (hT:TW T W0) (hLv:dx T W0) (b:ah) (y:Bool) (hM:dv b=some y):bc aQ No 105 [.agg (aX b).toArray] W0 (fun v w'=>v = .bool y):=by
 refine en Tryz.func105 Tryz.ntmps105 hT fun a hS=>?_;replace hS:=hS.fact bu (dx.dn hLv);unfold dv at hM;refine al hS fun a hS=>?_;refine kb hS fun e j a w hk hS=>?_;refine al hS fun a hS=>?_;refine aA ?_;refine al hS fun a hS=>?_;obtain⟨l,g,hM⟩:=bd hM;refine kc hS JH (AN _ _ hS.dlt b.Kind _ g) fun _ w hR a hk hA=>?_;obtain rfl:=hR;have hS:=bS hA;refine al hS fun a hS=>?_;rcases cd hM with⟨i,hM⟩|⟨i,hM⟩
 ·refine al hS fun a hS=>?_;obtain⟨m,h,hM⟩:=bd hM;refine kc hS Mo (BA _ _ hS.dlt (hS.get 0 rfl) b _ h) fun _ w hR a hk hA=>?_;obtain rfl:=hR;have hS:=bS hA;exact fz
 refine al hS fun a hS=>?_;refine aJ (J:=fun a w=>∃ (c:Bool),St W0 No T 36 [(1,pt e 0),(3,.bool c)] [.box e (aX b) 31] [bu] a w∧lT b c=some y) ?_ ?_
 ·exact fz
 rintro a w ⟨c,hS,hM⟩;unfold lT at hM;refine aJ (J:=fun a w=>∃ (d:Bool),St W0 No T 36 [(2,.bool d)] [] [bu] a w∧iC d=some y) ?_ ?_
 ·skip;refine al hS fun a hS=>?_;obtain⟨k,f,hM⟩:=bd hM;refine kc hS JI (tL _ _ hS.dlt b.Kind _ f) fun _ w hR a hk hA=>?_;obtain rfl:=hR;have hS:=bS hA;exact fz
 rintro a w ⟨d,hS,hM⟩;unfold iC at hM;exact fz
def lS (b:Bool):Option Bool:=some (b)
def oK (b:ah):Option Bool:=cond (b.Kind==1) (lS true) (cond (b.Kind==2) (lS true) (lS (b.Kind==30)))
theorem xv (T:Nat→Prop) (W0:World) (hT:TW T W0) (c:ah) (y:Bool) (hM:oK c=some y):bc aQ No 106 [.agg (aX c).toArray] W0 (fun v w'=>v = .bool y):=by
 refine en Tryz.func106 Tryz.ntmps106 hT fun a hS=>?_;unfold oK at hM;refine al hS fun a hS=>?_;refine kb hS fun d e a w hk hS=>?_;refine al hS fun a hS=>?_;refine aJ (J:=fun a w=>∃ (b:Bool),St W0 No T 16 [(2,.bool b)] [] [] a w∧lS b=some y) ?_ ?_
 ·exact fz
 rintro a w ⟨b,hS,hM⟩;unfold lS at hM;exact fz
def k7:Option Bool:=some (false)
def ej (b:Bool):Option Bool:=cond b (some (true)) (k7)
def n4 (b:Int):Option Bool:=cond (b==7) (ej (b==7)) (cond (b==14) (ej (b==14)) (cond (b==17) (ej (b==17)) (ej (b==18))))
theorem wY (T:Nat→Prop) (W0:World) (hT:TW T W0) (c:Int) (y:Bool) (hM:n4 c=some y):bc aQ No 147 [aj c] W0 (fun v w'=>v = .bool y):=by
 refine en Tryz.func147 Tryz.ntmps147 hT fun a hS=>?_;unfold n4 at hM;refine al hS fun a hS=>?_;refine aJ (J:=fun a w=>St W0 No T 9 [] [] [] a w∧k7=some y) ?_ ?_
 ·skip;refine al hS fun a hS=>?_;refine aJ (J:=fun a w=>∃ (b:Bool),St W0 No T 9 [(4,.bool b)] [] [] a w∧ej b=some y) ?_ ?_
  ·exact fz
  rintro a w ⟨b,hS,hM⟩;unfold ej at hM;exact fz
 rintro a w ⟨hS,hM⟩;unfold k7 at hM;exact fz
def kK (b:Bool):Option Bool:=some (b)
def rc (b:ah):Option Bool:=cond (b.Kind==32) (kK true) ((jW b.Kind).bind fun c=>cond c ((n4 b.Kind).bind fun d=>kK d) (kK false))
theorem Bz (T:Nat→Prop) (W0:World) (hT:TW T W0) (c:ah) (y:Bool) (hM:rc c=some y):bc aQ No 127 [.agg (aX c).toArray] W0 (fun v w'=>v = .bool y):=by
 refine en Tryz.func127 Tryz.ntmps127 hT fun a hS=>?_;unfold rc at hM;refine al hS fun a hS=>?_;refine kb hS fun h i a w hk hS=>?_;refine al hS fun a hS=>?_;refine aJ (J:=fun a w=>∃ (b:Bool),St W0 No T 16 [(2,.bool b)] [] [] a w∧kK b=some y) ?_ ?_
 ·skip;refine al hS fun a hS=>?_;rcases cd hM with⟨d,hM⟩|⟨d,hM⟩
  ·exact fz
  refine al hS fun a hS=>?_;obtain⟨j,f,hM⟩:=bd hM;refine wg hS rfl rfl rfl d (be hS JI rfl rfl (tL _ _ hS.dlt c.Kind _ f) fun _ w hR a hk hA=>?_);obtain rfl:=hR;have hS:=bS hA;refine al hS fun a hS=>?_;rcases cd hM with⟨e,hM⟩|⟨e,hM⟩
  ·refine al hS fun a hS=>?_;obtain⟨k,g,hM⟩:=bd hM;refine wg hS rfl rfl rfl e (be hS Mv rfl rfl (wY _ _ hS.dlt c.Kind _ g) fun _ w hR a hk hA=>?_);obtain rfl:=hR;have hS:=bS hA;exact fz
  exact fz
 rintro a w ⟨b,hS,hM⟩;unfold kK at hM;exact fz
def gR (c:ah):Option Bool:=(dv c).bind fun b=>some (!(b))
theorem wZ (T:Nat→Prop) (W0:World) (hT:TW T W0) (hLv:dx T W0) (b:ah) (y:Bool) (hM:gR b=some y):bc aQ No 128 [.agg (aX b).toArray] W0 (fun v w'=>v = .bool y):=by
 refine en Tryz.func128 Tryz.ntmps128 hT fun a hS=>?_;replace hS:=hS.fact bu (dx.dn hLv);unfold gR at hM;refine al hS fun a hS=>?_;refine kb hS fun d e a w hk hS=>?_;refine al hS fun a hS=>?_;obtain⟨f,c,hM⟩:=bd hM;refine kc hS Gg (tK _ _ hS.dlt (hS.get 0 rfl) b _ c) fun _ w hR a hk hA=>?_;obtain rfl:=hR;have hS:=bS hA;exact fz
def r5:Option Int:=some ((-1))
def ff (c:LK) (f:ah→Option Bool) (b:Int):Option (Fl (Int) (Fl (Unit) Int)):=cond (decide (b<(c.length:Int))) ((bg c b).bind fun d=>(f d).bind fun e=>cond e (some (.out (.out b))) (some (.go (IntKind.i64.wrap (b+1))))) (some (.out (.go ())))
def oH (b:ah→Option Bool) (c:LK):Option Int:=(loop (fun s:Int=>ff c b s) 0).bind fun r=>Fl.el r (fun s=>r5) (fun y=>some (y))
theorem Bv (T:Nat→Prop) (W0:World) (hT:TW T W0) (hLv:dx T W0) (f_1g:Nat) (f:aU aQ f_1g=true) (f_1k:bh) (f_1P:bQ) (d:ah→Option Bool) (m:∀ (T:Nat→Prop) (W0:World) (hT:TW T W0) (hLv:dx T W0) (hP:f_1P.p T W0) (q:ah) (y:Bool) (hM:d q=some y),bc aQ No f_1g ([.agg (aX q).toArray]++f_1k) W0 (fun v w'=>v = .bool y)) (e:f_1P.p T W0) (c:LK) (i:Value) (o:aD ac T W0 i c) (y:Int) (hM:oH d c=some y):bc aQ No 148 [i,.func (.func f_1g) #[] f_1k.toArray] W0 (fun v w'=>v=aj y):=by
 refine en Tryz.func148 Tryz.ntmps148 hT fun a hS=>?_;replace hS:=((hS.fact f_1P (bQ.dn _ e)).fact bu (dx.dn hLv)).fS (aD.dn o);unfold oH at hM;refine al hS fun a hS=>?_;refine aJ (J:=fun a w=>St W0 No T 19 [] [] [bu,f_1P] a w∧r5=some y) ?_ ?_
 ·skip;refine al hS fun a hS=>?_;obtain⟨A,n,hMo1⟩:=bd hM;refine bB _ (fun s a w=>∃ (b:Int),b=s∧St W0 No T 19 [(0,i),(1,.func (.func f_1g) #[] f_1k.toArray),(7,aj (c.length:Int)),(8,aj b)] [] [aK ac i c,bu,f_1P] a w) n ⟨_,rfl,hS.mt [] [0,1,2]⟩ ?_;rintro s a w u ⟨b,rfl,hS⟩ hM hf1;have hM:ff c d b=some u:=hM;unfold ff at hM;refine al hS fun a hS=>?_;refine aA ?_;rcases cd hM with⟨k,hM⟩|⟨k,hM⟩
  ·refine al hS fun a hS=>?_;refine aA ?_;refine al hS fun a hS=>?_;obtain⟨j,g,hM⟩:=bd hM;refine wl rfl (bD (R:=ac) hS mM e7 rfl rfl 0 rfl g rfl fun r x t l a hS=>?_);obtain rfl:=l;refine al hS fun a hS=>?_;obtain⟨z,h,hM⟩:=bd hM;refine wl rfl (sU (cap:=f_1k) hS rfl f rfl rfl (m _ _ hS.dlt (hS.get 2 rfl) (hS.get 3 rfl) j _ h) fun _ w hR a hk hA=>?_);obtain rfl:=hR;have hS:=bS hA;exact fz
  exact fz
 rintro a w ⟨hS,hM⟩;unfold r5 at hM;exact fz
def gm (c:ah→Option Bool) (d:LK):Option Bool:=(oH c d).bind fun b=>some (decide ((0:Int)≤b))
theorem xK (T:Nat→Prop) (W0:World) (hT:TW T W0) (hLv:dx T W0) (f_1g:Nat) (e:aU aQ f_1g=true) (f_1k:bh) (f_1P:bQ) (b:ah→Option Bool) (g:∀ (T:Nat→Prop) (W0:World) (hT:TW T W0) (hLv:dx T W0) (hP:f_1P.p T W0) (j:ah) (y:Bool) (hM:b j=some y),bc aQ No f_1g ([.agg (aX j).toArray]++f_1k) W0 (fun v w'=>v = .bool y)) (d:f_1P.p T W0) (c:LK) (i:Value) (h:aD ac T W0 i c) (y:Bool) (hM:gm b c=some y):bc aQ No 129 [i,.func (.func f_1g) #[] f_1k.toArray] W0 (fun v w'=>v = .bool y):=by
 refine en Tryz.func129 Tryz.ntmps129 hT fun a hS=>?_;replace hS:=((hS.fact f_1P (bQ.dn _ d)).fact bu (dx.dn hLv)).fS (aD.dn h);unfold gm at hM;refine al hS fun a hS=>?_;obtain⟨k,f,hM⟩:=bd hM;refine kc hS Mw (Bv _ _ hS.dlt (hS.get 1 rfl) f_1g e f_1k f_1P b g (hS.get 2 rfl) c _ (hS.get 0 rfl) _ f) fun _ w hR a hk hA=>?_;obtain rfl:=hR;have hS:=bS hA;exact fz
def dK (b:Bool):Option Bool:=some (b)
def cY (b:ab) (c:Bool):Option Bool:=cond c (some (false)) (cond (decide ((0:Int)≤b.Changed)) (cond (decide (b.Changed≤b.Verified)) (cond (decide (b.Verified≤1073741824)) (cond (decide ((1:Int)≤b.Cost)) (cond (decide (b.Cost≤1073741824)) ((gm gR b.Reads).bind fun d=>dK (!(d))) (dK false)) (dK false)) (dK false)) (dK false)) (dK false))
def ke (b:ab):Option Bool:=(dv b.Key).bind fun c=>cond (!(c)) (cY b true) ((oK b.Key).bind fun d=>cond d (cY b true) (cond (decide ((1073741824:Int)<(b.Value.size:Int))) (cY b true) (cond (decide ((4000:Int)<(b.Reads.length:Int))) (cY b true) (cond b.Dirty ((rc b.Key).bind fun e=>cY b (!(e))) (cY b false)))))
theorem y9 (T:Nat→Prop) (W0:World) (hT:TW T W0) (hLv:dx T W0) (b:ab) (m:Value) (x:aD ac T W0 m b.Reads) (y:Bool) (hM:ke b=some y):bc aQ No 104 [.agg (aE b m).toArray] W0 (fun v w'=>v = .bool y):=by
 refine en Tryz.func104 Tryz.ntmps104 hT fun a hS=>?_;replace hS:=(hS.fact bu (dx.dn hLv)).fS (aD.dn x);unfold ke at hM;refine al hS fun a hS=>?_;refine kb hS fun e z a w hk hS=>?_;refine al hS fun a hS=>?_;refine aA ?_;refine aJ (J:=fun a w=>∃ (d:Bool),St W0 No T 67 [(1,pt e 0),(34,.bool d)] [.box e (aE b m) 33] [aK ac m b.Reads,bu] a w∧cY b d=some y) ?_ ?_
 ·skip;refine al hS fun a hS=>?_;obtain⟨B,j,hM⟩:=bd hM;refine kc hS Gg (tK _ _ hS.dlt (hS.get 1 rfl) b.Key _ j) fun _ w hR a hk hA=>?_;obtain rfl:=hR;have hS:=bS hA;refine al hS fun a hS=>?_;rcases cd hM with⟨f,hM⟩|⟨f,hM⟩
  ·exact fz
  refine al hS fun a hS=>?_;obtain⟨C,k,hM⟩:=bd hM;refine wg hS rfl rfl rfl f (be hS JA rfl rfl (xv _ _ hS.dlt b.Key _ k) fun _ w hR a hk hA=>?_);obtain rfl:=hR;have hS:=bS hA;refine al hS fun a hS=>?_;rcases cd hM with⟨n,hM⟩|⟨n,hM⟩
  ·exact fz
  refine al hS fun a hS=>?_;rcases cd hM with⟨o,hM⟩|⟨o,hM⟩
  ·exact fz
  refine al hS fun a hS=>?_;rcases cd hM with⟨p,hM⟩|⟨p,hM⟩
  ·exact fz
  refine al hS fun a hS=>?_;rcases cd hM with⟨g,hM⟩|⟨g,hM⟩
  ·refine al hS fun a hS=>?_;obtain⟨D,l,hM⟩:=bd hM;refine wg hS rfl rfl rfl g (be hS Ml rfl rfl (Bz _ _ hS.dlt b.Key _ l) fun _ w hR a hk hA=>?_);obtain rfl:=hR;have hS:=bS hA;exact fz
  exact fz
 rintro a w ⟨d,hS,hM⟩;unfold cY at hM;rcases cd hM with⟨q,hM⟩|⟨q,hM⟩
 ·exact fz
 refine al hS fun a hS=>?_;refine aJ (J:=fun a w=>∃ (c:Bool),St W0 No T 67 [(2,.bool c)] [] [bu] a w∧dK c=some y) ?_ ?_
 ·skip;refine al hS fun a hS=>?_;rcases cd hM with⟨r,hM⟩|⟨r,hM⟩
  ·refine al hS fun a hS=>?_;rcases cd hM with⟨s,hM⟩|⟨s,hM⟩
   ·refine al hS fun a hS=>?_;rcases cd hM with⟨t,hM⟩|⟨t,hM⟩
    ·refine al hS fun a hS=>?_;rcases cd hM with⟨u,hM⟩|⟨u,hM⟩
     ·refine al hS fun a hS=>?_;rcases cd hM with⟨h,hM⟩|⟨h,hM⟩
      ·refine al hS fun a hS=>?_;obtain⟨A,i,hM⟩:=bd hM;refine wg hS rfl rfl rfl h (be hS Mn rfl rfl (xK _ _ hS.dlt (hS.get 1 rfl) 128 Mm [] Ck gR (fun T W0 hT hLv _ E y hM=>wZ T W0 hT hLv E y hM) trivial b.Reads _ (hS.get 0 rfl) _ i) fun _ w hR a hk hA=>?_);obtain rfl:=hR;have hS:=bS hA;exact fz
      exact fz
     exact fz
    exact fz
   exact fz
  exact fz
 rintro a w ⟨c,hS,hM⟩;unfold dK at hM;exact fz
def mi (b:LR):Option Bool:=some (decide ((b.length:Int)≤4000))
def db (b:Int) (c:Bool):Option (Fl (Int) (Fl (Unit) Bool)):=cond c (some (.out (.out false))) (some (.go (IntKind.i64.wrap (b+1))))
def cK (d:LR) (b:Int):Option (Fl (Int) (Fl (Unit) Bool)):=cond (decide (b<(d.length:Int))) ((bg d b).bind fun c=>(ke c).bind fun f=>cond (!(f)) (db b true) (cond (decide ((0:Int)<b)) ((bg d (IntKind.i64.wrap (b-1))).bind fun e=>(sY e.Key c.Key).bind fun g=>db b (decide ((0:Int)≤g))) (db b false))) (some (.out (.go ())))
def e9 (b:LR):Option Bool:=(loop (fun s:Int=>cK b s) 0).bind fun r=>Fl.el r (fun s=>mi b) (fun y=>some (y))
theorem vt (T:Nat→Prop) (W0:World) (hT:TW T W0) (hLv:dx T W0) (b:LR) (d:Value) (C:aD aa T W0 d b) (y:Bool) (hM:e9 b=some y):bc aQ No 72 [d] W0 (fun v w'=>v = .bool y):=by
 refine en Tryz.func72 Tryz.ntmps72 hT fun a hS=>?_;replace hS:=(hS.fact bu (dx.dn hLv)).fS (aD.dn C);unfold e9 at hM;refine al hS fun a hS=>?_;refine aJ (J:=fun a w=>St W0 No T 35 [(0,d)] [] [aK aa d b,bu] a w∧mi b=some y) ?_ ?_
 ·skip;refine al hS fun a hS=>?_;obtain⟨O,B,hMo1⟩:=bd hM;refine bB _ (fun s a w=>∃ (c:Int),c=s∧St W0 No T 35 [(0,d),(5,d),(6,aj (b.length:Int)),(7,aj c)] [] [aK aa d b,bu] a w) B ⟨_,rfl,hS.mt [] [0,1]⟩ ?_;rintro s a w A ⟨c,rfl,hS⟩ hM hf1;have hM:cK b c=some A:=hM;unfold cK at hM;refine al hS fun a hS=>?_;refine aA ?_;rcases cd hM with⟨q,hM⟩|⟨q,hM⟩
  ·refine al hS fun a hS=>?_;refine aA ?_;refine al hS fun a hS=>?_;obtain⟨g,h,hM⟩:=bd hM;refine wl rfl (bD (R:=aa) hS dM bZ rfl rfl 0 rfl h rfl fun D I F r a hS=>?_);obtain⟨M,rfl,m⟩:=r;replace hS:=hS.fS m;refine al hS fun a hS=>?_;refine ka hS dq fun E H a w hk hS=>?_;refine go hS fun a w hS=>?_;refine aJ (J:=fun a w=>∃ (e:Bool),St W0 No T 35 [(0,d),(5,d),(6,aj (b.length:Int)),(7,aj c),(30,.bool e)] [] [aK aa d b,bu] a w∧db c e=some A) ?_ ?_
   ·skip;refine dr [] hS fun w hQ hS=>?_;refine gE [0] hS fun a hS=>?_;obtain⟨K,k,hM⟩:=bd hM;refine ec 1 hS Me (y9 _ _ hS.dlt (hS.get 3 rfl) g _ (hS.get 0 rfl) _ k) fun _ w hR a hk hA=>?_;obtain rfl:=hR;have hS:=bS hA;refine gE [2,3] hS fun a hS=>?_;rcases cd hM with⟨t,hM⟩|⟨t,hM⟩
    ·refine gE [4,5,6,7,8,9,10,11,12,13,14,15,16,17,18] hS fun a hS=>?_;refine eD ?_;exact⟨_,hS.mt [] [2,3],hM⟩
    refine gE [4,5,6] hS fun a hS=>?_;rcases cd hM with⟨f,hM⟩|⟨f,hM⟩
    ·refine gE [7,8,9] hS fun a hS=>?_;obtain⟨p,j,hM⟩:=bd hM;obtain⟨o,z,G,u,x,hS⟩:=mP (R:=aa) hS dM bZ 2 rfl j;obtain⟨N,rfl,n⟩:=u;replace hS:=hS.fS n;refine yG 10 (v:=pt o z) rfl (by kernel_rfl) (by kernel_rfl) (by kernel_rfl) rfl hQ hS (x rfl rfl) rfl rfl rfl f rfl rfl fun a hS=>?_;refine gE [11,12,13,14] hS fun a hS=>?_;obtain⟨L,l,hM⟩:=bd hM;refine bV (i:=15) rfl (by kernel_rfl) hS rfl rfl rfl f (be hS Ko rfl rfl (wU _ _ hS.dlt (hS.get 5 rfl) p.Key g.Key _ l) fun _ w hR a hk hA=>⟨eS (hk),?_⟩);obtain rfl:=hR;have hS:=bS hA;refine gE [16,17,18] hS fun a hS=>?_;refine eD ?_;exact⟨_,hS.mt [] [4,5],hM⟩
    refine gE [7,8,9,10,11,12,13,14,15,16,17,18] hS fun a hS=>?_;refine eD ?_;exact⟨_,hS.mt [] [2,3],hM⟩
   rintro a w ⟨e,hS,hM⟩;unfold db at hM;exact fz
  exact fz
 rintro a w ⟨hS,hM⟩;unfold mi at hM;exact fz
def iM (b:Bool):Option Bool:=some (b)
def jL (b:ah):Option Bool:=(dv b).bind fun c=>cond c ((oK b).bind fun d=>iM d) (iM false)
theorem w6 (T:Nat→Prop) (W0:World) (hT:TW T W0) (hLv:dx T W0) (c:ah) (y:Bool) (hM:jL c=some y):bc aQ No 73 [.agg (aX c).toArray] W0 (fun v w'=>v = .bool y):=by
 refine en Tryz.func73 Tryz.ntmps73 hT fun a hS=>?_;replace hS:=hS.fact bu (dx.dn hLv);unfold jL at hM;refine al hS fun a hS=>?_;refine kb hS fun g h a w hk hS=>?_;refine al hS fun a hS=>?_;refine aJ (J:=fun a w=>∃ (b:Bool),St W0 No T 9 [(2,.bool b)] [] [bu] a w∧iM b=some y) ?_ ?_
 ·skip;refine al hS fun a hS=>?_;obtain⟨i,e,hM⟩:=bd hM;refine kc hS Gg (tK _ _ hS.dlt (hS.get 0 rfl) c _ e) fun _ w hR a hk hA=>?_;obtain rfl:=hR;have hS:=bS hA;refine al hS fun a hS=>?_;rcases cd hM with⟨d,hM⟩|⟨d,hM⟩
  ·refine al hS fun a hS=>?_;obtain⟨j,f,hM⟩:=bd hM;refine wg hS rfl rfl rfl d (be hS JA rfl rfl (xv _ _ hS.dlt c _ f) fun _ w hR a hk hA=>?_);obtain rfl:=hR;have hS:=bS hA;exact fz
  exact fz
 rintro a w ⟨b,hS,hM⟩;unfold iM at hM;exact fz
def oI:Option Int:=some ((-1))
def cg (c:LR) (f:ab→Option Bool) (b:Int):Option (Fl (Int) (Fl (Unit) Int)):=cond (decide (b<(c.length:Int))) ((bg c b).bind fun d=>(f d).bind fun e=>cond e (some (.out (.out b))) (some (.go (IntKind.i64.wrap (b+1))))) (some (.out (.go ())))
def dt (b:ab→Option Bool) (c:LR):Option Int:=(loop (fun s:Int=>cg c b s) 0).bind fun r=>Fl.el r (fun s=>oI) (fun y=>some (y))
theorem pY (T:Nat→Prop) (W0:World) (hT:TW T W0) (hLv:dx T W0) (f_1g:Nat) (f:aU aQ f_1g=true) (f_1k:bh) (f_1P:bQ) (d:ab→Option Bool) (o:∀ (T:Nat→Prop) (W0:World) (hT:TW T W0) (hLv:dx T W0) (hP:f_1P.p T W0) (q:ab) (k:Value) (A:aD ac T W0 k q.Reads) (y:Bool) (hM:d q=some y),bc aQ No f_1g ([.agg (aE q k).toArray]++f_1k) W0 (fun v w'=>v = .bool y)) (e:f_1P.p T W0) (c:LR) (j:Value) (t:aD aa T W0 j c) (y:Int) (hM:dt d c=some y):bc aQ No 79 [j,.func (.func f_1g) #[] f_1k.toArray] W0 (fun v w'=>v=aj y):=by
 refine en Tryz.func79 Tryz.ntmps79 hT fun a hS=>?_;replace hS:=((hS.fact f_1P (bQ.dn _ e)).fact bu (dx.dn hLv)).fS (aD.dn t);unfold dt at hM;refine al hS fun a hS=>?_;refine aJ (J:=fun a w=>St W0 No T 19 [] [] [bu,f_1P] a w∧oI=some y) ?_ ?_
 ·skip;refine al hS fun a hS=>?_;obtain⟨E,r,hMo1⟩:=bd hM;refine bB _ (fun s a w=>∃ (b:Int),b=s∧St W0 No T 19 [(0,j),(1,.func (.func f_1g) #[] f_1k.toArray),(7,aj (c.length:Int)),(8,aj b)] [] [aK aa j c,bu,f_1P] a w) r ⟨_,rfl,hS.mt [] [0,1,2]⟩ ?_;rintro s a w z ⟨b,rfl,hS⟩ hM hf1;have hM:cg c d b=some z:=hM;unfold cg at hM;refine al hS fun a hS=>?_;refine aA ?_;rcases cd hM with⟨m,hM⟩|⟨m,hM⟩
  ·refine al hS fun a hS=>?_;refine aA ?_;refine al hS fun a hS=>?_;obtain⟨l,g,hM⟩:=bd hM;refine wl rfl (bD (R:=aa) hS dM bZ rfl rfl 0 rfl g rfl fun u B x n a hS=>?_);obtain⟨D,rfl,i⟩:=n;replace hS:=hS.fS i;refine al hS fun a hS=>?_;obtain⟨C,h,hM⟩:=bd hM;refine wl rfl (sU (cap:=f_1k) hS rfl f rfl rfl (o _ _ hS.dlt (hS.get 3 rfl) (hS.get 4 rfl) l _ (hS.get 0 rfl) _ h) fun _ w hR a hk hA=>?_);obtain rfl:=hR;have hS:=bS hA;exact fz
  exact fz
 rintro a w ⟨hS,hM⟩;unfold oI at hM;exact fz
def ba (c:ab→Option Bool) (d:LR):Option Bool:=(dt c d).bind fun b=>some (decide ((0:Int)≤b))
theorem jM (T:Nat→Prop) (W0:World) (hT:TW T W0) (hLv:dx T W0) (f_1g:Nat) (e:aU aQ f_1g=true) (f_1k:bh) (f_1P:bQ) (b:ab→Option Bool) (h:∀ (T:Nat→Prop) (W0:World) (hT:TW T W0) (hLv:dx T W0) (hP:f_1P.p T W0) (i:ab) (g:Value) (l:aD ac T W0 g i.Reads) (y:Bool) (hM:b i=some y),bc aQ No f_1g ([.agg (aE i g).toArray]++f_1k) W0 (fun v w'=>v = .bool y)) (d:f_1P.p T W0) (c:LR) (k:Value) (j:aD aa T W0 k c) (y:Bool) (hM:ba b c=some y):bc aQ No 74 [k,.func (.func f_1g) #[] f_1k.toArray] W0 (fun v w'=>v = .bool y):=by
 refine en Tryz.func74 Tryz.ntmps74 hT fun a hS=>?_;replace hS:=((hS.fact f_1P (bQ.dn _ d)).fact bu (dx.dn hLv)).fS (aD.dn j);unfold ba at hM;refine al hS fun a hS=>?_;obtain⟨m,f,hM⟩:=bd hM;refine kc hS Ku (pY _ _ hS.dlt (hS.get 1 rfl) f_1g e f_1k f_1P b h (hS.get 2 rfl) c _ (hS.get 0 rfl) _ f) fun _ w hR a hk hA=>?_;obtain rfl:=hR;have hS:=bS hA;exact fz
def gH (c:ab) (b:am):Option Bool:=some (decide (b.Revision<c.Verified))
theorem vC (T:Nat→Prop) (W0:World) (hT:TW T W0) (c:ab) (b:am) (k:Value) (f:Value) (g:Value) (d:Nat) (h:aD ac T W0 k c.Reads) (i:aD ad T W0 f b.Inputs) (j:aD aa T W0 g b.Records) (e:(k9 d 0 (aY b f g)).p T W0) (y:Bool) (hM:gH c b=some y):bc aQ No 75 [.agg (aE c k).toArray,pt d 0] W0 (fun v w'=>v = .bool y):=by
 refine en Tryz.func75 Tryz.ntmps75 hT fun a hS=>?_;replace hS:=(((hS.fact (k9 d 0 (aY b f g)) (bQ.dn _ e)).fS (aD.dn h)).fS (aD.dn i)).fS (aD.dn j);unfold gH at hM;refine al hS fun a hS=>?_;refine kb hS fun l m a w hk hS=>?_;exact fz
def fN (b:am):Option Bool:=(ba (fun d=>gH d b) b.Records).bind fun c=>some (!(c))
def bW (b:Int) (c:Bool):Option (Fl (Int) (Fl (Unit) Bool)):=cond c (some (.out (.out false))) (some (.go (IntKind.i64.wrap (b+1))))
def df (d:am) (b:Int):Option (Fl (Int) (Fl (Unit) Bool)):=cond (decide (b<(d.Inputs.length:Int))) ((bg d.Inputs b).bind fun c=>(jL c.Key).bind fun f=>cond (!(f)) (bW b true) (cond (decide ((0:Int)<b)) ((bg d.Inputs (IntKind.i64.wrap (b-1))).bind fun e=>(sY e.Key c.Key).bind fun g=>cond (decide ((0:Int)≤g)) (bW b true) (cond (decide ((1073741824:Int)<(c.Value.size:Int))) (bW b true) (cond (decide (c.Changed<0)) (bW b true) (bW b (decide (d.Revision<c.Changed)))))) (cond (decide ((1073741824:Int)<(c.Value.size:Int))) (bW b true) (cond (decide (c.Changed<0)) (bW b true) (bW b (decide (d.Revision<c.Changed))))))) (some (.out (.go ())))
def hO (b:am):Option Bool:=cond (decide (b.Revision<0)) (some (false)) (cond (decide ((1073741824:Int)<b.Revision)) (some (false)) (cond (decide ((64:Int)<(b.Inputs.length:Int))) (some (false)) ((e9 b.Records).bind fun c=>cond (!(c)) (some (false)) ((loop (fun s:Int=>df b s) 0).bind fun r=>Fl.el r (fun s=>fN b) (fun y=>some (y))))))
theorem w4 (T:Nat→Prop) (W0:World) (hT:TW T W0) (hLv:dx T W0) (b:am) (e:Value) (f:Value) (Q:aD ad T W0 e b.Inputs) (S:aD aa T W0 f b.Records) (y:Bool) (hM:hO b=some y):bc aQ No 47 [.agg (aY b e f).toArray] W0 (fun v w'=>v = .bool y):=by
 refine en Tryz.func47 Tryz.ntmps47 hT fun a hS=>?_;replace hS:=((hS.fact bu (dx.dn hLv)).fS (aD.dn Q)).fS (aD.dn S);unfold hO at hM;refine al hS fun a hS=>?_;refine kb hS fun c Z a w hk hS=>?_;refine al hS fun a hS=>?_;refine aA ?_;refine i1 ?_;refine al hS fun a hS=>?_;rcases cd hM with⟨u,hM⟩|⟨u,hM⟩
 ·exact fz
 refine al hS fun a hS=>?_;rcases cd hM with⟨x,hM⟩|⟨x,hM⟩
 ·exact fz
 refine al hS fun a hS=>?_;rcases cd hM with⟨k,hM⟩|⟨k,hM⟩
 ·exact fz
 refine al hS fun a hS=>?_;obtain⟨a5,q,hM⟩:=bd hM;refine wg hS rfl rfl rfl k (be hS N7 rfl rfl (vt _ _ hS.dlt (hS.get 2 rfl) b.Records _ (hS.get 0 rfl) _ q) fun _ w hR a hk hA=>?_);obtain rfl:=hR;have hS:=bS hA;refine al hS fun a hS=>?_;rcases cd hM with⟨z,hM⟩|⟨z,hM⟩
 ·exact fz
 refine al hS fun a hS=>?_;refine aJ (J:=fun a w=>St W0 No T 78 [(1,pt c 0)] [.box c (aY b e f) 25] [aK ad e b.Inputs,aK aa f b.Records,bu] a w∧fN b=some y) ?_ ?_
 ·skip;refine al hS fun a hS=>?_;obtain⟨r1,P,hMo1⟩:=bd hM;refine bB _ (fun s a w=>∃ (d:Int),d=s∧St W0 No T 78 [(1,pt c 0),(26,e),(27,aj (b.Inputs.length:Int)),(28,aj d)] [.box c (aY b e f) 25] [aK ad e b.Inputs,aK aa f b.Records,bu] a w) P ⟨_,rfl,hS.mt [0] [1,0,2]⟩ ?_;rintro s a w O ⟨d,rfl,hS⟩ hM hf1;have hM:df b d=some O:=hM;unfold df at hM;refine al hS fun a hS=>?_;refine aA ?_;rcases cd hM with⟨A,hM⟩|⟨A,hM⟩
  ·refine al hS fun a hS=>?_;refine aA ?_;refine al hS fun a hS=>?_;obtain⟨j,l,hM⟩:=bd hM;refine wl rfl (bD (R:=ad) hS Ar As rfl rfl 0 rfl l rfl fun V a1 X B a hS=>?_);obtain rfl:=B;refine al hS fun a hS=>?_;refine ka hS xU fun W a0 a w hk hS=>?_;refine go hS fun a w hS=>?_;refine aJ (J:=fun a w=>∃ (g:Bool),St W0 No T 78 [(1,pt c 0),(26,e),(27,aj (b.Inputs.length:Int)),(28,aj d),(71,.bool g)] [.box c (aY b e f) 25] [aK ad e b.Inputs,aK aa f b.Records,bu] a w∧bW d g=some O) ?_ ?_
   ·skip;refine dr [] hS fun w hQ hS=>?_;refine gE [0,1] hS fun a hS=>?_;obtain⟨a3,o,hM⟩:=bd hM;refine ec 2 hS N8 (w6 _ _ hS.dlt (hS.get 3 rfl) j.Key _ o) fun _ w hR a hk hA=>?_;obtain rfl:=hR;have hS:=bS hA;refine gE [3,4] hS fun a hS=>?_;rcases cd hM with⟨C,hM⟩|⟨C,hM⟩
    ·refine gE [5,6,7,8,9,10,11,12,13,14,15,16,17,18,19,20,21,22,23,24,25,26,27,28,29,30,31,32,33,34,35,36,37,38] hS fun a hS=>?_;refine eD ?_;exact⟨_,hS.mt [1] [1,2,3],hM⟩
    refine gE [5,6,7] hS fun a hS=>?_;rcases cd hM with⟨h,hM⟩|⟨h,hM⟩
    ·refine gE [8,9,10,11] hS fun a hS=>?_;obtain⟨t,m,hM⟩:=bd hM;obtain⟨r,M,Y,D,E,hS⟩:=mP (R:=ad) hS Ar As 1 rfl m;obtain rfl:=D;refine yG 12 (v:=pt r M) rfl (by kernel_rfl) (by kernel_rfl) (by kernel_rfl) rfl hQ hS (E rfl rfl) rfl rfl rfl h rfl rfl fun a hS=>?_;refine gE [13,14,15,16] hS fun a hS=>?_;obtain⟨a4,p,hM⟩:=bd hM;refine bV (i:=17) rfl (by kernel_rfl) hS rfl rfl rfl h (be hS Ko rfl rfl (wU _ _ hS.dlt (hS.get 4 rfl) t.Key j.Key _ p) fun _ w hR a hk hA=>⟨eS (hk),?_⟩);obtain rfl:=hR;have hS:=bS hA;refine gE [18,19,20,21] hS fun a hS=>?_;rcases cd hM with⟨F,hM⟩|⟨F,hM⟩
     ·refine gE [22,23,24,25,26,27,28,29,30,31,32,33,34,35,36,37,38] hS fun a hS=>?_;refine eD ?_;exact⟨_,hS.mt [1] [2,3,4],hM⟩
     refine gE [22,23,24,25,26,27] hS fun a hS=>?_;rcases cd hM with⟨G,hM⟩|⟨G,hM⟩
     ·refine gE [28,29,30,31,32,33,34,35,36,37,38] hS fun a hS=>?_;refine eD ?_;exact⟨_,hS.mt [1] [2,3,4],hM⟩
     refine gE [28,29,30,31,32] hS fun a hS=>?_;rcases cd hM with⟨H,hM⟩|⟨H,hM⟩
     ·refine gE [33,34,35,36,37,38] hS fun a hS=>?_;refine eD ?_;exact⟨_,hS.mt [1] [2,3,4],hM⟩
     refine gE [33,34,35,36,37,38] hS fun a hS=>?_;refine eD ?_;exact⟨_,hS.mt [1] [2,3,4],hM⟩
    refine gE [8,9,10,11,12,13,14,15,16,17,18,19,20,21,22,23,24,25,26,27] hS fun a hS=>?_;rcases cd hM with⟨I,hM⟩|⟨I,hM⟩
    ·refine gE [28,29,30,31,32,33,34,35,36,37,38] hS fun a hS=>?_;refine eD ?_;exact⟨_,hS.mt [1] [1,2,3],hM⟩
    refine gE [28,29,30,31,32] hS fun a hS=>?_;rcases cd hM with⟨K,hM⟩|⟨K,hM⟩
    ·refine gE [33,34,35,36,37,38] hS fun a hS=>?_;refine eD ?_;exact⟨_,hS.mt [1] [1,2,3],hM⟩
    refine gE [33,34,35,36,37,38] hS fun a hS=>?_;refine eD ?_;exact⟨_,hS.mt [1] [1,2,3],hM⟩
   rintro a w ⟨g,hS,hM⟩;unfold bW at hM;exact fz
  exact fz
 rintro a w ⟨hS,hM⟩;unfold fN at hM;refine al hS fun a hS=>?_;replace hS:=hS.freezeBox 0 rfl;refine qy hS (zG (vs:=[pt c 0]) hS rfl) fun a hS=>?_;obtain⟨a2,n,hM⟩:=bd hM;refine kc hS N9 (jM _ _ hS.dlt (hS.get 3 rfl) 75 Oa [pt c 0] (FY (k9 c 0 (aY b e f)) (FY (aK ad e b.Inputs) (FY (aK aa f b.Records) Ck))) (fun N=>gH N b) (fun T W0 hT hLv hP N U L y hM=>vC T W0 hT N b U e f c L hP.2.1 hP.2.2.1 hP.1 y hM) ⟨(hS.get 0 rfl),(hS.get 1 rfl),(hS.get 2 rfl),trivial⟩ b.Records _ (hS.get 2 rfl) _ n) fun _ w hR a hk hA=>?_;obtain rfl:=hR;have hS:=bS hA;exact fz
def cE (b:LI):Option LI:=gd (bT (([]:List aZ).length+b.length)) <| some ((([]:List aZ)++b))
theorem ns (T:Nat→Prop) (W0:World) (hT:TW T W0) (d:LI) (m:Value) (l:aD ad T W0 m d) (y:LI) (hM:cE d=some y):bc aQ No 76 [m] W0 (fun v w'=>∃ (k:Value) (jT:bh),v=k∧ip ad T W0 w' [aT k jT] 75 k jT y):=by
 refine en Tryz.func76 Tryz.ntmps76 hT fun a hS=>?_;replace hS:=hS.fS (aD.dn l);unfold cE at hM;refine al hS fun a hS=>?_;refine aA ?_;refine al hS fun a hS=>?_;obtain⟨b,f,g,n⟩:=BW (R:=ad) hS Ar 0 rfl;refine wl rfl (ky (v:=.bool b) hS (g rfl) rfl rfl fun a hS=>?_);refine al hS fun a hS=>?_;rcases F9 (b) with c | c
 ·rw [f c] at hM;have hM:some ([])=some y:=hM;refine al hS fun a hS=>?_;cases hM
  refine aH hS rfl (az hS rfl aF) ?_;exact⟨.slice none 0 0,[],rfl,td _ _ _ _ _ _⟩
 refine al hS fun a hS=>?_;refine wl rfl (wT ad hS Bn rfl fun o a w hk hS=>?_);refine al hS fun a hS=>?_;obtain⟨h,hM⟩:=bo hM;refine wl rfl (bM (R:=ad) (xs:=([]:List aZ)) (ys:=d) hS Bn (by decide) (by decide) rfl rfl 0 rfl 0 rfl 1 rfl h rfl fun j e a w hk hS=>?_);refine al hS fun a hS=>?_;cases hM
 refine aH hS rfl (az hS rfl aF) ?_;exact⟨j,e,rfl,hS.retOwn ⟨.inr (aG (i:=0) rfl),trivial⟩ 0 rfl 0 rfl⟩
def lP (b:LR):Option LR:=gd (bT (([]:List ab).length+b.length)) <| some ((([]:List ab)++b))
theorem tD (T:Nat→Prop) (W0:World) (hT:TW T W0) (d:LR) (m:Value) (l:aD aa T W0 m d) (y:LR) (hM:lP d=some y):bc aQ No 40 [m] W0 (fun v w'=>∃ (k:Value) (jT:bh),v=k∧ip aa T W0 w' [ae k jT] 33 k jT y):=by
 refine en Tryz.func40 Tryz.ntmps40 hT fun a hS=>?_;replace hS:=hS.fS (aD.dn l);unfold lP at hM;refine al hS fun a hS=>?_;refine aA ?_;refine al hS fun a hS=>?_;obtain⟨b,f,g,n⟩:=BW (R:=aa) hS dM 0 rfl;refine wl rfl (ky (v:=.bool b) hS (g rfl) rfl rfl fun a hS=>?_);refine al hS fun a hS=>?_;rcases F9 (b) with c | c
 ·rw [f c] at hM;have hM:some ([])=some y:=hM;refine al hS fun a hS=>?_;cases hM
  refine aH hS rfl (az hS rfl aF) ?_;exact⟨.slice none 0 0,[],rfl,td _ _ _ _ _ _⟩
 refine al hS fun a hS=>?_;refine wl rfl (wT aa hS rJ rfl fun o a w hk hS=>?_);refine al hS fun a hS=>?_;obtain⟨h,hM⟩:=bo hM;refine wl rfl (bM (R:=aa) (xs:=([]:List ab)) (ys:=d) hS rJ (by decide) (by decide) rfl rfl 0 rfl 0 rfl 1 rfl h rfl fun j e a w hk hS=>?_);refine al hS fun a hS=>?_;cases hM
 refine aH hS rfl (az hS rfl aF) ?_;exact⟨j,e,rfl,hS.retOwn ⟨.inr (aG (i:=0) rfl),trivial⟩ 0 rfl 0 rfl⟩
def ss (b:LK):Option LK:=gd (bT (([]:List ah).length+b.length)) <| some ((([]:List ah)++b))
theorem Cq (T:Nat→Prop) (W0:World) (hT:TW T W0) (d:LK) (m:Value) (l:aD ac T W0 m d) (y:LK) (hM:ss d=some y):bc aQ No 107 [m] W0 (fun v w'=>∃ (k:Value) (jT:bh),v=k∧ip ac T W0 w' [ay k jT] 31 k jT y):=by
 refine en Tryz.func107 Tryz.ntmps107 hT fun a hS=>?_;replace hS:=hS.fS (aD.dn l);unfold ss at hM;refine al hS fun a hS=>?_;refine aA ?_;refine al hS fun a hS=>?_;obtain⟨b,f,g,n⟩:=BW (R:=ac) hS mM 0 rfl;refine wl rfl (ky (v:=.bool b) hS (g rfl) rfl rfl fun a hS=>?_);refine al hS fun a hS=>?_;rcases F9 (b) with c | c
 ·rw [f c] at hM;have hM:some ([])=some y:=hM;refine al hS fun a hS=>?_;cases hM
  refine aH hS rfl (az hS rfl aF) ?_;exact⟨.slice none 0 0,[],rfl,td _ _ _ _ _ _⟩
 refine al hS fun a hS=>?_;refine wl rfl (wT ac hS gf rfl fun o a w hk hS=>?_);refine al hS fun a hS=>?_;obtain⟨h,hM⟩:=bo hM;refine wl rfl (bM (R:=ac) (xs:=([]:List ah)) (ys:=d) hS gf (by decide) (by decide) rfl rfl 0 rfl 0 rfl 1 rfl h rfl fun j e a w hk hS=>?_);refine al hS fun a hS=>?_;cases hM
 refine aH hS rfl (az hS rfl aF) ?_;exact⟨j,e,rfl,hS.retOwn ⟨.inr (aG (i:=0) rfl),trivial⟩ 0 rfl 0 rfl⟩
def oM (b:ab):Option ab:=(ss b.Reads).bind fun c=>some ((ab.mk b.Key b.Value c b.Changed b.Verified b.Cost b.Dirty))
theorem wm (T:Nat→Prop) (W0:World) (hT:TW T W0) (b:ab) (j:Value) (h:aD ac T W0 j b.Reads) (y:ab) (hM:oM b=some y):bc aQ No 81 [.agg (aE b j).toArray] W0 (fun v w'=>∃ (g:Value) (jT:bh),v = .agg (aE y g).toArray∧ip ac T W0 w' [ay g jT] 31 g jT y.Reads):=by
 refine en Tryz.func81 Tryz.ntmps81 hT fun a hS=>?_;replace hS:=hS.fS (aD.dn h);unfold oM at hM;refine al hS fun a hS=>?_;refine kb hS fun k m a w hk hS=>?_;refine ka hS dq fun l n a w hk hS=>?_;refine al hS fun a hS=>?_;obtain⟨o,d,hM⟩:=bd hM;refine kc hS Mf (Cq _ _ hS.dlt b.Reads _ (hS.get 0 rfl) _ d) fun _ w hR a hk hA=>?_;obtain⟨f,e,he,c⟩:=hR;obtain rfl:=he.symm;have hS:=qe hA c;refine go hS fun a w hS=>?_;cases hM
 refine aH hS rfl (rC 1 hS) ?_;exact⟨f,e,rfl,hS.retOwn ⟨.inr (aG (i:=0) rfl),trivial⟩ 0 rfl 0 rfl⟩
def rn (b:LR):Option LR:=some (b)
def lm (e:LR) (c:LR) (b:Int):Option (Fl (LR×Int) (LR)):=cond (decide (b<(e.length:Int))) ((bg c b).bind fun d=>(oM d).bind fun f=>(bg c b).bind fun g=>some (.go ((c.set (Int.toNat b) f),IntKind.i64.wrap (b+1)))) (some (.out c))
def nw (c:LR):Option LR:=(lP c).bind fun b=>(loop (fun s:LR×Int=>lm b s.1 s.2) (b,0)).bind fun r=>rn r
theorem uV (T:Nat→Prop) (W0:World) (hT:TW T W0) (o:LR) (P:Value) (O:aD aa T W0 P o) (y:LR) (hM:nw o=some y):bc aQ No 77 [P] W0 (fun v w'=>∃ (M:Value) (jT:bh),v=M∧ip aa T W0 w' [ae M jT] 33 M jT y):=by
 refine en Tryz.func77 Tryz.ntmps77 hT fun a hS=>?_;replace hS:=hS.fS (aD.dn O);unfold nw at hM;refine al hS fun a hS=>?_;obtain⟨p,t,hM⟩:=bd hM;refine kc hS MG (tD _ _ hS.dlt o _ (hS.get 0 rfl) _ t) fun _ w hR a hk hA=>?_;obtain⟨b,V,he,m⟩:=hR;obtain rfl:=he.symm;have hS:=qe hA m;refine al hS fun a hS=>?_;refine aJ (J:=fun a w=>∃ (g:LR) (c:LV),St W0 No T 22 [(3,b)] [ae b c] [ao aa c g] a w∧rn g=some y) ?_ ?_
 ·skip;refine al hS fun a hS=>?_;obtain⟨r1,N,hMo1⟩:=bd hM;refine bB _ (fun s a w=>∃ (e:LR) (d:Int) (f:LV),(e,d)=s∧St W0 No T 22 [(3,b),(8,b),(9,aj (p.length:Int)),(10,aj d)] [ae b f] [ao aa f e] a w) N ⟨_,_,_,rfl,hS.mt [0] [0]⟩ ?_;rintro s a w f1 ⟨e,d,f,rfl,hS⟩ hM hf1;have hM:lm p e d=some f1:=hM;unfold lm at hM;refine al hS fun a hS=>?_;refine aA ?_;rcases cd hM with⟨B,hM⟩|⟨B,hM⟩
  ·refine al hS fun a hS=>?_;refine aA ?_;refine al hS fun a hS=>?_;obtain⟨l,r,hM⟩:=bd hM;refine wl rfl (cU (R:=aa) hS dM bZ rfl rfl 0 rfl 0 rfl r rfl fun Q a2 a4 W C D E a hS=>?_);obtain⟨I,rfl,x⟩:=C;replace hS:=hS.fS x;refine qy hS (bp (k:=0) hS bZ 0 rfl D E rfl id (us:=(aE l I)) rfl rfl (fun h=>by cases h)) fun a hS=>?_;refine ka hS dq fun S a1 a w hk hS=>?_;refine go hS fun a w hS=>?_;obtain⟨q,u,hM⟩:=bd hM;refine kc hS MN (wm _ _ hS.dlt l _ (hS.get 0 rfl) _ u) fun _ w hR a hk hA=>?_;obtain⟨K,X,he,n⟩:=hR;obtain rfl:=he.symm;have hS:=qe hA n;obtain⟨A,j,hM⟩:=bd hM;refine wl rfl (cU (R:=aa) hS dM bZ rfl rfl 2 rfl 2 rfl j rfl fun U a3 a5 Y F G H a hS=>?_);obtain⟨L,rfl,z⟩:=F;replace hS:=(hS.fS z).freeze (R:=ac) 0 rfl 1 rfl;refine wl rfl (fW (R:=aa) (k:=0) (cs:=(aE A L)) (us:=(aE q K)) (x':=q) hS rfl rfl rfl bZ 1 rfl 4 rfl G H j (⟨_,rfl,(hS.get 1 rfl)⟩) rfl rfl (⟨_,rfl,(hS.get 0 rfl)⟩) fun Z w hk hS=>?_);exact fz
  exact fz
 rintro a w ⟨g,c,hS,hM⟩;unfold rn at hM;refine al hS fun a hS=>?_;cases hM
 refine aH hS rfl (az hS rfl aF) ?_;exact⟨b,c,rfl,hS.retOwn ⟨.inr (aG (i:=0) rfl),trivial⟩ 0 rfl 0 rfl⟩
def iV (b:am):Option am:=(cE b.Inputs).bind fun c=>(nw b.Records).bind fun d=>some ((am.mk b.Revision c d))
theorem xQ (T:Nat→Prop) (W0:World) (hT:TW T W0) (b:am) (r:Value) (s:Value) (p:aD ad T W0 r b.Inputs) (q:aD aa T W0 s b.Records) (y:am) (hM:iV b=some y):bc aQ No 48 [.agg (aY b r s).toArray] W0 (fun v w'=>∃ (f:Value) (wO:bh) (g:Value) (vJ:bh),v = .agg (aY y f g).toArray∧ip ad T W0 w' [aT f wO,ae g vJ] 75 f wO y.Inputs∧ip aa T W0 w' [aT f wO,ae g vJ] 33 g vJ y.Records∧(∀ k,f.ownBlock=some k→g.ownBlock≠some k)):=by
 refine en Tryz.func48 Tryz.ntmps48 hT fun a hS=>?_;replace hS:=(hS.fS (aD.dn p)).fS (aD.dn q);unfold iV at hM;refine al hS fun a hS=>?_;refine kb hS fun c u a w hk hS=>?_;refine ka hS i8 fun t x a w hk hS=>?_;refine al hS fun a hS=>?_;refine aA ?_;refine dr [(7,.blk (some c)),(9,.blk (some c))] hS fun w hQ hS=>?_;refine gE [0,1,3,4] hS fun a hS=>?_;obtain⟨z,h,hM⟩:=bd hM;refine ec 2 hS Ob (ns _ _ hS.dlt b.Inputs _ (hS.get 1 rfl) _ h) fun _ w hR a hk hA=>?_;obtain⟨n,l,he,d⟩:=hR;obtain rfl:=he.symm;have hS:=qe hA d;refine gE [6] hS fun a hS=>?_;obtain⟨A,j,hM⟩:=bd hM;refine ec 5 hS MM (uV _ _ hS.dlt b.Records _ (hS.get 1 rfl) _ j) fun _ w hR a hk hA=>?_;obtain⟨o,m,he,e⟩:=hR;obtain rfl:=he.symm;have hS:=qe hA e;refine es 7 hS fun w hS=>?_;refine gE [8] hS fun a hS=>?_;refine es 9 hS fun w hS=>?_;refine eD ?_;refine go hS fun a w hS=>?_;cases hM
 refine aH hS rfl (rC 2 hS) ?_;exact⟨n,l,o,m,rfl,hS.retOwn ⟨.inr (aG (i:=1) rfl),⟨.inr (aG (i:=0) rfl),trivial⟩⟩ 1 rfl 1 rfl,hS.retOwn ⟨.inr (aG (i:=1) rfl),⟨.inr (aG (i:=0) rfl),trivial⟩⟩ 0 rfl 0 rfl,(hS.apart2 1 rfl 0 rfl (by decide))⟩
end
end
section
open Go.RowKit
open Go.Lib hiding intOf
theorem lf (n:Nat):itoa (n:Int)=decDigits n:=by
 unfold itoa
 first | rw [if_neg (by omega)]; simp | simp
noncomputable def gN (n:Nat):ah:=⟨30,cj n⟩
theorem qE {n:Nat} (h:n<1000000000):vY n=some (cj n):=by
 unfold vY KY;rw [show (decide (-9223372036854775808≤(n:Int))&&decide ((n:Int)≤9223372036854775807))=true by simp; omega];rfl
theorem vu {n:Nat} (h:n<100):nj n=some (gN n):=by
 unfold nj;rw [show decide ((n:Int)<0)=false by simp,show decide ((99:Int)<(n:Int))=false by simp; omega];simp [cond,qE (show n<1000000000 by omega),gN]
theorem DB {n:Nat} (h:n<1000):vP (cj n)=some ((n:Int),false):=by
 unfold vP;have hl:(cj n).toList=decDigits n:=by rw [q9,lf]
 have hs:(cj n).size≤140737488355328:=by
  have h1:(cj n).size=(itoa n).length:=by simp [cj,ByteArray.size]
  have:=vS n 3 (by omega);rw [h1,lf]; omega
 rw [show Nat.ble (cj n).size 140737488355328=true from B7 hs,hl,yl (by omega)];rfl
theorem GO {n:Nat} (h:n<100):dv (gN n)=some true:=by
 have h1:mQ 30=some true:=by unfold mQ; rfl
 have h2:jV (gN n)=some n:=by
  unfold jV gN;rw [h1];simp only [aq,DB (show n<1000 by omega),qE (show n<1000000000 by omega)];rw [show decide ((n:Int)<0)=false by simp,show decide ((99:Int)<(n:Int))=false by simp; omega];simp
 unfold dv;rw [show (gN n).Kind=30 from rfl,h1,h2];simp
theorem yZ (n:Int) {m:Nat} (hm:0<m) (hm2:m≤1000000000):∃ r:Nat,r<m∧jt n m=some (r:Int):=by
 have h1:=xg n (b:=(m:Int)) (by omega);have h2 : -(m:Int)<Int.tmod n m:=by
  rcases (show n<0∨0≤n by omega) with h | h
  ·have:=xg (-n) (b:=(m:Int)) (by omega);rw [Int.neg_tmod] at this;omega
  ·have:=xh (m:Int) h;omega
 refine⟨(Int.tmod (Int.tmod n m+m) m).toNat,?_,?_⟩
 ·have h3:=xg (Int.tmod n m+m) (b:=(m:Int)) (by omega);have h4:=xh (a:=Int.tmod n m+m) (m:Int) (by omega);omega
 ·unfold jt;have h4:=xh (a:=Int.tmod n m+m) (m:Int) (by omega);rw [show decide ((m:Int)<1)=false by simp; omega,show ((m:Int) != 0)=true by simp; omega,gM (by omega) (by omega),Int.toNat_of_nonneg h4];rfl
theorem Fe {n:Nat} (h:n<1000000000):vP (cj n)=some ((n:Int),false):=by
 unfold vP;have hl:(cj n).toList=decDigits n:=by rw [q9,lf]
 have hs:(cj n).size≤140737488355328:=by
  have h1:(cj n).size=(itoa n).length:=by simp [cj,ByteArray.size]
  have:=vS n 9 (by omega);rw [h1,lf]; omega
 rw [show Nat.ble (cj n).size 140737488355328=true from B7 hs,hl,yl (by omega)];rfl
theorem FD {k:Int} {n:Nat} (hk:k=30∨k=31∨k=32) (h:n<100):jV ⟨k,cj n⟩=some n:=by
 have h1:mQ k=some true:=by rcases hk with rfl | rfl | rfl <;> (unfold mQ; rfl)
 unfold jV;rw [h1];simp only [aq,Fe (show n<1000000000 by omega),qE (show n<1000000000 by omega)];rw [show decide ((n:Int)<0)=false by simp,show decide ((99:Int)<(n:Int))=false by simp; omega];simp
theorem HN {k:Int} {n:Nat} (hk:k=30∨k=31∨k=32) (h:n<100):dv ⟨k,cj n⟩=some true:=by
 have h1:mQ k=some true:=by rcases hk with rfl | rfl | rfl <;> (unfold mQ; rfl)
 unfold dv;rw [h1,FD hk h];simp
noncomputable def ET (r:aR) (n:Nat):ah:=⟨if r.Ring then 32 else 31,cj n⟩
theorem FI {l:List aR} {n:Nat} (h:n<l.length) (h100:n<100):lp l n=some (ET l[n] n):=by
 unfold lp;rw [show decide ((n:Int)<0)=false by simp,show decide (((l.length:Int):Int)≤(n:Int))=false by simp; omega,show decide ((99:Int)<(n:Int))=false by simp; omega,bN h,qE (by omega)];simp only [aq,cond_false];unfold pG ET;cases l[n].Ring <;> simp
theorem FN (s:ByteArray):s.toList.length=s.size:=by rw [ByteArray.toList_eq]; rfl
theorem Ft (c:UInt8) (r:List UInt8) (n:Nat):cA (c::r) n=if (decide (48≤c.toNat)&&decide (c.toNat≤57))=true then cA r (10*n+(c.toNat-48)) else -1:=rfl
theorem GZ:cr.toList=[]:=by rw [ByteArray.toList_eq]
theorem Gp (s:ByteArray):kP s=some (qU s.toList):=by
 have hsz:=FN s;have j3t:c7 s true=some (-1):=by unfold c7; rfl
 have j3f:s.size≤9→c7 s false=some (cA s.toList 0):=fun h9=>by
  unfold c7;simp only [cond_false];have key:∃ r,loop (fun s_1:Int×Int=>gD s s_1.1 s_1.2) (0,0)=some r∧Fl.el r (fun s=>gC s) (fun y=>some y)=some (cA s.toList 0):=?_
  ·obtain⟨r,h1,h2⟩:=key;rw [h1]; exact h2
  refine qF (fun k st=>∃ m:Nat,st=((m:Int),(k:Int))∧cA (s.toList.drop k) m=cA s.toList 0∧m<10 ^ k)
   (fun r=>Fl.el r (fun s=>gC s) (fun y=>some y)=some (cA s.toList 0)) s.size (fun k st hk hI=>?_) (fun st hI=>?_) ⟨0,rfl,rfl,by simp⟩
  ·obtain⟨m,rfl,e,hm⟩:=hI;have hk':k<s.toList.length:=by omega
   rw [Ea hk'] at e;unfold gD;rw [show decide ((k:Int)<(s.size:Int))=true by simpa using hk,bN hk'];simp only [cond_true,aq];have hp:(10:Nat) ^ k≤10 ^ 8:=B6 (by omega) (by omega);have hq:(10:Nat) ^ 8=100000000:=rfl;have hu:=(s.toList[k]).toNat_lt;rw [Ft] at e;by_cases h48:((s.toList[k]).toNat:Int)<48
   ·rw [show decide (((s.toList[k]).toNat:Int)<48)=true by simpa using h48];rw [if_neg (by simp; omega)] at e;exact .inr ⟨_,rfl,by rw [← e]; rfl⟩
   ·rw [show decide (((s.toList[k]).toNat:Int)<48)=false by simpa using h48];by_cases h57:(57:Int)<((s.toList[k]).toNat:Int)
    ·rw [show decide ((57:Int)<((s.toList[k]).toNat:Int))=true by simpa using h57];rw [if_neg (by simp; omega)] at e;exact .inr ⟨_,rfl,by rw [← e]; rfl⟩
    ·rw [show decide ((57:Int)<((s.toList[k]).toNat:Int))=false by simpa using h57];rw [if_pos (by simp; omega)] at e;simp only [cond_false];have hw:IntKind.u8.wrap (((s.toList[k]).toNat:Int)-48)=(((s.toList[k]).toNat-48:Nat):Int):=by rw [IntKind.wrap_u8]; omega
     rw [hw,show IntKind.i64.wrap (10*(m:Int))=((10*m:Nat):Int) from (gM (by omega) (by omega)).trans (by omega),show IntKind.i64.wrap (((s.toList[k]).toNat-48:Nat):Int)=(((s.toList[k]).toNat-48:Nat):Int) from gM (by omega) (by omega),
      gM (by omega) (by omega),gM (by omega) (by omega)]
     exact .inl ⟨_,rfl,10*m+((s.toList[k]).toNat-48),by simp,e,by rw [zI]; omega⟩
  ·obtain⟨m,rfl,e,hm⟩:=hI;rw [← hsz,Dm] at e;unfold gD;rw [show decide ((s.size:Int)<(s.size:Int))=false by simp];exact⟨_,rfl,by simp only [Fl.el,gC]; rw [← e]; rfl⟩
 unfold kP qU;have hz:(s.toList==cr.toList)=decide (s.toList=[]):=by rw [GZ]; cases s.toList <;> rfl
 rw [hz];by_cases h0:s.toList=[]
 ·rw [if_pos (.inl h0),decide_eq_true h0]; exact j3t
 ·rw [decide_eq_false h0];simp only [cond_false];by_cases h9:9<s.toList.length
  ·rw [if_pos (.inr (.inl h9)),show decide ((9:Int)<(s.size:Int))=true by simp; omega]; exact j3t
  ·rw [show decide ((9:Int)<(s.size:Int))=false by simp; omega];have hl:0<s.toList.length:=List.length_pos_iff.2 h0;have h1:bg s.toList (0:Int)=some (s.toList.getD 0 0):=by
    have:=bN hl;simp only [Int.natCast_zero] at this;rw [this,D8,bq hl]; rfl
   rw [h1];simp only [cond_false,aq];by_cases h48:s.toList.getD 0 0=48
   ·rw [h48,show (((48:UInt8).toNat:Int)==48)=true from rfl];simp only [cond_true,true_and];have hq:(!(s.toList==(ByteArray.mk #[48]).toList))=decide (s.toList≠[48]):=by rw [show (ByteArray.mk #[48]).toList=[48] from by rw [ByteArray.toList_eq]]; by_cases h:s.toList=[48] <;> simp [h]
    rw [hq];by_cases h:s.toList=[48]
    ·rw [decide_eq_false (fun h2=>h2 h),j3f (by omega),if_neg (by rintro (h2 | h2 | h2); exact h0 h2; exact h9 h2; exact h2 h)]
    ·rw [decide_eq_true h,if_pos (.inr (.inr h))]; exact j3t
   ·have h48':((s.toList.getD 0 0).toNat:Int)≠48:=fun h=>h48 (UInt8.toNat_inj.1 (by have:(48:UInt8).toNat=48:=rfl; omega));rw [show (((s.toList.getD 0 0).toNat:Int)==48)=false by simpa using h48'];simp only [cond_false];rw [j3f (by omega),if_neg (by rintro (h2 | h2 | h2); exact h0 h2; exact h9 h2; exact h48 h2.1)]
theorem F6 {M:Nat} (hM:M<1000000000) {s:ByteArray} (hs:s.size≤140737488355328) :
  ∃ p,vP s=some p∧(-9223372036854775808≤p.1→p.1≤9223372036854775807→True)∧y6 M s.toList=(if p.2=true then -1 else if p.1<0∨(M:Int)<p.1 then -1 else if itoa p.1=s.toList then p.1 else -1):=by
 refine⟨_,by unfold vP; rw [show Nat.ble s.size 140737488355328=true from B7 hs]; rfl,fun _ _=>trivial,?_⟩;rw [FC M hM];cases atoiAll s.toList <;> simp
theorem Fw {v:Int} (h0:0≤v) (h:v<1000000000):vY v=some (cj v):=by
 obtain⟨n,rfl⟩:∃ n:Nat,v=n:=⟨v.toNat,by omega⟩;exact qE (by omega)
def xM (k:ah):Int:=if 30≤k.Kind∧k.Kind≤32 then y6 99 k.Text.toList else -1
theorem zy (k:Int):mQ k=some (decide (30≤k∧k≤32)):=by
 unfold mQ rf;by_cases h1:30≤k <;> by_cases h2:k≤32 <;> simp [h1,h2]
theorem yR {k:ah} (hs:k.Text.size≤140737488355328):jV k=some (xM k):=by
 unfold jV xM;rw [zy];by_cases h:30≤k.Kind∧k.Kind≤32
 ·rw [if_pos h,decide_eq_true h];obtain⟨p,h1,_,h2⟩:=F6 (M:=99) (by omega) hs;rw [h1,h2];simp only [aq,eI,cond_false];obtain⟨v,b⟩:=p;cases b with
  | true=>rfl
  | false =>
   simp only [cond_false,Dq,if_false];by_cases h3:v<0
   ·simp [h3]
   ·by_cases h4:(99:Int)<v
    ·simp [h3,h4]
    ·rw [Fw (by omega) (by omega),if_neg (by omega),decide_eq_false h3,decide_eq_false h4];simp only [cond_false,aq,q9];by_cases h5:itoa v=k.Text.toList
     ·simp [h5]
     ·rw [if_neg h5,show (itoa v==k.Text.toList)=false by simpa using h5]; rfl
 ·rw [if_neg h,decide_eq_false h]; rfl
theorem oU (k:ah):iE k=some (xM k):=by
 unfold iE xM y6;rw [Gp];simp only [aq];unfold iv;have:=Ev k.Text.toList;by_cases h1:30≤k.Kind <;> by_cases h2:k.Kind≤32 <;> by_cases h3:qU k.Text.toList≤99 <;> simp [h1,h2,h3]
end
section
open Go.RowKit
open Go.Lib hiding intOf
section
variable {σ ρ α:Type} {B:σ→Option (Fl σ ρ)}
theorem yc (st:Nat→σ) (m:Nat) {s0:σ} (h0:s0=st 0) {r:ρ} (hgo:∀ k,k<m→B (st k)=some (.go (st (k+1)))) (hout:B (st m)=some (.out r)):loop B s0=some r:=by
 subst h0;exact xZ (fun k s=>s=st k) r m (fun k s hk hs=>.inl ⟨st (k+1),by rw [hs]; exact hgo k hk,rfl⟩) (fun s hs=>by rw [hs]; exact hout) rfl
theorem iO {xs:List α} (p:α→Bool) (st:Nat→σ) {s0:σ} (h0:s0=st 0) {y:Nat→α→ρ} {n:ρ} (hgo:∀ k x,xs[k]? = some x→p x=false→B (st k)=some (.go (st (k+1))))
  (hy:∀ k x,xs[k]? = some x→p x=true→B (st k)=some (.out (y k x))) (hn:B (st xs.length)=some (.out n)) :
  (∃ k x,xs[k]? = some x∧p x=true∧(∀ j z,j<k→xs[j]? = some z→p z=false)∧loop B s0=some (y k x))∨(∀ z∈xs,p z=false)∧loop B s0=some n:=by
 by_cases h:xs.findIdx p<xs.length
 ·have e:=bq h;have hp:=List.findIdx_getElem (w:=h);have hb:∀ j z,j<xs.findIdx p→xs[j]? = some z→p z=false:=fun j z hj hz=>by
   have:=List.not_of_lt_findIdx hj;obtain⟨h1,h2⟩:=bH.1 hz;rw [h2] at this; simpa using this
  refine .inl ⟨_,_,e,hp,hb,yc st _ h0 (fun k hk=>?_) (hy _ _ e hp)⟩;have hk2:k<xs.length:=by omega
  exact hgo k _ (bq hk2) (hb k _ hk (bq hk2))
 ·have hb:∀ j z,xs[j]? = some z→p z=false:=fun j z hz=>by
   obtain⟨h1,h2⟩:=bH.1 hz;have:=List.not_of_lt_findIdx (p:=p) (xs:=xs) (i:=j) (by omega);rw [h2] at this; simpa using this
  refine .inr ⟨fun z hz=>?_,yc st xs.length h0 (fun k hk=>hgo k _ (bq hk) (hb k _ (bq hk))) hn⟩;obtain⟨i,hi⟩:=gt.1 hz;exact hb i z hi
theorem nY {xs:List α} (p:α→Bool) (st:Nat→σ) {s0:σ} (h0:s0=st 0) {y n:ρ} (hgo:∀ k x,xs[k]? = some x→p x=false→B (st k)=some (.go (st (k+1))))
  (hy:∀ k x,xs[k]? = some x→p x=true→B (st k)=some (.out y)) (hn:B (st xs.length)=some (.out n)):loop B s0=some (if xs.any p then y else n):=by
 rcases iO p st h0 (y:=fun _ _=>y) hgo hy hn with⟨k,x,h1,h2,_,h3⟩|⟨h1,h2⟩
 ·rw [if_pos (sh.2 ⟨x,aG h1,h2⟩)]; exact h3
 ·rw [if_neg (fun h=>by obtain⟨x,hx,e⟩:=sh.1 h; rw [h1 x hx] at e; cases e)]; exact h2
theorem cG {xs:List α} (st:Nat→σ) {s0:σ} (h0:s0=st 0) {r:ρ} (hgo:∀ k x,xs[k]? = some x→B (st k)=some (.go (st (k+1)))) (hout:B (st xs.length)=some (.out r)):loop B s0=some r :=
 yc st xs.length h0 (fun k hk=>hgo k _ (bq hk)) hout
theorem d7 {β γ:Type} {m:Option β} {v:β} {f:β→Option γ} {y:Option γ} (h:m=some v) (k:f v=y):m.bind f=y:=by subst h; exact k
end
theorem aM {α:Type} (xs:List α) (k:Nat):bg xs (k:Int)=xs[k]?:=by simp [bg]
theorem dlt {k n:Nat} (h:k<n):decide ((k:Int)<(n:Int))=true:=decide_eq_true (by omega)
theorem Gr {k n:Nat} (h:¬ k<n):decide ((k:Int)<(n:Int))=false:=decide_eq_false (by omega)
theorem cM {α:Type} {xs:List α} {k:Nat} {x:α} (h:xs[k]? = some x):decide ((k:Int)<(xs.length:Int))=true:=dlt (bH.1 h).1
theorem bA (n:Nat):decide ((n:Int)<(n:Int))=false:=Gr (Nat.lt_irrefl _)
theorem cc {k:Nat} (h:k≤9223372036854775806):IntKind.i64.wrap ((k:Int)+1)=((k+1:Nat):Int):=by rw [gM (by omega) (by omega)]; omega
theorem aV {α:Type} {xs:List α} {k:Nat} {x:α} (h:xs[k]? = some x):k<xs.length:=(bH.1 h).1
theorem bw {α:Type} {xs:List α} {k:Nat} {x:α} (h:xs[k]? = some x):xs.take (k+1)=xs.take k++[x]:=by
 rw [List.take_add_one,h]; rfl
theorem tp {α:Type} (p:α→Bool) (xs:List α) (k:Nat):((xs.take k).filter p).length≤xs.length :=
 cx (Dn _ _) (by rw [dh]; omega)
theorem Hy {α:Type} {xs:List α} {k:Nat} {x:α} (h:xs[k]? = some x):xs.set k x=xs:=by
 obtain⟨h1,h2⟩:=bH.1 h;rw [← h2]; exact List.set_getElem_self h1
def Rm (n:Nat):Prop:=n≤1000000000
theorem uD {α:Type} {xs:List α} {a:Nat} (h:a≤xs.length):qw xs (a:Int) (xs.length:Int)=some (xs.drop a):=by
 rw [EU h (ce _),i7]
theorem oX {α:Type} {xs:List α} {a:Nat} (h:a≤xs.length):qw xs 0 (a:Int)=some (xs.take a):=by
 have:=EU (xs:=xs) (fE a) h;rwa [List.drop_zero] at this
end
section
open Go.RowKit
open Go.Lib hiding intOf
structure bO (l:List Int) (at_:Int):Prop where
 low:0≤at_
 high:at_≤l.length
 len:l.length≤400
theorem cZ {l:List Int} {i:Int} (h:bO l i) {n:Int} (h1:1≤n) (h2:n≤1000000000):Ok (bJ ⟨l,i⟩ n) fun r=>0≤r.1∧r.1<n∧bO r.2.L r.2.At:=by
 unfold bJ;refine aC (fun h3=>ap ⟨by omega,by omega,h⟩) (fun h3=>?_);have h3:i<l.length:=by simpa using h3
 have:=h.low; have:=h.high; have:=h.len;dsimp only;rw [show IntKind.i64.wrap (i+1)=i+1 from gM (by omega) (by omega),gM (by omega) (by omega)];refine vN (by simpa using h.low) (by simpa using h3) fun v _ _=>?_;obtain⟨m,rfl⟩:∃ m:Nat,n=m:=⟨n.toNat,by omega⟩;obtain⟨r,hr,e⟩:=yZ v (m:=m) (by omega) (by omega);exact aN e (ap ⟨by simp,by simp; omega,⟨by simp; omega,by simp; omega,h.len⟩⟩)
theorem Jk {l:List Int} {i:Int} (h:bO l i) {ws:List ByteArray} (h1:1≤ws.length) (h2:ws.length≤1000):Ok (sv ⟨l,i⟩ ws) fun r=>r.1∈ws∧bO r.2.L r.2.At:=by
 unfold sv;refine aL (cZ h (by omega) (by omega)) fun r hr=>vN hr.1 hr.2.1 fun v _ hv=>ap ⟨hv,hr.2.2⟩
end
section
open Go.RowKit
open Go.Lib hiding intOf
def ZZ (rs:List Bool):Nat→Nat
 | 0=>0
 | a+1=>if rs[a]? = some true then ZZ rs a else a+1
def Fv (rs:List Bool):Nat→Nat→Nat
 | 0,b=>b
 | f+1,b=>if rs[b]? = some true then Fv rs f (b+1) else b
theorem BC (rs:List Bool) (a:Nat):ZZ rs (a+1)=if rs[a]? = some true then ZZ rs a else a+1:=rfl
theorem CF (rs:List Bool) (f b:Nat):Fv rs (f+1) b=if rs[b]? = some true then Fv rs f (b+1) else b:=rfl
theorem AQ (rs:List Bool):∀ a,ZZ rs a≤a
 | 0=>ce _
 | a+1=>by
  have:=AQ rs a;unfold ZZ;split <;> omega
theorem GF (rs:List Bool):∀ f b,b≤Fv rs f b∧Fv rs f b≤b+f
 | 0,b=>⟨ce _,ce _⟩
 | f+1,b=>by
  have:=GF rs f (b+1);unfold Fv;split <;> omega
def blk (rs:List Bool) (n:Nat):Nat×Nat:=if rs[n]? = some true then (ZZ rs n,Fv rs (rs.length-(n+1)) (n+1)) else (n,n+1)
theorem F8 {rs:List Bool} {n:Nat} (h:n<rs.length):(blk rs n).1≤n∧n<(blk rs n).2∧(blk rs n).2≤rs.length:=by
 have h1:=AQ rs n;have h2:=GF rs (rs.length-(n+1)) (n+1);unfold blk;split <;> simp only [] <;> omega
theorem wM {rs:List Bool} {n:Nat} (h:rs[n]? = some false):blk rs n=(n,n+1):=by simp [blk,h]
def bz (l:List aR):List Bool:=l.map (·.Ring)
theorem pO {l:List aR} {n:Nat} (h:n<l.length):(bz l)[n]? = some l[n].Ring:=by simp [bz,h]
theorem AY {l:List aR} {n:Nat} (h:n<l.length) (hl:l.length≤1000000):ny l n=some (((blk (bz l) n).1:Int),((blk (bz l) n).2:Int)):=by
 unfold ny;rw [show decide ((n:Int)<0)=false by simp,show decide (((l.length:Int):Int)≤(n:Int))=false by simp; omega];simp only [cond_false,aq];have hr:=pO h;cases hb:l[n].Ring with
 | false =>
  rw [hb] at hr;have h1:loop (fun s:Int=>fm l n s) (n:Int)=some (n:Int):=cN (by
   unfold fm; rw [bN h]; simp only [aq,hb,cond_false])
  have h2:loop (fun s:Int=>fk l n s) ((n:Int)+1)=some ((n:Int)+1):=cN (by
   unfold fk; rw [bN h]; simp only [aq,hb,cond_false])
  rw [h1];unfold lr lq;rw [aq,gM (by omega) (by omega),h2,wM hr];rfl
 | true =>
  rw [hb] at hr;have h1:loop (fun s:Int=>fm l n s) (n:Int)=some ((ZZ (bz l) n:Nat):Int):=by
   refine xZ (I:=fun k s=>∃ a:Nat,a+k=n∧s=(a:Int)∧ZZ (bz l) a=ZZ (bz l) n) _ n ?_ ?_ ⟨n,rfl,rfl,rfl⟩
   ·rintro k _ hk ⟨a,ha,rfl,e⟩;unfold fm;obtain⟨c,rfl⟩:∃ c,a=c+1:=⟨a-1,by omega⟩;have hc:c<l.length:=by omega
    rw [bN h,show decide ((0:Int)<((c+1:Nat):Int))=true by simp <;> omega,gM (by omega) (by omega),show (((c+1:Nat):Int)-1)=(c:Int) by omega,bN hc];simp only [cond_true,aq,hb];have hr2:=pO hc;rw [BC,hr2] at e;cases hb2:l[c].Ring with
    | true=>rw [hb2,if_pos rfl] at e; exact .inl ⟨_,rfl,c,by omega,rfl,e⟩
    | false=>rw [hb2,if_neg (by simp)] at e; right; rw [← e]; rfl
   ·rintro _ ⟨a,ha,rfl,e⟩;obtain rfl:a=0:=by omega
    unfold fm;rw [bN h,← e];simp only [aq,hb,cond_true];rfl
  have h2:loop (fun s:Int=>fk l n s) ((n+1:Nat):Int)=some ((Fv (bz l) ((bz l).length-(n+1)) (n+1):Nat):Int):=by
   have hlen:(bz l).length=l.length:=by simp [bz]
   rw [hlen];refine xZ (I:=fun k s=>∃ a:Nat,a=n+1+k∧a≤l.length∧s=(a:Int)∧Fv (bz l) (l.length-a) a=Fv (bz l) (l.length-(n+1)) (n+1)) _ (l.length-(n+1)) ?_ ?_ ⟨n+1,rfl,h,rfl,rfl⟩
   ·rintro k _ hk ⟨a,ha,hal,rfl,e⟩;unfold fk;have hc:a<l.length:=by omega
    rw [bN h,show decide ((a:Int)<(l.length:Int))=true by simp; omega,bN hc,gM (by omega) (by omega)];simp only [cond_true,aq,hb];have hr2:=pO hc;rw [show l.length-a=(l.length-(a+1))+1 by omega] at e;rw [CF,hr2] at e;cases hb2:l[a].Ring with
    | true=>rw [hb2,if_pos rfl] at e; exact .inl ⟨_,rfl,a+1,by omega,by omega,by simp,e⟩
    | false=>rw [hb2,if_neg (by simp)] at e; right; rw [← e]; rfl
   ·rintro _ ⟨a,ha,hal,rfl,e⟩;obtain rfl:a=l.length:=by omega
    unfold fk;rw [ui] at e;rw [bN h,← e];simp [Fv,hb]
  rw [h1];simp only [aq];unfold lr lq;rw [gM (by omega) (by omega),show ((n:Int)+1)=((n+1:Nat):Int) by omega,h2];simp [blk,hr]
structure Cg (ring:Bool) (k:Nat) (b:Int) (a:dd):Prop where
 low:0≤a.N
 cell:a.Cell=true→a.N<4
 rule:a.Cell=false→a.N<b
 pick:a.Pick=true→ring=false∧0<k
 low2:0≤a.Else
 cell2:a.Cell=true→a.Else<4
 rule2:a.Cell=false→a.Else<b
 none:a.Pick=false→a.Else=0
structure Dy (b:Int) (r:aR):Prop where
 asks:r.Asks.length≤3
 each:∀ k a,r.Asks[k]? = some a→Cg r.Ring k b a
 ring:r.Ring=true→r.Final=5∧0≤r.C∧r.C≤16
 plain:r.Ring=false→1≤r.Final∧r.Final≤4∧0≤r.C∧r.C≤5
def Ce (rs:List Bool) (i:Nat):Nat:=if rs[i]? = some true then (blk rs i).2 else i
structure bI (l:List aR):Prop where
 low:2≤l.length
 high:l.length≤8
 each:∀ i r,l[i]? = some r→Dy (Ce (bz l) i) r
def Dv (ring:Bool) (b k:Int) (ks:List dd):Fl (Int×List Int×Int×List dd) (List Int×Int×List dd)→Prop
 | .go s=>s.1=k-1∧bO s.2.1 s.2.2.1∧∃ a,Cg ring ks.length b a∧s.2.2.2=ks++[a]
 | .out _=>False
section
variable {ring:Bool} {b k:Int} {ks:List dd} {cell:Bool} {most n:Int} {l:List Int} {i:Int}
theorem M7 {pick:Bool} {e:Int} (ha:Cg ring ks.length b ⟨cell,pick,n,e⟩) (hd:bO l i) (hk:1≤k∧k≤3) (hl:ks.length≤3):Ok (kL k ks cell n l i pick e) (Dv ring b k ks):=by
 unfold kL ph;exact fF (dX (by simp; omega)) (ap ⟨gM (by omega) (by omega),hd,_,ha,rfl⟩)
theorem M8 {g:Bool} (hg:g=true→ring=false∧0<ks.length) (hn:0≤n∧n<most) (hc:cell=true→most=4) (hr:cell=false→most=b) (hm:1≤most∧most≤8) (hd:bO l i) (hk:1≤k∧k≤3) (hl:ks.length≤3) :
  Ok (iR k ks cell most n g l i) (Dv ring b k ks):=by
 unfold iR;refine aC (fun e=>aL (cZ hd (by omega) (by omega)) fun r hr2=>M7 ⟨hn.1,fun h=>?_,fun h=>?_,fun _=>hg e,hr2.1,fun h=>?_,fun h=>?_,fun h=>by cases h⟩ hr2.2.2 hk hl)
  (fun e=>M7 ⟨hn.1,fun h=>?_,fun h=>?_,fun h=>(by cases h),by simp,fun h=>(by simp),fun h=>?_,fun h=>rfl⟩ hd hk hl)
 all_goals first
  | (have:=hc h; simp only []; omega)
  | (have:=hr h; simp only []; omega)
theorem M9 (hn:0≤n∧n<most) (hc:cell=true→most=4) (hr:cell=false→most=b) (hm:1≤most∧most≤8) (hd:bO l i) (hk:1≤k∧k≤3) (hl:ks.length≤3) :
  Ok (kM ring k ks cell most l i n) (Dv ring b k ks):=by
 unfold kM;refine aC (fun e=>aC (fun e2=>aL (cZ hd (by omega) (by omega)) fun r hr2=>M8 (fun _=>⟨by simpa using e,by simpa using e2⟩) hn hc hr hm hr2.2.2 hk hl) (fun e2=>?_)) (fun e=>?_)
 all_goals exact M8 (fun h=>by cases h) hn hc hr hm hd hk hl
theorem Na (hc:cell=true→most=4) (hr:cell=false→most=b) (hm:1≤most∧most≤8) (hd:bO l i) (hk:1≤k∧k≤3) (hl:ks.length≤3) :
  Ok (kO ring k ks l i cell most) (Dv ring b k ks):=by
 unfold kO;refine aL (cZ hd (by omega) (by omega)) fun r h1=>?_;have h8:∀ {g:Bool} {l2:List Int} {i2:Int},bO l2 i2→Ok (kN ring k ks cell most r g l2 i2) (Dv ring b k ks):=fun {g l2 i2} h2=>by
  unfold kN;refine aC (fun _=>aL (cZ h2 (by omega) (by omega)) fun q h3=>?_) (fun _=>M9 ⟨h1.1,h1.2.1⟩ hc hr hm h2 hk hl);have:=h3.1; have:=h3.2.1;rw [show IntKind.i64.wrap (most-1)=most-1 from gM (by omega) (by omega),gM (by omega) (by omega)];exact M9 ⟨by omega,by omega⟩ hc hr hm h3.2.2 hk hl
 refine aC (fun _=>aL (cZ h1.2.2 (by omega) (by omega)) fun q h3=>h8 h3.2.2) (fun _=>h8 h1.2.2)
theorem Nb (hb:0≤b∧b≤8) (hd:bO l i) (hk:1≤k∧k≤3) (hl:ks.length≤3):Ok (jx b ring k l i ks) (Dv ring b k ks):=by
 unfold jx;refine aC (fun _=>aL (cZ hd (by omega) (by omega)) fun r h1=>?_) (fun e=>by simp at e; omega);have h10:∀ {c:Bool},(c=false→1≤b)→Ok (ju b ring k ks r.2.L r.2.At c) (Dv ring b k ks):=fun {c} h=>by
  unfold ju;exact aC (fun e=>by subst e; exact Na (fun _=>rfl) (fun h=>by cases h) ⟨by omega,by omega⟩ h1.2.2 hk hl) (fun e=>by subst e; exact Na (fun h=>by cases h) (fun _=>rfl) ⟨h rfl,hb.2⟩ h1.2.2 hk hl)
 exact aC (fun _=>h10 fun h=>by cases h) (fun _=>h10 fun h=>by simp at h; omega)
end
def Kc (l:List aR) (n:Nat) (ring:Bool) (b:Int):Fl (List aR×Int×List Int×Int) (List aR×List Int×Int)→Prop
 | .go s=>(∃ r,Dy b r∧r.Ring=ring∧s.1=l.set n r)∧s.2.1=n+1∧bO s.2.2.1 s.2.2.2
 | .out _=>False
theorem JW {l:List aR} {n:Nat} (h:n<l.length) (hl:l.length≤8) {b:Int} (hb:0≤b∧b≤8) {ring:Bool} {d:List Int} {i:Int} (hd:bO d i) {f c:Int}
  (h5:ring=true→f=5∧0≤c∧c≤16) (h6:ring=false→1≤f∧f≤4∧0≤c∧c≤5):Ok (jv l n b ring d i f c) (Kc l n ring b):=by
 unfold jv;refine aL (cZ hd (by omega) (by omega)) fun r h1=>?_;refine bG (fun k s=>s.1=r.1-k∧s.2.2.2.length=k∧bO s.2.1 s.2.2.1∧∀ j a,s.2.2.2[j]? = some a→Cg ring j b a) (fun q=>q.2.2.length≤3∧bO q.1 q.2.1∧∀ j a,q.2.2[j]? = some a→Cg ring j b a) r.1.toNat
  ⟨by simp,rfl,h1.2.2,fun j a e=>by simp at e⟩ (fun k s hk hI=>?_) (fun q hq=>?_)
 ·obtain⟨e1,e2,e3,e4⟩:=hI;have:=h1.1; have:=h1.2.1;by_cases hz:(0:Int)<s.1
  ·refine (Nb hb e3 ⟨by omega,by omega⟩ (by omega)).mono fun y hy=>?_;cases y with
   | out q=>exact hy.elim
   | go s2 =>
    obtain⟨g1,g2,a,g3,g4⟩:=hy;refine⟨by omega,by omega,by rw [g4]; simp; omega,g2,fun j x hx=>?_⟩;rw [g4] at hx;by_cases hj:j<s.2.2.2.length
    ·rw [lM hj] at hx; exact e4 j x hx
    ·rw [lN (by omega)] at hx;obtain rfl:j=s.2.2.2.length:=by
      rcases i6 s.2.2.2.length j with h | h
      ·rw [xe (by simp; omega)] at hx; cases hx
      ·omega
     simp at hx; subst hx; exact g3
  ·unfold jx;rw [show decide ((0:Int)<s.1)=false by simpa using hz];exact ap ⟨by simp only []; omega,e3,e4⟩
 ·unfold mq pg;refine vN (by omega) (by omega) fun v _ _=>ap ⟨⟨⟨ring,q.2.2,f,c⟩,⟨hq.1,hq.2.2,h5,h6⟩,rfl,by simp⟩,gM (by omega) (by omega),hq.2.1⟩
theorem Nc {l:List aR} {n:Nat} (h:n<l.length) (hl:l.length≤8) {d:List Int} {i:Int} (hd:bO d i) (l0:List aR) (h0:l0.length=l.length):Ok (jy l0 l n d i) (Kc l n l[n].Ring (Ce (bz l) n)):=by
 unfold jy;rw [show decide ((n:Int)<(l0.length:Int))=true by simp; omega,AY h (by omega)];simp only [cond_true,aq];rw [bN h];simp only [aq];have hb:=F8 (rs:=bz l) (n:=n) (by simpa [bz] using h);have hlen:(bz l).length=l.length:=by simp [bz]
 have h14:∀ {b:Int},0≤b∧b≤8→Ok (jw l n d i b) (Kc l n l[n].Ring b):=fun {b} hb=>by
  unfold jw;rw [bN h,aq];refine aL (cZ hd (by omega) (by omega)) fun r h1=>aL (cZ h1.2.2 (by omega) (by omega)) fun q h2=>?_;have:=h1.1; have:=h1.2.1; have:=h2.1; have:=h2.2.1;rw [gM (by omega) (by omega)];unfold nZ;refine aC (fun e=>aL (cZ h2.2.2 (by omega) (by omega)) fun p h3=>vN h3.1 (by simpa using h3.2.1) fun v _ hv=>?_) (fun e=>?_)
  ·refine JW h hl hb h3.2.2 (fun _=>⟨rfl,?_⟩) (fun e2=>by rw [e] at e2; cases e2);simp only [ee,ou,or_false] at hv;omega
  ·exact JW h hl hb h2.2.2 (fun e2=>by rw [e] at e2; cases e2) (fun _=>⟨by omega,by omega,by omega,by omega⟩)
 have hr:=pO h;unfold Ce;rw [hr];cases e:l[n].Ring with
 | true=>rw [e] at h14; simp only [eI,cond_false,if_true]; exact h14 ⟨by omega,by omega⟩
 | false=>rw [e] at h14 hr; rw [wM hr]; simp only [nM,cond_true]; exact h14 ⟨by omega,by omega⟩
theorem FK {l:List aR} {n:Nat} {r:aR} (h:n<l.length) (e:r.Ring=l[n].Ring):bz (l.set n r)=bz l:=by
 unfold bz;rw [List.map_set,e];apply List.ext_getElem (by simp);intro j h1 h2;by_cases hj:n=j
 ·subst hj; simp
 ·simp [hj]
theorem Hs {d:List Int} {i:Int} (hd:bO d i):Ok (ri ⟨d,i⟩) fun y=>bI y.1∧bO y.2.L y.2.At:=by
 unfold ri;refine aL (cZ hd (by omega) (by omega)) fun r h1=>?_;have:=h1.1; have:=h1.2.1;rw [gM (by omega) (by omega)];refine bG (fun k s=>s.1.length=k∧s.2.1=2+r.1-k∧bO s.2.2.1 s.2.2.2) (fun q=>2≤q.1.length∧q.1.length≤8∧bO q.2.1 q.2.2) (2+r.1).toNat ⟨rfl,by simp,h1.2.2⟩ (fun k s hk hI=>?_) (fun q hq=>?_)
 ·obtain⟨e1,e2,e3⟩:=hI;unfold n3;refine aC (fun e=>aL (cZ e3 (by omega) (by omega)) fun q h2=>fF (dX (by simp; omega)) (ap ?_)) (fun e=>ap ?_)
  ·have e:(0:Int)<s.2.1:=by simpa using e
   exact⟨by omega,by simp [e1],by dsimp only; rw [gM (by omega) (by omega)]; omega,h2.2.2⟩
  ·have e:¬ (0:Int)<s.2.1:=by simpa using e
   exact⟨by dsimp only; omega,by dsimp only; omega,e3⟩
 ·obtain⟨q1,q2,q3⟩:=hq;unfold li;refine bG (fun k s=>s.1.length=q.1.length∧s.2.1=k∧bO s.2.2.1 s.2.2.2∧bz s.1=bz q.1∧∀ j r,j<k→s.1[j]? = some r→Dy (Ce (bz q.1) j) r) (fun p=>bI p.1∧bO p.2.1 p.2.2) q.1.length ⟨rfl,rfl,q3,rfl,fun j r h=>by omega⟩ (fun k s hk hI=>?_) (fun p hp=>?_)
  ·obtain⟨e1,e2,e3,e4,e5⟩:=hI;by_cases hz:k<q.1.length
   ·have hz1:k<s.1.length:=by omega
    rw [e2];refine (Nc hz1 (by omega) e3 q.1 e1.symm).mono fun y hy=>?_;cases y with
    | out q=>exact hy.elim
    | go s2 =>
     obtain⟨⟨x,g1,g2,g3⟩,g4,g5⟩:=hy;refine⟨hz,by rw [g3]; simpa using e1,by rw [g4]; simp,g5,by rw [g3,FK hz1 g2]; exact e4,fun j r hj hr=>?_⟩;rw [g3] at hr;by_cases hjk:k=j
     ·subst hjk;rw [uj hz1] at hr;injection hr with hr; subst hr;rw [e4] at g1; exact g1
     ·rw [ov hjk] at hr;exact e5 j r (by omega) hr
   ·unfold jy;rw [show decide ((s.2.1:Int)<(q.1.length:Int))=false by simp; omega];refine ap ⟨⟨by simp only []; omega,by simp only []; omega,fun j r hr=>?_⟩,e3⟩;rw [e4];exact e5 j r (by have:=(bH.1 hr).1; dsimp only at this; omega) hr
  ·unfold mp;exact ap hp
def DM (rs:List Bool) (i:Nat) (cell:Bool) (n:Int):Bool:=decide (0≤n)&&cond cell (decide (n≤15)) (decide (n<(Ce rs i:Int)))
theorem zh {l:List aR} {i:Nat} (h:i<l.length) (hl:l.length≤1000000) (x:dd) (n:Int):qL l (i:Int) x n=some (DM (bz l) i x.Cell n):=by
 unfold qL DM;cases x.Cell with
 | true =>
  rw [cond_true,cond_true];cases decide (0≤n) <;> rfl
 | false =>
  rw [cond_false,cond_false,AY h hl,aq];dsimp only;have hr:=pO h;rw [bN h,aq];unfold Ce;rw [hr];cases hg:l[i].Ring with
  | true =>
   rw [if_pos rfl];unfold l5 l4;cases decide (0≤n) <;> rfl
  | false =>
   rw [hg] at hr;rw [if_neg (by simp),wM hr];unfold l5 l4;cases decide (0≤n) <;> rfl
def Ki (rs:List Bool) (i:Nat) (ring first:Bool) (a:dd):Bool:=DM rs i a.Cell a.N&&cond a.Pick (!ring && !first&&DM rs i a.Cell a.Else) ((a.Else:Int)==0)
theorem yV {ρ:Type} {B:Int→Option (Fl Int ρ)} (n:Nat) (p:Nat→Bool) {y r:ρ} (hgo:∀ k,k<n→p k=false→B (k:Int)=some (.go ((k+1:Nat):Int))) (hy:∀ k,k<n→p k=true→B (k:Int)=some (.out y)) (hn:B (n:Int)=some (.out r)):loop B 0=some (if (List.range n).any p then y else r):=by
 have hx:∀ (k x:Nat),(List.range n)[k]? = some x→x=k∧k<n:=fun k x h=>by
  have hk:=aV h;simp only [xF] at hk;rw [List.getElem?_range hk] at h;exact⟨(cR h).symm,hk⟩
 refine nY (xs:=List.range n) p (fun k=>(k:Int)) rfl (fun k x h hp=>?_) (fun k x h hp=>?_) (by simpa using hn)
 ·obtain⟨rfl,hk⟩:=hx k x h;exact hgo _ hk hp
 ·obtain⟨rfl,hk⟩:=hx k x h;exact hy _ hk hp
def Ff (rs:List Bool) (i:Nat) (r:aR) (k:Nat):Bool:=match r.Asks[k]? with
 | some a=>!Ki rs i r.Ring (((k:Nat):Int)==0) a
 | none=>false
def AA (rs:List Bool) (i:Nat) (r:aR):Bool:=!((List.range r.Asks.length).any (Ff rs i r))
def ES (rs:List Bool) (i:Nat) (r:aR) (low high most:Int):Bool:=!decide ((6:Int)<(r.Asks.length:Int)) && !decide (r.Final<low) && !decide (high<r.Final) && !decide (r.C<0) && !decide (most<r.C)&&AA rs i r
def ER (rs:List Bool) (i:Nat) (r:aR):Bool:=cond r.Ring (ES rs i r 5 5 65535) (ES rs i r 1 4 999)
def NE (l:List aR):Prop:=l.length≤1000∧∀ r∈l,r.Asks.length≤1000
theorem Hi {l:List aR} {i:Nat} (h:i<l.length) (hl:NE l):loop (fun s:Int=>fo l (i:Int) l[i] s) 0=some (cond (AA (bz l) i l[i]) (Fl.go ()) (Fl.out false)):=by
 have hA:=hl.2 _ (ge h);have hB:=hl.1;have hstep:∀ k,(hk:k<l[i].Asks.length)→fo l (i:Int) l[i] (k:Int)=some (cond (Ff (bz l) i l[i] k) (.out (.out false)) (.go ((k+1:Nat):Int))):=fun k hk=>by
  unfold Ff;rw [bq hk];dsimp only;unfold fo Ki eu;rw [dlt hk,cond_true,bN hk,aq,zh h (by omega),zh h (by omega),cc (by omega)];simp only [aq,bne];generalize (((k:Nat):Int)==0)=f;generalize ((l[i].Asks[k].Else:Int)==0)=z;generalize DM (bz l) i l[i].Asks[k].Cell l[i].Asks[k].N=m1;generalize DM (bz l) i l[i].Asks[k].Cell l[i].Asks[k].Else=m2;generalize l[i].Asks[k].Pick=pk;generalize l[i].Ring=rg;cases pk <;> cases rg <;> cases f <;> cases m1 <;> cases m2 <;> cases z <;> rfl
 have e:=yV (B:=fun s:Int=>fo l (i:Int) l[i] s) l[i].Asks.length (Ff (bz l) i l[i]) (y:=Fl.out false) (r:=Fl.go ()) (fun k hk hp=>by rw [hstep k hk,hp]; rfl) (fun k hk hp=>by rw [hstep k hk,hp]; rfl) (by unfold fo; rw [bA]; rfl);rw [e];unfold AA;cases (List.range l[i].Asks.length).any (Ff (bz l) i l[i]) <;> rfl
def Fg (l:List aR) (k:Nat):Bool:=match l[k]? with
 | some r=>!ER (bz l) k r
 | none=>false
def BU (l:List aR):Bool:=decide ((l.length:Int)≤24) && !((List.range l.length).any (Fg l))
theorem FJ {l:List aR} (hl:NE l):pH l=some (BU l):=by
 have hB:=hl.1;unfold pH BU;have hstep:∀ k,(hk:k<l.length)→gU l (k:Int)=some (cond (Fg l k) (.out (.out false)) (.go ((k+1:Nat):Int))):=fun k hk=>by
  have hj:gT (k:Int) l[k]=some (cond ((cond l[k].Ring (!decide (l[k].Final<5) && !decide (5<l[k].Final) && !decide (l[k].C<0) && !decide (65535<l[k].C)) (!decide (l[k].Final<1) && !decide (4<l[k].Final) && !decide (l[k].C<0) && !decide (999<l[k].C)))) (.go ((k+1:Nat):Int)) (.out (.out false))):=by
   unfold gT dm n8;rw [cc (by omega)];cases hrg:l[k].Ring
   ·cases decide (l[k].Final<1) <;> cases decide (4<l[k].Final) <;> cases decide (l[k].C<0) <;> cases decide (999<l[k].C) <;> rfl
   ·by_cases h5:l[k].Final=5
    ·rw [show ((l[k].Final:Int) != 5)=false by simp [h5],decide_eq_false (show ¬ l[k].Final<5 by omega),decide_eq_false (show ¬ 5<l[k].Final by omega)];cases decide (l[k].C<0) <;> cases decide (65535<l[k].C) <;> rfl
    ·rw [show ((l[k].Final:Int) != 5)=true by simp [h5]];rcases (show l[k].Final<5∨5<l[k].Final by omega) with h | h
     ·rw [decide_eq_true h]; rfl
     ·rw [decide_eq_true h]; simp
  unfold Fg;rw [bq hk];dsimp only;unfold gU ER ES;rw [dlt hk,cond_true,bN hk,aq,Hi hk hl,aq];have hel:∀ z:Bool,(cond z (Fl.go ()) (Fl.out false):Fl Unit Bool).el (fun s=>gT (k:Int) l[k]) (fun y=>some (.out (.out y)))=cond z (gT (k:Int) l[k]) (some (.out (.out false))):=fun z=>by cases z <;> rfl
  rw [hel,hj];generalize AA (bz l) k l[k]=z;generalize decide ((6:Int)<(l[k].Asks.length:Int))=d6;cases l[k].Ring
  ·simp only [cond_false];generalize decide (l[k].Final<1)=d1;generalize decide (4<l[k].Final)=d2;generalize decide (l[k].C<0)=d3;generalize decide (999<l[k].C)=d4;cases z <;> cases d6 <;> cases d1 <;> cases d2 <;> cases d3 <;> cases d4 <;> rfl
  ·simp only [cond_true];generalize decide (l[k].Final<5)=d1;generalize decide (5<l[k].Final)=d2;generalize decide (l[k].C<0)=d3;generalize decide (65535<l[k].C)=d4;cases z <;> cases d6 <;> cases d1 <;> cases d2 <;> cases d3 <;> cases d4 <;> rfl
 rw [yV (B:=fun s:Int=>gU l s) l.length (Fg l) (y:=Fl.out false) (r:=Fl.go ()) (fun k hk hp=>by rw [hstep k hk,hp]; rfl) (fun k hk hp=>by rw [hstep k hk,hp]; rfl) (by unfold gU; rw [bA]; rfl)];unfold n7;cases (List.range l.length).any (Fg l) <;> simp [Fl.el]
theorem DL {l:List aR} (h:bI l):BU l=true:=by
 unfold BU;have h8:=h.high;rw [decide_eq_true (by omega),ue,uh,zP];intro i hi;have hi:=vG.1 hi;unfold Fg;have hg:=bq hi;rw [hg];dsimp only;have hR:=h.each i l[i] hg;have ha:AA (bz l) i l[i]=true:=by
  unfold AA;rw [uh,zP];intro k hk;have hk:=vG.1 hk;unfold Ff;have hka:=bq hk;rw [hka];dsimp only;have hA:=hR.each k _ hka;generalize l[i].Asks[k]=a at hA;unfold Ki DM;have hn:=hA.low;have he:=hA.low2;rw [decide_eq_true hn,decide_eq_true he,ue,ue];have c1:cond a.Cell (decide (a.N≤15)) (decide (a.N<(Ce (bz l) i:Int)))=true:=by
   cases hc:a.Cell
   ·exact decide_eq_true (hA.rule hc)
   ·have:=hA.cell hc;exact decide_eq_true (by omega)
  have c2:cond a.Cell (decide (a.Else≤15)) (decide (a.Else<(Ce (bz l) i:Int)))=true:=by
   cases hc:a.Cell
   ·exact decide_eq_true (hA.rule2 hc)
   ·have:=hA.cell2 hc;exact decide_eq_true (by omega)
  rw [c1,c2,ue];cases hp:a.Pick
  ·rw [hA.none hp]; simp
  ·obtain⟨p1,p2⟩:=hA.pick hp;rw [p1,show (((k:Nat):Int)==0)=false by simp; omega]; simp
 have hb:ER (bz l) i l[i]=true:=by
  have hl:=hR.asks;unfold ER ES;rw [ha,decide_eq_false (show ¬ (6:Int)<(l[i].Asks.length:Int) by omega)];cases hr:l[i].Ring
  ·obtain⟨q1,q2,q3,q4⟩:=hR.plain hr;rw [cond_false,decide_eq_false (show ¬ l[i].Final<1 by omega),decide_eq_false (show ¬ 4<l[i].Final by omega),decide_eq_false (show ¬ l[i].C<0 by omega),decide_eq_false (show ¬ 999<l[i].C by omega)]; rfl
  ·obtain⟨q1,q2,q3⟩:=hR.ring hr;rw [cond_true,decide_eq_false (show ¬ l[i].Final<5 by omega),decide_eq_false (show ¬ 5<l[i].Final by omega),decide_eq_false (show ¬ l[i].C<0 by omega),decide_eq_false (show ¬ 65535<l[i].C by omega)]; rfl
 rw [hb]; decide
theorem bI.bnd {l:List aR} (h:bI l):NE l:=⟨by have:=h.high; omega,fun r hr=>by
 obtain⟨i,hi⟩:=gt.1 hr;have:=(h.each i r hi).asks; omega⟩
theorem BF (n:Int) {m:Int} (hm:0<m) (hm2:m≤1000000000):Ok (jt n m) fun r=>0≤r∧r<m:=by
 obtain⟨k,rfl⟩:∃ k:Nat,m=k:=⟨m.toNat,by omega⟩;obtain⟨r,hr,e⟩:=yZ n (m:=k) (by omega) (by omega);exact⟨_,e,by omega,by omega⟩
end
end Go.Proofs.YtdcojaccpnabkaaGreatDoor
