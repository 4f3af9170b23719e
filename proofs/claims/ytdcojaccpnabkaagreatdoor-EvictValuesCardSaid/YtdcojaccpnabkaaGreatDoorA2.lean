/- Texts of the proof, joined (2). -/
import Derived.Test.YtdcojaccpnabkaaGreatDoorA1
import Derived.Test.YtdcojaccpnabkaaGreatDoorA0
set_option linter.unusedVariables false
set_option linter.unusedSimpArgs false
set_option linter.unusedSectionVars false
namespace Go.Proofs.YtdcojaccpnabkaaGreatDoor
section
set_option maxRecDepth 100000
set_option maxHeartbeats 4000000
open Go.RowKit
noncomputable section
def ow (b:Bool):Option Bool:=some (b)
def kg (b:Bool):Option Bool:=some (b)
def kh (b:Int) (c:Int):Option Bool:=cond (decide ((0:Int)≤b)) (kg (decide (b<c))) (kg false)
def oG (b:LU) (e:Int) (g:cD) (c:Int):Option Bool:=cond g.Cell (cond (decide ((0:Int)≤c)) (ow (decide (c≤15))) (ow false)) ((lC b e).bind fun d=>(bk b e).bind fun f=>cond (!(f.Ring)) (kh c d.1) (kh c d.2))
theorem vH (T:Nat→Prop) (W0:World) (hT:TW T W0) (b:LU) (g:Int) (k:cD) (f:Int) (o:Value) (n:aC ar T W0 o b) (y:Bool) (hM:oG b g k f=some y):a7 aO No 112 [o,al g,.agg (HX k).toArray,al f] W0 (fun v w'=>v = .bool y):=by
 refine en Tryz.func112 Tryz.ntmps112 hT fun a hS=>?_;replace hS:=hS.fS (aC.dn n);unfold oG at hM;refine am hS fun a hS=>?_;refine kb hS fun p t a w hk hS=>?_;refine am hS fun a hS=>?_;refine ay ?_;refine am hS fun a hS=>?_;rcases cd hM with⟨l,hM⟩|⟨l,hM⟩
 ·refine am hS fun a hS=>?_;refine aK (J:=fun a w=>∃ (d:Bool),St W0 No T 39 [(8,.bool d)] [] [] a w∧ow d=some y) ?_ ?_
  ·exact fz
  rintro a w ⟨d,hS,hM⟩;unfold ow at hM;exact fz
 refine am hS fun a hS=>?_;obtain⟨x,i,hM⟩:=bd hM;refine kc hS JU (s9 _ _ hS.dlt b g _ (hS.get 0 rfl) _ i) fun _ w hR a hk hA=>?_;obtain rfl:=hR;have hS:=ce hA;refine am hS fun a hS=>?_;refine aK (J:=fun a w=>∃ (c:Int),St W0 No T 39 [(3,al f),(10,al c)] [] [] a w∧kh f c=some y) ?_ ?_
 ·skip;refine am hS fun a hS=>?_;obtain⟨s,h,hM⟩:=bd hM;refine wl rfl (bu (R:=ar) hS vk pM rfl rfl 0 rfl h rfl fun q u r m a hS=>?_);obtain⟨z,rfl,j⟩:=m;replace hS:=hS.fS j;exact fz
 rintro a w ⟨c,hS,hM⟩;unfold kh at hM;refine aK (J:=fun a w=>∃ (e:Bool),St W0 No T 39 [(8,.bool e)] [] [] a w∧kg e=some y) ?_ ?_
 ·exact fz
 rintro a w ⟨e,hS,hM⟩;unfold kg at hM;exact fz
def l5 (b:LU):Option Bool:=some (decide ((b.length:Int)≤24))
def l6 (b:Int):Option (Fl (Int) (Fl (Unit) Bool)):=some (.go (IntKind.i64.wrap (b+1)))
def cN (b:Int) (c:Bool):Option (Fl (Int) (Fl (Unit) Bool)):=cond c (some (.out (.out false))) (l6 b)
def fc (c:Int) (b:aI):Option (Fl (Int) (Fl (Unit) Bool)):=cond b.Ring (cond (b.Final != 5) (cN c true) (cond (decide (b.C<0)) (cN c true) (cond (decide ((65535:Int)<b.C)) (cN c true) (cN c false)))) (cond (decide (b.Final<1)) (cN c true) (cond (decide ((4:Int)<b.Final)) (cN c true) (cond (decide (b.C<0)) (cN c true) (cN c (decide ((999:Int)<b.C))))))
def dx (b:Int) (c:Bool):Option (Fl (Int) (Fl (Unit) Bool)):=cond c (some (.out (.out false))) (some (.go (IntKind.i64.wrap (b+1))))
def ef (d:LU) (f:Int) (e:aI) (b:Int):Option (Fl (Int) (Fl (Unit) Bool)):=cond (decide (b<(e.Asks.length:Int))) ((bk e.Asks b).bind fun c=>(oG d f c c.N).bind fun g=>cond (!(g)) (dx b true) (cond c.Pick (cond e.Ring (dx b true) (cond (b==0) (dx b true) ((oG d f c c.Else).bind fun h=>cond (!(h)) (dx b true) (dx b false)))) (dx b (c.Else != 0)))) (some (.out (.go ())))
def fe (b:LU) (c:Int):Option (Fl (Int) (Fl (Unit) Bool)):=cond (decide (c<(b.length:Int))) ((bk b c).bind fun d=>cond (decide ((6:Int)<(d.Asks.length:Int))) (some (.out (.out false))) ((loop (fun s:Int=>ef b c d s) 0).bind fun r=>Fl.el r (fun s=>fc c d) (fun y=>some (.out (.out y))))) (some (.out (.go ())))
def lD (b:LU):Option Bool:=(loop (fun s:Int=>fe b s) 0).bind fun r=>Fl.el r (fun s=>l5 b) (fun y=>some (y))
theorem ta (T:Nat→Prop) (W0:World) (hT:TW T W0) (b:LU) (d:Value) (I:aC ar T W0 d b) (y:Bool) (hM:lD b=some y):a7 aO No 93 [d] W0 (fun v w'=>v = .bool y):=by
 refine en Tryz.func93 Tryz.ntmps93 hT fun a hS=>?_;replace hS:=hS.fS (aC.dn I);unfold lD at hM;refine am hS fun a hS=>?_;refine aK (J:=fun a w=>St W0 No T 111 [(0,d)] [] [aL ar d b] a w∧l5 b=some y) ?_ ?_
 ·skip;refine am hS fun a hS=>?_;obtain⟨Y,G,hMo1⟩:=bd hM;refine bx _ (fun s a w=>∃ (c:Int),c=s∧St W0 No T 111 [(0,d),(7,d),(8,al (b.length:Int)),(9,al c)] [] [aL ar d b] a w) G ⟨_,rfl,hS.mt [] [0]⟩ ?_;rintro s a w m ⟨c,rfl,hS⟩ hM hf1;have hM:fe b c=some m:=hM;unfold fe at hM;refine am hS fun a hS=>?_;refine ay ?_;rcases cd hM with⟨t,hM⟩|⟨t,hM⟩
  ·refine am hS fun a hS=>?_;refine aK (J:=fun a w=>St W0 No T 111 [(0,d),(7,d),(8,al (b.length:Int)),(9,al c)] [] [aL ar d b] a w∧l6 c=some m) ?_ ?_
   ·skip;refine am hS fun a hS=>?_;obtain⟨e,n,hM⟩:=bd hM;refine wl rfl (bu (R:=ar) hS vk pM rfl rfl 0 rfl n rfl fun K U O u a hS=>?_);obtain⟨f,rfl,r⟩:=u;replace hS:=hS.fS r;refine am hS fun a hS=>?_;refine ka hS rK fun g Q a w hk hS=>?_;refine go hS fun a w hS=>?_;refine ay ?_;refine am hS fun a hS=>?_;rcases cd hM with⟨x,hM⟩|⟨x,hM⟩
    ·exact fz
    refine am hS fun a hS=>?_;refine aK (J:=fun a w=>St W0 No T 111 [(0,d),(4,pt g 0),(7,d),(8,al (b.length:Int)),(9,al c)] [.box g (sX e f) 115] [aL ar d b,aL dJ f e.Asks] a w∧fc c e=some m) ?_ ?_
    ·skip;refine am hS fun a hS=>?_;obtain⟨Z,H,hMo2⟩:=bd hM;refine bx _ (fun s a w=>∃ (h:Int),h=s∧St W0 No T 111 [(0,d),(3,al c),(4,pt g 0),(7,d),(8,al (b.length:Int)),(9,al c),(19,f),(20,al (e.Asks.length:Int)),(21,al h)] [.box g (sX e f) 115] [aL ar d b,aL dJ f e.Asks] a w) H ⟨_,rfl,hS.mt [0] [2,0]⟩ ?_;rintro s a w F ⟨h,rfl,hS⟩ hM hf2;have hM:ef b c e h=some F:=hM;unfold ef at hM;refine am hS fun a hS=>?_;refine ay ?_;rcases cd hM with⟨z,hM⟩|⟨z,hM⟩
     ·refine am hS fun a hS=>?_;refine ay ?_;refine am hS fun a hS=>?_;obtain⟨i,o,hM⟩:=bd hM;refine wl rfl (bu (R:=dJ) hS Ft FD rfl rfl 1 rfl o rfl fun L V P A a hS=>?_);obtain rfl:=A;refine am hS fun a hS=>?_;refine ka hS xK fun M S a w hk hS=>?_;refine go hS fun a w hS=>?_;refine aK (J:=fun a w=>∃ (k:Bool),St W0 No T 111 [(0,d),(3,al c),(4,pt g 0),(7,d),(8,al (b.length:Int)),(9,al c),(19,f),(20,al (e.Asks.length:Int)),(21,al h),(63,.bool k)] [.box g (sX e f) 115] [aL ar d b,aL dJ f e.Asks] a w∧dx h k=some F) ?_ ?_
      ·skip;refine am hS fun a hS=>?_;obtain⟨W,p,hM⟩:=bd hM;refine kc hS Hm (vH _ _ hS.dlt b c i i.N _ (hS.get 1 rfl) _ p) fun _ w hR a hk hA=>?_;obtain rfl:=hR;have hS:=ce hA;refine am hS fun a hS=>?_;rcases cd hM with⟨B,hM⟩|⟨B,hM⟩
       ·exact fz
       refine am hS fun a hS=>?_;rcases cd hM with⟨C,hM⟩|⟨C,hM⟩
       ·refine am hS fun a hS=>?_;rcases cd hM with⟨D,hM⟩|⟨D,hM⟩
        ·exact fz
        refine am hS fun a hS=>?_;rcases cd hM with⟨l,hM⟩|⟨l,hM⟩
        ·exact fz
        refine am hS fun a hS=>?_;obtain⟨X,q,hM⟩:=bd hM;refine wg hS rfl rfl rfl l (bz hS Hm rfl rfl (vH _ _ hS.dlt b c i i.Else _ (hS.get 1 rfl) _ q) fun _ w hR a hk hA=>?_);obtain rfl:=hR;have hS:=ce hA;exact fz
       exact fz
      rintro a w ⟨k,hS,hM⟩;unfold dx at hM;rcases cd hM with⟨E,hM⟩|⟨E,hM⟩
      ·refine am hS fun a hS=>?_;cases hM
       have hr:=hf2 _ rfl;subst hr;replace hMo2:=kv hMo2;have hM:=hMo2;cases hM
       have hr:=hf1 _ rfl;subst hr;replace hMo1:=kv hMo1;have hM:=hMo1;cases hM
       refine aG hS rfl (aw hS rfl aF) ?_;exact rfl
      exact fz
     exact fz
    rintro a w ⟨hS,hM⟩;unfold fc at hM;refine aK (J:=fun a w=>∃ (j:Bool),St W0 No T 111 [(0,d),(7,d),(8,al (b.length:Int)),(9,al c),(106,.bool j)] [] [aL ar d b] a w∧cN c j=some m) ?_ ?_
    ·exact fz
    rintro a w ⟨j,hS,hM⟩;unfold cN at hM;exact fz
   rintro a w ⟨hS,hM⟩;unfold l6 at hM;exact fz
  exact fz
 rintro a w ⟨hS,hM⟩;unfold l5 at hM;exact fz
def nK (c:ByteArray) (b:Int):Option ae:=some ((ae.mk b c))
def jx (c:LU) (b:Int):Option ae:=cond (decide (b<0)) (some ((ae.mk 0 bW))) (cond (decide ((c.length:Int)≤b)) (some ((ae.mk 0 bW))) (cond (decide ((99:Int)<b)) (some ((ae.mk 0 bW))) ((vF b).bind fun d=>(bk c b).bind fun e=>cond e.Ring (nK d 32) (nK d 31))))
theorem mO (T:Nat→Prop) (W0:World) (hT:TW T W0) (hLv:dc T W0) (c:LU) (g:Int) (p:Value) (o:aC ar T W0 p c) (y:ae) (hM:jx c g=some y):a7 aO No 92 [p,al g] W0 (fun v w'=>v = .agg (aV y).toArray):=by
 refine en Tryz.func92 Tryz.ntmps92 hT fun a hS=>?_;replace hS:=(hS.fact br (dc.dn hLv)).fS (aC.dn o);unfold jx at hM;refine am hS fun a hS=>?_;refine ka hS fE fun e t a w hk hS=>?_;refine am hS fun a hS=>?_;refine ay ?_;refine jg ?_;refine am hS fun a hS=>?_;rcases cd hM with⟨k,hM⟩|⟨k,hM⟩
 ·refine am hS fun a hS=>?_;refine qy hS (bp (ps:=[]) hS zE fE rfl (us:=[]) trivial (ws:=[al 0,aZ bW]) rfl) fun a hS=>?_;refine go hS fun a w hS=>?_;cases hM
  refine aG hS rfl (rC 0 hS) ?_;exact rfl
 refine am hS fun a hS=>?_;rcases cd hM with⟨l,hM⟩|⟨l,hM⟩
 ·refine am hS fun a hS=>?_;refine qy hS (bp (ps:=[]) hS zE fE rfl (us:=[]) trivial (ws:=[al 0,aZ bW]) rfl) fun a hS=>?_;refine go hS fun a w hS=>?_;cases hM
  refine aG hS rfl (rC 0 hS) ?_;exact rfl
 refine am hS fun a hS=>?_;rcases cd hM with⟨m,hM⟩|⟨m,hM⟩
 ·refine am hS fun a hS=>?_;refine qy hS (bp (ps:=[]) hS zE fE rfl (us:=[]) trivial (ws:=[al 0,aZ bW]) rfl) fun a hS=>?_;refine go hS fun a w hS=>?_;cases hM
  refine aG hS rfl (rC 0 hS) ?_;exact rfl
 refine am hS fun a hS=>?_;obtain⟨b,i,hM⟩:=bd hM;refine kc hS Cn (wj _ _ hS.dlt (hS.get 1 rfl) g _ i) fun _ w hR a hk hA=>?_;obtain rfl:=hR;have hS:=ce hA;refine qy hS (bp (ps:=[(0,.const (al 31)),(1,.tmp 20)]) hS zE fE rfl (us:=[[al 31],[aZ b]]) ⟨rfl,⟨rfl,trivial⟩⟩ (ws:=[al 31,aZ b]) rfl) fun a hS=>?_;refine ka hS fE fun f u a w hk hS=>?_;refine go hS fun a w hS=>?_;refine aK (J:=fun a w=>∃ (d:Int),St W0 No T 29 [(4,pt e 0),(5,pt f 0)] [.box e [al 0,aZ bW] 31,.box f [al d,aZ b] 31] [br] a w∧nK b d=some y) ?_ ?_
 ·skip;refine am hS fun a hS=>?_;obtain⟨s,h,hM⟩:=bd hM;refine wl rfl (bu (R:=ar) hS vk pM rfl rfl 0 rfl h rfl fun q x r n a hS=>?_);obtain⟨z,rfl,j⟩:=n;replace hS:=hS.fS j;exact fz
 rintro a w ⟨d,hS,hM⟩;unfold nK at hM;refine go hS fun a w hS=>?_;cases hM
 refine aG hS rfl (rC 0 hS) ?_;exact rfl
def eo (b:Bool):Option Bool:=some (b)
def jK (c:LU) (b:ae):Option Bool:=(dH b).bind fun f=>cond f (cond (b.Kind != 31) (cond (b.Kind != 32) (eo true) ((fW b).bind fun g=>(jx c g).bind fun d=>eo (d.Kind==b.Kind&&d.Text.toList==b.Text.toList))) ((fW b).bind fun h=>(jx c h).bind fun e=>eo (e.Kind==b.Kind&&e.Text.toList==b.Text.toList))) (eo false)
theorem pW (T:Nat→Prop) (W0:World) (hT:TW T W0) (hLv:dc T W0) (c:LU) (b:ae) (s:Value) (r:aC ar T W0 s c) (y:Bool) (hM:jK c b=some y):a7 aO No 94 [s,.agg (aV b).toArray] W0 (fun v w'=>v = .bool y):=by
 refine en Tryz.func94 Tryz.ntmps94 hT fun a hS=>?_;replace hS:=(hS.fact br (dc.dn hLv)).fS (aC.dn r);unfold jK at hM;refine am hS fun a hS=>?_;refine kb hS fun t u a w hk hS=>?_;refine am hS fun a hS=>?_;refine aK (J:=fun a w=>∃ (e:Bool),St W0 No T 25 [(4,.bool e)] [] [br] a w∧eo e=some y) ?_ ?_
 ·skip;refine dr [] hS fun w hQ hS=>?_;refine gE [0] hS fun a hS=>?_;obtain⟨x,h,hM⟩:=bd hM;refine ec 1 hS Er (kL _ _ hS.dlt b _ h) fun _ w hR a hk hA=>?_;obtain rfl:=hR;have hS:=ce hA;refine gE [2] hS fun a hS=>?_;rcases cd hM with⟨n,hM⟩|⟨n,hM⟩
  ·refine gE [3,4,5,6] hS fun a hS=>?_;rcases cd hM with⟨o,hM⟩|⟨o,hM⟩
   ·refine gE [7,8,9,10,11] hS fun a hS=>?_;rcases cd hM with⟨d,hM⟩|⟨d,hM⟩
    ·refine gE [12,13,14,15,16,17,18,19,20] hS fun a hS=>?_;refine eD ?_;exact⟨_,hS.mt [] [1],hM⟩
    refine gE [12,13,16] hS fun a hS=>?_;obtain⟨p,j,hM⟩:=bd hM;refine cS (i:=14) rfl (by kernel_rfl) hS rfl rfl rfl d (bz hS Gb rfl rfl (l3 _ _ hS.dlt b _ j) fun _ w hR a hk hA=>⟨fA (hk),?_⟩);obtain rfl:=hR;have hS:=ce hA;obtain⟨f,k,hM⟩:=bd hM;refine cS (i:=15) rfl (by kernel_rfl) hS rfl rfl rfl d (bz hS Dl rfl rfl (mO _ _ hS.dlt (hS.get 1 rfl) c p _ (hS.get 0 rfl) _ k) fun _ w hR a hk hA=>⟨fA (hk),?_⟩);obtain rfl:=hR;have hS:=ce hA;refine wO 17 (v:=.bool (f.Kind==b.Kind&&f.Text.toList==b.Text.toList)) rfl (by kernel_rfl) (by kernel_rfl) (by kernel_rfl) rfl hQ hS (zj hS rfl rfl) rfl rfl rfl d rfl rfl fun a hS=>?_;refine gE [18,19,20] hS fun a hS=>?_;refine eD ?_;exact⟨_,hS.mt [] [1],hM⟩
   refine gE [7,8,9,10,11,12,13,16] hS fun a hS=>?_;obtain⟨q,l,hM⟩:=bd hM;refine cS (i:=14) rfl (by kernel_rfl) hS rfl rfl rfl rfl (bz hS Gb rfl rfl (l3 _ _ hS.dlt b _ l) fun _ w hR a hk hA=>⟨fA (hk),?_⟩);obtain rfl:=hR;have hS:=ce hA;obtain⟨g,m,hM⟩:=bd hM;refine cS (i:=15) rfl (by kernel_rfl) hS rfl rfl rfl rfl (bz hS Dl rfl rfl (mO _ _ hS.dlt (hS.get 1 rfl) c q _ (hS.get 0 rfl) _ m) fun _ w hR a hk hA=>⟨fA (hk),?_⟩);obtain rfl:=hR;have hS:=ce hA;refine wO 17 (v:=.bool (g.Kind==b.Kind&&g.Text.toList==b.Text.toList)) rfl (by kernel_rfl) (by kernel_rfl) (by kernel_rfl) rfl hQ hS (zj hS rfl rfl) rfl rfl rfl rfl rfl rfl fun a hS=>?_;refine gE [18,19,20] hS fun a hS=>?_;refine eD ?_;exact⟨_,hS.mt [] [1],hM⟩
  refine gE [3,4,5,6,7,8,9,10,11,12,13,14,15,16,17,18,19,20] hS fun a hS=>?_;refine eD ?_;exact⟨_,hS.mt [] [1],hM⟩
 rintro a w ⟨e,hS,hM⟩;unfold eo at hM;exact fz
def o8:Option Int:=some (0)
def jQ (d:LU) (b:LK) (c:Int):Option (Fl (Int) (Fl (Unit) Int)):=cond (decide (c<(b.length:Int))) ((bk b c).bind fun e=>(jK d e).bind fun f=>cond (!(f)) (some (.out (.out 40))) (some (.go (IntKind.i64.wrap (c+1))))) (some (.out (.go ())))
def jP (c:LU) (f:ai) (b:LK):Option Int:=(lD c).bind fun d=>cond (!(d)) (some (41)) ((ic f).bind fun e=>cond (!(e)) (some (42)) (cond (decide ((32:Int)<(b.length:Int))) (some (3)) ((loop (fun s:Int=>jQ c b s) 0).bind fun r=>Fl.el r (fun s=>o8) (fun y=>some (y)))))
theorem pX (T:Nat→Prop) (W0:World) (hT:TW T W0) (hLv:dc T W0) (b:LU) (e:ai) (c:LK) (j:Value) (A:Value) (B:Value) (k:Value) (t:aC ar T W0 j b) (u:aC ab T W0 A e.Inputs) (x:aC aa T W0 B e.Records) (z:aC ac T W0 k c) (y:Int) (hM:jP b e c=some y):a7 aO No 61 [j,.agg (a6 e A B).toArray,k] W0 (fun v w'=>v=al y):=by
 refine en Tryz.func61 Tryz.ntmps61 hT fun a hS=>?_;replace hS:=((((hS.fact br (dc.dn hLv)).fS (aC.dn t)).fS (aC.dn u)).fS (aC.dn x)).fS (aC.dn z);unfold jP at hM;refine am hS fun a hS=>?_;refine kb hS fun C H a w hk hS=>?_;refine am hS fun a hS=>?_;refine ay ?_;refine am hS fun a hS=>?_;obtain⟨M,h,hM⟩:=bd hM;refine kc hS JW (ta _ _ hS.dlt b _ (hS.get 3 rfl) _ h) fun _ w hR a hk hA=>?_;obtain rfl:=hR;have hS:=ce hA;refine am hS fun a hS=>?_;rcases cd hM with⟨m,hM⟩|⟨m,hM⟩
 ·exact fz
 refine am hS fun a hS=>?_;obtain⟨N,i,hM⟩:=bd hM;refine kc hS F5 (nr _ _ hS.dlt (hS.get 4 rfl) e _ _ (hS.get 2 rfl) (hS.get 1 rfl) _ i) fun _ w hR a hk hA=>?_;obtain rfl:=hR;have hS:=ce hA;refine am hS fun a hS=>?_;rcases cd hM with⟨n,hM⟩|⟨n,hM⟩
 ·exact fz
 refine am hS fun a hS=>?_;rcases cd hM with⟨o,hM⟩|⟨o,hM⟩
 ·exact fz
 refine am hS fun a hS=>?_;refine aK (J:=fun a w=>St W0 No T 32 [] [] [br] a w∧o8=some y) ?_ ?_
 ·skip;refine am hS fun a hS=>?_;obtain⟨O,r,hMo1⟩:=bd hM;refine bx _ (fun s a w=>∃ (d:Int),d=s∧St W0 No T 32 [(0,j),(21,k),(22,al (c.length:Int)),(23,al d)] [] [aL ar j b,aL ac k c,br] a w) r ⟨_,rfl,hS.mt [] [3,0,4]⟩ ?_;rintro s a w G ⟨d,rfl,hS⟩ hM hf1;have hM:jQ b c d=some G:=hM;unfold jQ at hM;refine am hS fun a hS=>?_;refine ay ?_;rcases cd hM with⟨p,hM⟩|⟨p,hM⟩
  ·refine am hS fun a hS=>?_;refine ay ?_;refine am hS fun a hS=>?_;obtain⟨l,f,hM⟩:=bd hM;refine wl rfl (bu (R:=ac) hS mz eJ rfl rfl 1 rfl f rfl fun D K F q a hS=>?_);obtain rfl:=q;refine am hS fun a hS=>?_;refine ka hS fE fun E I a w hk hS=>?_;refine go hS fun a w hS=>?_;obtain⟨L,g,hM⟩:=bd hM;refine kc hS Ib (pW _ _ hS.dlt (hS.get 3 rfl) b l _ (hS.get 1 rfl) _ g) fun _ w hR a hk hA=>?_;obtain rfl:=hR;have hS:=ce hA;exact fz
  exact fz
 rintro a w ⟨hS,hM⟩;unfold o8 at hM;exact fz
def iw (b:LU):Option LU:=some (b)
def fk (e:LU) (d:LU) (c:Int):Option (Fl (LU×Int) (LU)):=cond (decide (c<(e.length:Int))) ((bk e c).bind fun b=>gd (bL (([]:List cD).length+b.Asks.length)) <| gd (bL (d.length+([(aI.mk b.Ring (([]:List cD)++b.Asks) b.Final b.C)]).length)) <| some (.go ((d++([(aI.mk b.Ring (([]:List cD)++b.Asks) b.Final b.C)])),IntKind.i64.wrap (c+1)))) (some (.out d))
def iK (b:LU):Option LU:=(loop (fun s:LU×Int=>fk b s.1 s.2) (([]:List aI),0)).bind fun r=>iw r
theorem uz (T:Nat→Prop) (W0:World) (hT:TW T W0) (g:LU) (o:Value) (A:aC ar T W0 o g) (y:LU) (hM:iK g=some y):a7 aO No 133 [o] W0 (fun v w'=>∃ (u:Value) (iN:ba),v=u∧ge ar T W0 w' [bJ u iN] 115 u iN y):=by
 refine en Tryz.func133 Tryz.ntmps133 hT fun a hS=>?_;replace hS:=hS.fS (aC.dn A);unfold iK at hM;refine am hS fun a hS=>?_;refine aK (J:=fun a w=>∃ (j:LU) (f:Value) (d:LV),St W0 No T 22 [(3,f)] [bJ f d] [an ar d j] a w∧iw j=some y) ?_ ?_
 ·skip;refine am hS fun a hS=>?_;replace hS:=hS.nilRow ar 115 (by decide);obtain⟨O,z,hMo1⟩:=bd hM;refine bx _ (fun s a w=>∃ (c:LU) (e:Int) (k:Value) (h:LV),(c,e)=s∧St W0 No T 22 [(3,k),(6,o),(7,al (g.length:Int)),(8,al e)] [bJ k h] [an ar h c,aL ar o g] a w) z ⟨_,_,_,_,rfl,hS.mt [0] [0,1]⟩ ?_;rintro s a w I ⟨c,e,k,h,rfl,hS⟩ hM hf1;have hM:fk g c e=some I:=hM;unfold fk at hM;refine am hS fun a hS=>?_;refine ay ?_;rcases cd hM with⟨p,hM⟩|⟨p,hM⟩
  ·refine am hS fun a hS=>?_;refine ay ?_;refine am hS fun a hS=>?_;obtain⟨b,m,hM⟩:=bd hM;refine wl rfl (bu (R:=ar) hS vk pM rfl rfl 1 rfl m rfl fun B L F q a hS=>?_);obtain⟨M,rfl,n⟩:=q;replace hS:=hS.fS n;refine am hS fun a hS=>?_;refine ka hS rK fun D K a w hk hS=>?_;refine go hS fun a w hS=>?_;replace hS:=hS.nilRow dJ 119 (by decide);obtain⟨r,hM⟩:=bm hM;refine wl rfl (bB (R:=dJ) (xs:=([]:List cD)) (ys:=b.Asks) hS Ez (by decide) (by decide) rfl rfl 0 rfl 0 rfl 1 rfl r rfl fun l G a w hk hS=>?_);refine go hS fun a w hS=>?_;refine wl rfl (bj (ps:=[(0,.tmp 17)]) hS Gg rK (zl:=[.bool false,.slice none 0 0,al 0,al 0]) (by kernel_rfl) rfl (us:=[(sX b l)]) ⟨rfl,trivial⟩ (ws:=(sX b l)) rfl rfl rfl rfl fun E a w hk hS=>?_);replace hS:=hS.freeze (R:=dJ) 1 rfl 0 rfl;replace hS:=(hS.lit (R:=ar) (us:=(sX b l)) (xs:=[(aI.mk b.Ring (([]:List cD)++b.Asks) b.Final b.C)]) 0 rfl (by decide) (az.one_ (R:=ar) (x:=(aI.mk b.Ring (([]:List cD)++b.Asks) b.Final b.C)) (⟨_,rfl,(hS.get 0 rfl)⟩)) rfl rfl).freeze (R:=ar) 0 rfl 0 rfl;obtain⟨t,hM⟩:=bm hM;refine wl rfl (bB (R:=ar) (xs:=c) (ys:=[(aI.mk b.Ring (([]:List cD)++b.Asks) b.Final b.C)]) hS Gg (by decide) (by decide) rfl rfl 1 rfl 7 rfl 0 rfl t rfl fun N H a w hk hS=>?_);exact fz
  exact fz
 rintro a w ⟨j,f,d,hS,hM⟩;unfold iw at hM;refine am hS fun a hS=>?_;cases hM
 refine aG hS rfl (aw hS rfl aF) ?_;exact⟨f,d,rfl,hS.retOwn ⟨.inr (aH (i:=0) rfl),trivial⟩ 0 rfl 0 rfl⟩
def cr (b:LF):Option LF:=some (b)
def bF (e:LF) (d:LF) (c:Int):Option (Fl (LF×Int) (LF)):=cond (decide (c<(e.length:Int))) ((bk e c).bind fun b=>gd (bL (([]:List ae).length+b.Reads.length)) <| gd (bL (([]:List ByteArray).length+b.Answers.length)) <| gd (bL (d.length+([(aX.mk b.Key b.Running b.At (([]:List ae)++b.Reads) (([]:List ByteArray)++b.Answers))]).length)) <| some (.go ((d++([(aX.mk b.Key b.Running b.At (([]:List ae)++b.Reads) (([]:List ByteArray)++b.Answers))])),IntKind.i64.wrap (c+1)))) (some (.out d))
def dj (b:LF):Option LF:=(loop (fun s:LF×Int=>bF b s.1 s.2) (([]:List aX),0)).bind fun r=>cr r
theorem tF (T:Nat→Prop) (W0:World) (hT:TW T W0) (g:LF) (u:Value) (G:aC au T W0 u g) (y:LF) (hM:dj g=some y):a7 aO No 134 [u] W0 (fun v w'=>∃ (E:Value) (iN:ba),v=E∧ge au T W0 w' [cV E iN] 150 E iN y):=by
 refine en Tryz.func134 Tryz.ntmps134 hT fun a hS=>?_;replace hS:=hS.fS (aC.dn G);unfold dj at hM;refine am hS fun a hS=>?_;refine aK (J:=fun a w=>∃ (j:LF) (f:Value) (d:LV),St W0 No T 26 [(3,f)] [cV f d] [an au d j] a w∧cr j=some y) ?_ ?_
 ·skip;refine am hS fun a hS=>?_;replace hS:=hS.nilRow au 150 (by decide);obtain⟨V,F,hMo1⟩:=bd hM;refine bx _ (fun s a w=>∃ (c:LF) (e:Int) (k:Value) (h:LV),(c,e)=s∧St W0 No T 26 [(3,k),(6,u),(7,al (g.length:Int)),(8,al e)] [cV k h] [an au h c,aL au u g] a w) F ⟨_,_,_,_,rfl,hS.mt [0] [0,1]⟩ ?_;rintro s a w O ⟨c,e,k,h,rfl,hS⟩ hM hf1;have hM:bF g c e=some O:=hM;unfold bF at hM;refine am hS fun a hS=>?_;refine ay ?_;rcases cd hM with⟨z,hM⟩|⟨z,hM⟩
  ·refine am hS fun a hS=>?_;refine ay ?_;refine am hS fun a hS=>?_;obtain⟨b,q,hM⟩:=bd hM;refine wl rfl (bu (R:=au) hS se sj rfl rfl 1 rfl q rfl fun H Q K A a hS=>?_);obtain⟨S,p,rfl,r,t⟩:=A;replace hS:=(hS.fS r).fS t;refine am hS fun a hS=>?_;refine ka hS qD fun o P a w hk hS=>?_;refine go hS fun a w hS=>?_;refine ay ?_;replace hS:=(hS.nilRow ac 31 (by decide)).nilRow aR.str 9 (by decide);refine dr [(2,.blk (Value.ownBlock (.slice none 0 0))),(5,.blk (Value.ownBlock (.slice none 0 0))),(7,.blk (some o)),(9,.blk (some o))] hS fun w hQ hS=>?_;refine gE [0,1,3] hS fun a hS=>?_;refine dy (l:=[.blk (Value.ownBlock (.slice none 0 0))]) 4 (v:=p) rfl (by kernel_rfl) (by kernel_rfl) (by kernel_rfl) (by kernel_rfl) hQ hS (dh hS rfl xr 2 rfl (gA hS 2 rfl rfl 0 rfl rfl (by decide) bn) (us:=[p]) rfl rfl (fun _=>rfl)) rfl rfl rfl fun a hS=>?_;obtain⟨B,hM⟩:=bm hM;refine e1 2 (bB (R:=ac) (xs:=([]:List ae)) (ys:=b.Reads) hS gh (by decide) (by decide) rfl rfl 1 rfl 1 rfl 3 rfl B rfl fun m L a w hk hS=>⟨ij rfl hk gt,?_⟩);refine gE [6] hS fun a hS=>?_;obtain⟨C,hM⟩:=bm hM;refine e1 5 (bB (R:=aR.str) (xs:=([]:List ByteArray)) (ys:=b.Answers) hS rR (by decide) (by decide) rfl rfl 0 rfl 1 rfl 3 rfl C rfl fun n M a w hk hS=>⟨ij rfl hk gt,?_⟩);refine es 7 hS fun w hS=>?_;refine gE [8] hS fun a hS=>?_;refine es 9 hS fun w hS=>?_;refine eD ?_;refine am hS fun a hS=>?_;refine wl rfl (bj (ps:=[(0,.tmp 21)]) hS ub qD (zl:=[al 0,aZ bW,.bool false,al 0,.slice none 0 0,.slice none 0 0]) (by kernel_rfl) rfl (us:=[(ku b m n)]) ⟨rfl,trivial⟩ (ws:=(ku b m n)) rfl rfl rfl rfl fun I a w hk hS=>?_);replace hS:=(hS.freeze (R:=ac) 2 rfl 1 rfl).freeze (R:=aR.str) 1 rfl 1 rfl;replace hS:=(hS.lit (R:=au) (us:=(ku b m n)) (xs:=[(aX.mk b.Key b.Running b.At (([]:List ae)++b.Reads) (([]:List ByteArray)++b.Answers))]) 0 rfl (by decide) (az.one_ (R:=au) (x:=(aX.mk b.Key b.Running b.At (([]:List ae)++b.Reads) (([]:List ByteArray)++b.Answers))) (⟨_,_,rfl,(hS.get 1 rfl),(hS.get 0 rfl)⟩)) rfl rfl).freeze (R:=au) 0 rfl 0 rfl;obtain⟨D,hM⟩:=bm hM;refine wl rfl (bB (R:=au) (xs:=c) (ys:=[(aX.mk b.Key b.Running b.At (([]:List ae)++b.Reads) (([]:List ByteArray)++b.Answers))]) hS ub (by decide) (by decide) rfl rfl 1 rfl 11 rfl 0 rfl D rfl fun U N a w hk hS=>?_);exact fz
  exact fz
 rintro a w ⟨j,f,d,hS,hM⟩;unfold cr at hM;refine am hS fun a hS=>?_;cases hM
 refine aG hS rfl (aw hS rfl aF) ?_;exact⟨f,d,rfl,hS.retOwn ⟨.inr (aH (i:=0) rfl),trivial⟩ 0 rfl 0 rfl⟩
def lr (b:cI):Option cI:=(iK b.Rules).bind fun c=>(dR b.Base).bind fun d=>gd (bL (([]:List ae).length+b.Goals.length)) <| (dj b.Stack).bind fun e=>gd (bL (([]:List ae).length+b.Ran.length)) <| some ((cI.mk c d (([]:List ae)++b.Goals) e (([]:List ae)++b.Ran)))
theorem qU (T:Nat→Prop) (W0:World) (hT:TW T W0) (b:cI) (Z:Value) (v2:Value) (v3:Value) (v4:Value) (F:Value) (G:Value) (hD:tU T W0 []) (S:aC ar (dT T []) W0 Z b.Rules) (U:aC ab (dT T []) W0 v2 b.Base.Inputs) (V:aC aa (dT T []) W0 v3 b.Base.Records) (W:aC ac (dT T []) W0 v4 b.Goals) (X:aC au (dT T []) W0 F b.Stack) (Y:aC ac (dT T []) W0 G b.Ran) (y:cI) (hM:lr b=some y):a7 aO (MD []) 108 [.agg (sY b Z v2 v3 v4 F G).toArray] W0 (fun v w'=>∃ (s:Value) (wI:ba) (t:Value) (oI:ba) (g:Value) (qF:ba) (h:Value) (d:ba) (j:Value) (e:ba) (k:Value) (f:ba),v = .agg (sY y s t g h j k).toArray∧az ar (dT T [bJ s wI,aQ t oI,ah g qF,ax h d,cV j e,ax k f]) w' wI y.Rules∧az ab (dT T [bJ s wI,aQ t oI,ah g qF,ax h d,cV j e,ax k f]) w' oI y.Base.Inputs∧az aa (dT T [bJ s wI,aQ t oI,ah g qF,ax h d,cV j e,ax k f]) w' qF y.Base.Records∧az ac (dT T [bJ s wI,aQ t oI,ah g qF,ax h d,cV j e,ax k f]) w' d y.Goals∧az au (dT T [bJ s wI,aQ t oI,ah g qF,ax h d,cV j e,ax k f]) w' e y.Stack∧az ac (dT T [bJ s wI,aQ t oI,ah g qF,ax h d,cV j e,ax k f]) w' f y.Ran∧lK W0 w' [] [bJ s wI,aQ t oI,ah g qF,ax h d,cV j e,ax k f]):=by
 refine eL (c:=_) Tryz.func108 rfl T 19 Tryz.ntmps108 hT rfl hD fun a hS=>?_;replace hS:=(((((hS.fS S).fS U).fS V).fS W).fS X).fS Y;unfold lr at hM;refine am hS fun a hS=>?_;refine kb hS fun a3 a4 a w hk hS=>?_;refine ka hS sC fun H a5 a w hk hS=>?_;refine am hS fun a hS=>?_;refine ay ?_;replace hS:=(hS.nilRow ac 31 (by decide)).nilRow ac 31 (by decide);refine dr [(8,.blk (Value.ownBlock (.slice none 0 0))),(14,.blk (Value.ownBlock (.slice none 0 0))),(16,.blk (some H))] hS fun w hQ hS=>?_;refine gE [0,1,3,4,6,7,9] hS fun a hS=>?_;refine dy (l:=[.blk (Value.ownBlock (.slice none 0 0))]) 10 (v:=F) rfl (by kernel_rfl) (by kernel_rfl) (by kernel_rfl) (by kernel_rfl) hQ hS (dh hS rfl HJ 3 rfl (gA hS 3 rfl rfl 0 rfl rfl (by decide) bn) (us:=[F]) rfl rfl (fun _=>rfl)) rfl rfl rfl fun a hS=>?_;refine gE [12] hS fun a hS=>?_;refine dy (l:=[.blk (Value.ownBlock (.slice none 0 0))]) 13 (v:=G) rfl (by kernel_rfl) (by kernel_rfl) (by kernel_rfl) (by kernel_rfl) hQ hS (dh hS rfl Cb 3 rfl (gA hS 3 rfl rfl 0 rfl rfl (by decide) bn) (us:=[G]) rfl rfl (fun _=>rfl)) rfl rfl rfl fun a hS=>?_;obtain⟨a9,C,hM⟩:=bd hM;refine ec 2 hS Jz (uz _ _ hS.dlt b.Rules _ (hS.get 7 rfl) _ C) fun _ w hR a hk hA=>?_;obtain⟨m,I,he,x⟩:=hR;obtain rfl:=he.symm;have hS:=pz hA x;obtain⟨u,D,hM⟩:=bd hM;refine ec 5 hS wH (dz _ _ hS.dlt b.Base _ _ (hS.get 7 rfl) (hS.get 6 rfl) _ D) fun _ w hR a hk hA=>?_;obtain⟨n,J,o,K,he,z,A,Q⟩:=hR;obtain rfl:=he.symm;have hS:=xN hA z A Q;obtain⟨O,hM⟩:=bm hM;refine e1 8 (bB (R:=ac) (xs:=([]:List ae)) (ys:=b.Goals) hS gh (by decide) (by decide) rfl rfl 4 rfl 3 rfl 7 rfl O rfl fun p L a w hk hS=>⟨ij rfl hk gt,?_⟩);obtain⟨af,E,hM⟩:=bd hM;refine ec 11 hS Hu (tF _ _ hS.dlt b.Stack _ (hS.get 7 rfl) _ E) fun _ w hR a hk hA=>?_;obtain⟨q,M,he,B⟩:=hR;obtain rfl:=he.symm;have hS:=pz hA B;obtain⟨P,hM⟩:=bm hM;refine e1 14 (bB (R:=ac) (xs:=([]:List ae)) (ys:=b.Ran) hS gh (by decide) (by decide) rfl rfl 4 rfl 5 rfl 7 rfl P rfl fun r N a w hk hS=>⟨ij rfl hk gt,?_⟩);refine dy 15 (v:=.agg #[m,al u.Revision,n,o,p,q,r]) rfl (by kernel_rfl) (by kernel_rfl) (by kernel_rfl) rfl hQ hS (bp (ps:=[(0,.tmp 5),(1,.tmp 8),(2,.tmp 11),(3,.tmp 14),(4,.tmp 17)]) hS E2 sC rfl (us:=[[m],(a6 u n o),[p],[q],[r]]) ⟨(lh (fV (hS.own _ (aH (i:=3) rfl)).1)),⟨rfl,⟨(lh (fV (hS.own _ (aH (i:=5) rfl)).1)),⟨(lh (fV (hS.own _ (aH (i:=0) rfl)).1)),⟨(lh (fV (hS.own _ (aH (i:=4) rfl)).1)),trivial⟩⟩⟩⟩⟩ (ws:=[m,al u.Revision,n,o,p,q,r]) rfl) rfl rfl rfl fun a hS=>?_;refine es 16 hS fun w hS=>?_;refine eD ?_;refine am hS fun a hS=>?_;cases hM
 refine aG hS rfl (rC 6 hS) ?_;have hZ:=hS.sl [3,1,2,5,0,4] [5,4,3,2,1,0];exact⟨m,I,n,J,o,K,p,L,q,M,r,N,rfl,(hZ.get 0 rfl),(hZ.get 1 rfl),(hZ.get 2 rfl),(hZ.get 3 rfl),(hZ.get 4 rfl),(hZ.get 5 rfl),hZ.dnew⟩
def nQ (c:LU) (e:ai) (b:LK):Option (cI×Int):=(jP c e b).bind fun d=>cond (d != 0) (some (((cI.mk ([]:List aI) (ai.mk 0 ([]:List aT) ([]:List ad)) ([]:List ae) ([]:List aX) ([]:List ae)),d))) ((lr (cI.mk c e b ([]) ([]))).bind fun f=>some ((f,0)))
theorem pY (T:Nat→Prop) (W0:World) (hT:TW T W0) (f:LU) (g:ai) (e:LK) (z:Value) (A:Value) (B:Value) (C:Value) (hD:tU T W0 []) (R:aC ar (dT T []) W0 z f) (S:aC ab (dT T []) W0 A g.Inputs) (U:aC aa (dT T []) W0 B g.Records) (V:aC ac (dT T []) W0 C e) (hLv:dc (dT T []) W0) (y:cI×Int) (hM:nQ f g e=some y):a7 aO (MD []) 86 [z,.agg (a6 g A B).toArray,C] W0 (fun v w'=>∃ (l:Value) (wi:ba) (m:Value) (wI:ba) (n:Value) (oI:ba) (i:Value) (qF:ba) (j:Value) (b:ba) (k:Value) (d:ba),v = .tuple #[.agg (sY y.1 l m n i j k).toArray,al y.2]∧az ar (dT T [bJ l wi,aQ m wI,ah n oI,ax i qF,cV j b,ax k d]) w' wi y.1.Rules∧az ab (dT T [bJ l wi,aQ m wI,ah n oI,ax i qF,cV j b,ax k d]) w' wI y.1.Base.Inputs∧az aa (dT T [bJ l wi,aQ m wI,ah n oI,ax i qF,cV j b,ax k d]) w' oI y.1.Base.Records∧az ac (dT T [bJ l wi,aQ m wI,ah n oI,ax i qF,cV j b,ax k d]) w' qF y.1.Goals∧az au (dT T [bJ l wi,aQ m wI,ah n oI,ax i qF,cV j b,ax k d]) w' b y.1.Stack∧az ac (dT T [bJ l wi,aQ m wI,ah n oI,ax i qF,cV j b,ax k d]) w' d y.1.Ran∧lK W0 w' [] [bJ l wi,aQ m wI,ah n oI,ax i qF,cV j b,ax k d]):=by
 refine eL (c:=_) Tryz.func86 rfl T 22 Tryz.ntmps86 hT rfl hD fun a hS=>?_;replace hS:=((((hS.fact br hLv).fS R).fS S).fS U).fS V;unfold nQ at hM;refine am hS fun a hS=>?_;refine kb hS fun W Y a w hk hS=>?_;refine ka hS sC fun X Z a w hk hS=>?_;refine am hS fun a hS=>?_;refine ay ?_;refine am hS fun a hS=>?_;obtain⟨a0,u,hM⟩:=bd hM;refine kc hS H6 (pX _ _ hS.dlt (hS.get 4 rfl) f g e _ _ _ _ (hS.get 3 rfl) (hS.get 2 rfl) (hS.get 1 rfl) (hS.get 0 rfl) _ u) fun _ w hR a hk hA=>?_;obtain rfl:=hR;have hS:=ce hA;refine am hS fun a hS=>?_;rcases cd hM with⟨J,hM⟩|⟨J,hM⟩
 ·refine am hS fun a hS=>?_;refine qy hS (bp (ps:=[]) hS E2 sC rfl (us:=[]) trivial (ws:=[.slice none 0 0,al 0,.slice none 0 0,.slice none 0 0,.slice none 0 0,.slice none 0 0,.slice none 0 0]) rfl) fun a hS=>?_;refine go hS fun a w hS=>?_;replace hS:=(((((hS.nilRow ar 115 (by decide)).nilRow ab 75 (by decide)).nilRow aa 33 (by decide)).nilRow ac 31 (by decide)).nilRow au 150 (by decide)).nilRow ac 31 (by decide);cases hM
  refine aG hS Tryz.results86 (bh hS rfl 6 rfl qx rfl (fun h=>by cases h) (aw hS rfl aF)) ?_;have hZ:=hS.sl [5,4,3,2,1,0] [5,4,3,0,1];exact⟨(.slice none 0 0),[],(.slice none 0 0),[],(.slice none 0 0),[],(.slice none 0 0),[],(.slice none 0 0),[],(.slice none 0 0),[],rfl,(hZ.get 0 rfl),(hZ.get 1 rfl),(hZ.get 2 rfl),(hZ.get 3 rfl),(hZ.get 4 rfl),(hZ.get 3 rfl),hZ.dnew⟩
 refine am hS fun a hS=>?_;refine qy hS (bp (ps:=[(0,.tmp 17),(1,.tmp 18),(2,.tmp 19)]) hS E2 sC rfl (us:=[[z],(a6 g A B),[C]]) ⟨(lh (aC.one ((hS.get 3 rfl):aC ar _ _ _ _))),⟨rfl,⟨(lh (aC.one ((hS.get 0 rfl):aC ac _ _ _ _))),trivial⟩⟩⟩ (ws:=[z,al g.Revision,A,B,C,.slice none 0 0,.slice none 0 0]) rfl) fun a hS=>?_;replace hS:=(hS.fact (aL au (.slice none 0 0) []) (aC.nil_ _ _ _)).fact (aL ac (.slice none 0 0) []) (aC.nil_ _ _ _);obtain⟨a1,x,hM⟩:=bd hM;replace hS:=hS.re [] [0,1];refine wl rfl (bv hS Em rfl rfl (qU _ _ hS.dltD (cI.mk f g e ([]) ([])) _ _ _ _ _ _ hS.dok (hS.getD 5 rfl) (hS.getD 4 rfl) (hS.getD 3 rfl) (hS.getD 2 rfl) (hS.getD 1 rfl) (hS.getD 0 rfl) _ x) fun _ w hR a hk hA=>?_);obtain⟨L,D,M,E,N,F,O,G,P,H,Q,I,he,o,p,q,r,s,t,K⟩:=hR;obtain rfl:=he.symm;have hS:=hA _ K;replace hS:=(((((hS.fR (o.keep (aj _ _) (ap _))).fR (p.keep (aj _ _) (ap _))).fR (q.keep (aj _ _) (ap _))).fR (r.keep (aj _ _) (ap _))).fR (s.keep (aj _ _) (ap _))).fR (t.keep (aj _ _) (ap _));refine go hS fun a w hS=>?_;cases hM
 refine aG hS Tryz.results86 (bh hS rfl 6 rfl qx rfl (fun h=>by cases h) (aw hS rfl aF)) ?_;have hZ:=hS.sl [0,1,2,3,4,5] [5,4,3,2,1,0];exact⟨L,D,M,E,N,F,O,G,P,H,Q,I,rfl,(hZ.get 0 rfl),(hZ.get 1 rfl),(hZ.get 2 rfl),(hZ.get 3 rfl),(hZ.get 4 rfl),(hZ.get 5 rfl),hZ.dnew⟩
def qk (k:aY) (b:LU):Option (ae×aY):=(bI k 8).bind fun c=>cond (c.1==1) ((bI (aY.mk c.2.L c.2.At) 4).bind fun e=>(lp e.1).bind fun h=>some ((h,(aY.mk e.2.L e.2.At)))) ((bI (aY.mk c.2.L c.2.At) 2).bind fun d=>cond (d.1==0) ((bI (aY.mk d.2.L d.2.At) (min 3 (b.length:Int))).bind fun f=>(jx b (IntKind.i64.wrap ((IntKind.i64.wrap ((b.length:Int)-1))-f.1))).bind fun i=>some ((i,(aY.mk f.2.L f.2.At)))) ((bI (aY.mk d.2.L d.2.At) (b.length:Int)).bind fun g=>(jx b g.1).bind fun j=>some ((j,(aY.mk g.2.L g.2.At)))))
theorem AT (T:Nat→Prop) (W0:World) (hT:TW T W0) (e:aY) (b:LU) (d:Value) (Q:Value) (h:Nat) (N:W0.heap[h]? = some (.cells (be e d).toArray 73 (0,0))) (M:¬ T h) (O:aC (aR.int .i64) (dT T [.box h (be e d) 73]) W0 d e.L) (P:aC ar (dT T [.box h (be e d) 73]) W0 Q b) (hLv:dc (dT T [.box h (be e d) 73]) W0) (y:ae×aY) (hM:qk e b=some y):a7 aO (fun k=>k=h) 60 [pt h 0,Q] W0 (fun v w'=>∃ (I:Value),v = .agg (aV y.1).toArray∧w'.heap[h]? = some (.cells (be y.2 I).toArray 73 (0,0))∧aC (aR.int .i64) (dT T [.box h (be y.2 I) 73]) w' I y.2.L∧d=I):=by
 refine qG (c:=_) Tryz.func60 rfl T 31 Tryz.ntmps60 hT rfl N M fun a hS=>?_;replace hS:=((hS.fact br hLv).fS O).fS P;unfold qk at hM;refine am hS fun a hS=>?_;refine ka hS fE fun R S a w hk hS=>?_;refine am hS fun a hS=>?_;refine ay ?_;refine am hS fun a hS=>?_;obtain⟨f,A,hM⟩:=bd hM;refine wl rfl (cj hS lM rfl rfl 1 rfl (bo _ _ (hS.drop 1).dlt e 8 _ _ (hS.boxRow 1 rfl) (hS.notin 1 rfl) (aC.lent (i:=1) rfl (hS.get 1 rfl)) _ A) fun _ w hR hk=>?_);obtain⟨X,he,hrow,p,l⟩:=hR;obtain rfl:=he.symm;subst l;refine⟨(be f.2 d),hrow,fun a hS=>?_⟩;replace hS:=hS.fS (aC.back (i:=1) rfl p);refine am hS fun a hS=>?_;rcases cd hM with⟨J,hM⟩|⟨J,hM⟩
 ·refine am hS fun a hS=>?_;obtain⟨u,B,hM⟩:=bd hM;refine wl rfl (cj hS lM rfl rfl 1 rfl (bo _ _ (hS.drop 1).dlt (aY.mk f.2.L f.2.At) 4 _ _ (hS.boxRow 1 rfl) (hS.notin 1 rfl) (aC.lent (i:=1) rfl (hS.get 0 rfl)) _ B) fun _ w hR hk=>?_);obtain⟨Y,he,hrow,q,m⟩:=hR;obtain rfl:=he.symm;subst m;refine⟨(be u.2 d),hrow,fun a hS=>?_⟩;replace hS:=hS.fS (aC.back (i:=1) rfl q);obtain⟨U,C,hM⟩:=bd hM;refine kc hS Ia (qP _ _ hS.dlt (hS.get 4 rfl) u.1 _ C) fun _ w hR a hk hA=>?_;obtain rfl:=hR;have hS:=ce hA;refine go hS fun a w hS=>?_;cases hM
  refine aG hS rfl (rC 0 hS) ?_;exact⟨d,rfl,hS.boxRow 1 rfl,(aC.up ⟨.inr (aH (i:=1) rfl),trivial⟩ (hS.get 0 rfl)),rfl⟩
 refine am hS fun a hS=>?_;refine ay ?_;refine am hS fun a hS=>?_;obtain⟨g,D,hM⟩:=bd hM;refine wl rfl (cj hS lM rfl rfl 1 rfl (bo _ _ (hS.drop 1).dlt (aY.mk f.2.L f.2.At) 2 _ _ (hS.boxRow 1 rfl) (hS.notin 1 rfl) (aC.lent (i:=1) rfl (hS.get 0 rfl)) _ D) fun _ w hR hk=>?_);obtain⟨Z,he,hrow,r,n⟩:=hR;obtain rfl:=he.symm;subst n;refine⟨(be g.2 d),hrow,fun a hS=>?_⟩;replace hS:=hS.fS (aC.back (i:=1) rfl r);refine am hS fun a hS=>?_;rcases cd hM with⟨K,hM⟩|⟨K,hM⟩
 ·refine am hS fun a hS=>?_;refine qy hS (HN hS rfl rfl) fun a hS=>?_;obtain⟨x,E,hM⟩:=bd hM;refine wl rfl (cj hS lM rfl rfl 1 rfl (bo _ _ (hS.drop 1).dlt (aY.mk g.2.L g.2.At) (min 3 (b.length:Int)) _ _ (hS.boxRow 1 rfl) (hS.notin 1 rfl) (aC.lent (i:=1) rfl (hS.get 0 rfl)) _ E) fun _ w hR hk=>?_);obtain⟨a0,he,hrow,s,o⟩:=hR;obtain rfl:=he.symm;subst o;refine⟨(be x.2 d),hrow,fun a hS=>?_⟩;replace hS:=hS.fS (aC.back (i:=1) rfl s);refine am hS fun a hS=>?_;obtain⟨V,F,hM⟩:=bd hM;refine kc hS Dl (mO _ _ hS.dlt (hS.get 5 rfl) b (IntKind.i64.wrap ((IntKind.i64.wrap ((b.length:Int)-1))-x.1)) _ (hS.get 3 rfl) _ F) fun _ w hR a hk hA=>?_;obtain rfl:=hR;have hS:=ce hA;refine go hS fun a w hS=>?_;cases hM
  refine aG hS rfl (rC 0 hS) ?_;exact⟨d,rfl,hS.boxRow 1 rfl,(aC.up ⟨.inr (aH (i:=1) rfl),trivial⟩ (hS.get 0 rfl)),rfl⟩
 refine am hS fun a hS=>?_;obtain⟨z,G,hM⟩:=bd hM;refine wl rfl (cj hS lM rfl rfl 1 rfl (bo _ _ (hS.drop 1).dlt (aY.mk g.2.L g.2.At) (b.length:Int) _ _ (hS.boxRow 1 rfl) (hS.notin 1 rfl) (aC.lent (i:=1) rfl (hS.get 0 rfl)) _ G) fun _ w hR hk=>?_);obtain⟨a1,he,hrow,t,j⟩:=hR;obtain rfl:=he.symm;subst j;refine⟨(be z.2 d),hrow,fun a hS=>?_⟩;replace hS:=hS.fS (aC.back (i:=1) rfl t);obtain⟨W,H,hM⟩:=bd hM;refine kc hS Dl (mO _ _ hS.dlt (hS.get 5 rfl) b z.1 _ (hS.get 3 rfl) _ H) fun _ w hR a hk hA=>?_;obtain rfl:=hR;have hS:=ce hA;refine go hS fun a w hS=>?_;cases hM
 refine aG hS rfl (rC 0 hS) ?_;exact⟨d,rfl,hS.boxRow 1 rfl,(aC.up ⟨.inr (aH (i:=1) rfl),trivial⟩ (hS.get 0 rfl)),rfl⟩
def na (d:LK) (b:LN) (c:Int):Option (LK×aY):=some ((d,(aY.mk b c)))
def nb (g:LU) (c:LK) (f:Int) (d:LN) (e:Int):Option (Fl (LK×Int×LN×Int) (LK×LN×Int)):=cond (decide ((0:Int)<f)) ((qk (aY.mk d e) g).bind fun b=>gd (bL (c.length+([(ae.mk b.1.Kind b.1.Text)]).length)) <| some (.go ((c++([(ae.mk b.1.Kind b.1.Text)])),IntKind.i64.wrap (f-1),b.2.L,b.2.At))) (some (.out (c,d,e)))
def lm (e:aY) (c:LU) (d:Int):Option (LK×aY):=(bI e d).bind fun b=>(loop (fun s:LK×Int×LN×Int=>nb c s.1 s.2.1 s.2.2.1 s.2.2.2) (([]:List ae),IntKind.i64.wrap (b.1+1),b.2.L,b.2.At)).bind fun r=>na r.1 r.2.1 r.2.2
theorem ou (T:Nat→Prop) (W0:World) (hT:TW T W0) (l:aY) (d:LU) (o:Int) (j:Value) (H:Value) (e:Nat) (P:W0.heap[e]? = some (.cells (be l j).toArray 73 (0,0))) (N:¬ T e) (S:aC (aR.int .i64) (dT T [.box e (be l j) 73]) W0 j l.L) (U:aC ar (dT T [.box e (be l j) 73]) W0 H d) (hLv:dc (dT T [.box e (be l j) 73]) W0) (y:LK×aY) (hM:lm l d o=some y):a7 aO (fun k=>k=e) 28 [pt e 0,H,al o] W0 (fun v w'=>∃ (I:Value) (vW:ba) (E:Value),v=I∧ge ac T W0 w' [ax I vW,.box e (be y.2 E) 73] 31 I vW y.1∧w'.heap[e]? = some (.cells (be y.2 E).toArray 73 (0,0))∧aC (aR.int .i64) (dT T [ax I vW,.box e (be y.2 E) 73]) w' E y.2.L∧j=E):=by
 refine qG (c:=_) Tryz.func28 rfl T 24 Tryz.ntmps28 hT rfl P N fun a hS=>?_;replace hS:=((hS.fact br hLv).fS S).fS U;unfold lm at hM;refine am hS fun a hS=>?_;refine aK (J:=fun a w=>∃ (A:LK) (u:LN) (z:Int) (p:Value) (m:LV),St W0 (fun k=>k=e) T 24 [(7,p)] [ax p m,.box e [j,al z] 73] [an ac m A,aL (aR.int .i64) j u,br] a w∧na A u z=some y) ?_ ?_
 ·skip;refine am hS fun a hS=>?_;obtain⟨O,G,hM⟩:=bd hM;refine wl rfl (cj hS lM rfl rfl 0 rfl (bo _ _ (hS.drop 0).dlt l o _ _ (hS.boxRow 0 rfl) (hS.notin 0 rfl) (aC.lent (i:=0) rfl (hS.get 1 rfl)) _ G) fun _ w hR hk=>?_);obtain⟨Y,he,hrow,C,q⟩:=hR;obtain rfl:=he.symm;subst q;refine⟨(be O.2 j),hrow,fun a hS=>?_⟩;replace hS:=hS.fS (aC.back (i:=0) rfl C);refine am hS fun a hS=>?_;replace hS:=hS.nilRow ac 31 (by decide);obtain⟨r1,Q,hMo1⟩:=bd hM;refine bx _ (fun s a w=>∃ (h:LK) (n:Int) (f:LN) (g:Int) (B:Value) (t:LV),(h,n,f,g)=s∧St W0 (fun k=>k=e) T 24 [(0,pt e 0),(1,H),(7,B),(8,al n)] [ax B t,.box e [j,al g] 73] [aL ar H d,an ac t h,aL (aR.int .i64) j f,br] a w) Q ⟨_,_,_,_,_,_,rfl,hS.mt [0,1] [2,0,1,4]⟩ ?_;rintro s a w X ⟨h,n,f,g,B,t,rfl,hS⟩ hM hf1;have hM:nb d h n f g=some X:=hM;unfold nb at hM;refine ay ?_;refine am hS fun a hS=>?_;rcases cd hM with⟨K,hM⟩|⟨K,hM⟩
  ·refine am hS fun a hS=>?_;refine ay ?_;refine am hS fun a hS=>?_;obtain⟨b,F,hM⟩:=bd hM;refine wl rfl (cj hS K9 rfl rfl 1 rfl (AT _ _ (hS.drop 1).dlt (aY.mk f g) d _ _ _ (hS.boxRow 1 rfl) (hS.notin 1 rfl) (aC.lent (i:=1) rfl (hS.get 2 rfl)) (aC.lent (i:=1) rfl (hS.get 0 rfl)) (br.keep (hS.get 3 rfl) (aj _ _) (fun k hk=>.inl ((nE (i:=1) rfl k).1 hk))) _ F) fun _ w hR hk=>?_);obtain⟨Z,he,hrow,D,r⟩:=hR;obtain rfl:=he.symm;subst r;refine⟨(be b.2 j),hrow,fun a hS=>?_⟩;replace hS:=hS.fS (aC.back (i:=1) rfl D);refine wl rfl (bj (ps:=[(0,.tmp 20)]) hS gh fE (zl:=[al 0,aZ bW]) (by kernel_rfl) rfl (us:=[(aV b.1)]) ⟨rfl,trivial⟩ (ws:=(aV b.1)) rfl rfl rfl rfl fun V a w hk hS=>?_);replace hS:=(hS.lit (R:=ac) (us:=(aV b.1)) (xs:=[(ae.mk b.1.Kind b.1.Text)]) 0 rfl (by decide) (az.one_ (R:=ac) (x:=(ae.mk b.1.Kind b.1.Text)) rfl) rfl rfl).freeze (R:=ac) 0 rfl 0 rfl;obtain⟨M,hM⟩:=bm hM;refine wl rfl (bB (R:=ac) (xs:=h) (ys:=[(ae.mk b.1.Kind b.1.Text)]) hS gh (by decide) (by decide) rfl rfl 0 rfl 4 rfl 0 rfl M rfl fun a0 W a w hk hS=>?_);refine am hS fun a hS=>?_;exact⟨_,(bO hM).symm,_,_,_,_,_,_,rfl,hS.mt [0,1] [4,0,3,7]⟩
  refine am hS fun a hS=>?_;cases hM
  have hr:=hf1 _ rfl;subst hr;have hM:na h f g=some y:=hMo1;exact⟨_,_,_,_,_,hS.mt [0,1] [1,2,3],hM⟩
 rintro a w ⟨A,u,z,p,m,hS,hM⟩;unfold na at hM;refine am hS fun a hS=>?_;cases hM
 refine aG hS rfl (aw hS rfl aF) ?_;exact⟨p,m,j,rfl,hS.retOwnm ⟨.inr (aH (i:=0) rfl),⟨.inr (aH (i:=1) rfl),trivial⟩⟩ 0 rfl 0 rfl 1 rfl (by decide),hS.boxRow 1 rfl,(aC.up ⟨.inr (aH (i:=0) rfl),⟨.inr (aH (i:=1) rfl),trivial⟩⟩ (hS.get 1 rfl)),rfl⟩
def pS:Option (ad×Bool):=some (((ad.mk (ae.mk 0 bW) bW ([]) 0 0 0 false),false))
def gl (e:LR) (d:ae) (c:Int):Option (Fl (Int) (Fl (Unit) (ad×Bool))):=cond (decide (c<(e.length:Int))) ((bk e c).bind fun b=>cond (b.Key.Kind==d.Kind&&b.Key.Text.toList==d.Text.toList) ((eQ b).bind fun f=>some (.out (.out (f,true)))) (some (.go (IntKind.i64.wrap (c+1))))) (some (.out (.go ())))
def cw (c:LR) (b:ae):Option (ad×Bool):=(loop (fun s:Int=>gl c b s) 0).bind fun r=>Fl.el r (fun s=>pS) (fun y=>some (y))
theorem bH (T:Nat→Prop) (W0:World) (hT:TW T W0) (e:LR) (b:ae) (n:Value) (z:aC aa T W0 n e) (y:ad×Bool) (hM:cw e b=some y):a7 aO No 23 [n,.agg (aV b).toArray] W0 (fun v w'=>∃ (u:Value) (iN:ba),v = .tuple #[.agg (aE y.1 u).toArray,.bool y.2]∧ge ac T W0 w' [ax u iN] 31 u iN y.1.Reads):=by
 refine en Tryz.func23 Tryz.ntmps23 hT fun a hS=>?_;replace hS:=hS.fS (aC.dn z);unfold cw at hM;refine am hS fun a hS=>?_;refine kb hS fun g E a w hk hS=>?_;refine ka hS dD fun c F a w hk hS=>?_;refine am hS fun a hS=>?_;refine aK (J:=fun a w=>St W0 No T 22 [(4,pt c 0)] [.box c [al 0,aZ bW,aZ bW,.slice none 0 0,al 0,al 0,al 0,.bool false] 33] [] a w∧pS=some y) ?_ ?_
 ·skip;refine am hS fun a hS=>?_;obtain⟨L,x,hMo1⟩:=bd hM;refine bx _ (fun s a w=>∃ (d:Int),d=s∧St W0 No T 22 [(3,pt g 0),(4,pt c 0),(8,n),(9,al (e.length:Int)),(10,al d)] [.box g (aV b) 31,.box c [al 0,aZ bW,aZ bW,.slice none 0 0,al 0,al 0,al 0,.bool false] 33] [aL aa n e] a w) x ⟨_,rfl,hS.mt [1,0] [0]⟩ ?_;rintro s a w D ⟨d,rfl,hS⟩ hM hf1;have hM:gl e b d=some D:=hM;unfold gl at hM;refine am hS fun a hS=>?_;refine ay ?_;rcases cd hM with⟨p,hM⟩|⟨p,hM⟩
  ·refine am hS fun a hS=>?_;refine ay ?_;refine am hS fun a hS=>?_;obtain⟨f,k,hM⟩:=bd hM;refine wl rfl (bu (R:=aa) hS dW bX rfl rfl 0 rfl k rfl fun A H C q a hS=>?_);obtain⟨K,rfl,m⟩:=q;replace hS:=hS.fS m;refine am hS fun a hS=>?_;refine ka hS dD fun B G a w hk hS=>?_;refine go hS fun a w hS=>?_;refine wl rfl (ky (v:=.bool (f.Key.Kind==b.Kind&&f.Key.Text.toList==b.Text.toList)) hS (zj hS rfl rfl) rfl rfl fun a hS=>?_);refine am hS fun a hS=>?_;rcases cd hM with⟨r,hM⟩|⟨r,hM⟩
   ·refine am hS fun a hS=>?_;obtain⟨I,l,hM⟩:=bd hM;refine kc hS F9 (kZ _ _ hS.dlt f _ (hS.get 0 rfl) _ l) fun _ w hR a hk hA=>?_;obtain⟨t,o,he,j⟩:=hR;obtain rfl:=he.symm;have hS:=pz hA j;refine go hS fun a w hS=>?_;cases hM
    have hr:=hf1 _ rfl;subst hr;replace hMo1:=kv hMo1;have hM:=hMo1;cases hM
    refine aG hS Tryz.results23 (bh hS rfl 3 rfl bX rfl (fun h=>by cases h) (aw hS rfl aF)) ?_;exact⟨t,o,rfl,hS.retOwn ⟨.inr (aH (i:=0) rfl),trivial⟩ 0 rfl 0 rfl⟩
   exact fz
  exact fz
 rintro a w ⟨hS,hM⟩;unfold pS at hM;refine am hS fun a hS=>?_;refine qy hS (bp (ps:=[]) hS E4 dD rfl (us:=[]) trivial (ws:=[al 0,aZ bW,aZ bW,.slice none 0 0,al 0,al 0,al 0,.bool false]) rfl) fun a hS=>?_;refine go hS fun a w hS=>?_;cases hM
 refine aG hS Tryz.results23 (bh hS rfl 0 rfl bX rfl (fun h=>by cases h) (aw hS rfl aF)) ?_;exact⟨.slice none 0 0,[],rfl,qX _ _ _ _ _ _⟩
def qQ:Option Bool:=some (false)
def kf (e:LK) (d:ae) (b:Int):Option (Fl (Int) (Fl (Unit) Bool)):=cond (decide (b<(e.length:Int))) ((bk e b).bind fun c=>cond (c.Kind==d.Kind&&c.Text.toList==d.Text.toList) (some (.out (.out true))) (some (.go (IntKind.i64.wrap (b+1))))) (some (.out (.go ())))
def mN (c:LK) (b:ae):Option Bool:=(loop (fun s:Int=>kf c b s) 0).bind fun r=>Fl.el r (fun s=>qQ) (fun y=>some (y))
theorem rZ (T:Nat→Prop) (W0:World) (hT:TW T W0) (d:LK) (b:ae) (h:Value) (l:aC ac T W0 h d) (y:Bool) (hM:mN d b=some y):a7 aO No 33 [h,.agg (aV b).toArray] W0 (fun v w'=>v = .bool y):=by
 refine en Tryz.func33 Tryz.ntmps33 hT fun a hS=>?_;replace hS:=hS.fS (aC.dn l);unfold mN at hM;refine am hS fun a hS=>?_;refine kb hS fun e q a w hk hS=>?_;refine am hS fun a hS=>?_;refine aK (J:=fun a w=>St W0 No T 17 [] [] [] a w∧qQ=some y) ?_ ?_
 ·skip;refine am hS fun a hS=>?_;obtain⟨u,k,hMo1⟩:=bd hM;refine bx _ (fun s a w=>∃ (c:Int),c=s∧St W0 No T 17 [(3,pt e 0),(7,h),(8,al (d.length:Int)),(9,al c)] [.box e (aV b) 31] [aL ac h d] a w) k ⟨_,rfl,hS.mt [0] [0]⟩ ?_;rintro s a w p ⟨c,rfl,hS⟩ hM hf1;have hM:kf d b c=some p:=hM;unfold kf at hM;refine am hS fun a hS=>?_;refine ay ?_;rcases cd hM with⟨i,hM⟩|⟨i,hM⟩
  ·refine am hS fun a hS=>?_;refine ay ?_;refine am hS fun a hS=>?_;obtain⟨f,g,hM⟩:=bd hM;refine wl rfl (bu (R:=ac) hS mz eJ rfl rfl 0 rfl g rfl fun m t o j a hS=>?_);obtain rfl:=j;refine am hS fun a hS=>?_;refine ka hS fE fun n r a w hk hS=>?_;refine go hS fun a w hS=>?_;refine wl rfl (ky (v:=.bool (f.Kind==b.Kind&&f.Text.toList==b.Text.toList)) hS (zj hS rfl rfl) rfl rfl fun a hS=>?_);exact fz
  exact fz
 rintro a w ⟨hS,hM⟩;unfold qQ at hM;exact fz
def k7 (b:(List bY)):Option (List bY):=some (b)
def k8 (b:Int) (c:(List bY)):Option (Fl ((List bY)×Int) ((List bY))):=some (.go (c,IntKind.i64.wrap (b+1)))
def iH (b:Int) (c:(List bY)):Option (Fl ((List bY)×Int) ((List bY))):=some (.go (c,IntKind.i64.wrap (b+1)))
def fK (f:LK) (e:ae) (g:(ad×Bool)) (c:(List bY)) (b:Int):Option (Fl ((List bY)×Int) ((List bY))):=cond (decide (b<(g.1.Reads.length:Int))) ((bk g.1.Reads b).bind fun d=>(mN f d).bind fun h=>cond (!(h)) (gd (bL (c.length+([(bY.mk e d)]).length)) <| iH b (c++([(bY.mk e d)]))) (iH b c)) (some (.out c))
def iI (g:LR) (b:LK) (e:(List bY)) (c:Int):Option (Fl ((List bY)×Int) ((List bY))):=cond (decide (c<(b.length:Int))) ((bk b c).bind fun d=>(cw g d).bind fun f=>(loop (fun s:(List bY)×Int=>fK b d f s.1 s.2) (e,0)).bind fun r=>k8 c r) (some (.out e))
def f6 (c:LR) (b:LK):Option (List bY):=(loop (fun s:(List bY)×Int=>iI c b s.1 s.2) (([]:List bY),0)).bind fun r=>k7 r
theorem ma (T:Nat→Prop) (W0:World) (hT:TW T W0) (j:LR) (b:LK) (n:Value) (f:Value) (a5:aC aa T W0 n j) (a9:aC ac T W0 f b) (y:(List bY)) (hM:f6 j b=some y):a7 aO No 115 [n,f] W0 (fun v w'=>∃ (v3:Value) (uQ:ba),v=v3∧ge eF T W0 w' [kX v3 uQ] 158 v3 uQ y):=by
 refine en Tryz.func115 Tryz.ntmps115 hT fun a hS=>?_;replace hS:=(hS.fS (aC.dn a5)).fS (aC.dn a9);unfold f6 at hM;refine am hS fun a hS=>?_;refine aK (J:=fun a w=>∃ (D:(List bY)) (t:Value) (p:LV),St W0 No T 44 [(5,t)] [kX t p] [an eF p D] a w∧k7 D=some y) ?_ ?_
 ·skip;refine am hS fun a hS=>?_;replace hS:=hS.nilRow eF 158 (by decide);obtain⟨r1,a3,hMo1⟩:=bd hM;refine bx _ (fun s a w=>∃ (r:(List bY)) (e:Int) (G:Value) (z:LV),(r,e)=s∧St W0 No T 44 [(0,n),(1,f),(5,G),(12,f),(13,al (b.length:Int)),(14,al e)] [kX G z] [aL aa n j,aL ac f b,an eF z r] a w) a3 ⟨_,_,_,_,rfl,hS.mt [0] [2,1,0]⟩ ?_;rintro s a w f1 ⟨r,e,G,z,rfl,hS⟩ hM hf1;have hM:iI j b r e=some f1:=hM;unfold iI at hM;refine am hS fun a hS=>?_;refine ay ?_;rcases cd hM with⟨Q,hM⟩|⟨Q,hM⟩
  ·refine am hS fun a hS=>?_;refine aK (J:=fun a w=>∃ (E:(List bY)) (H:Value) (A:LV),St W0 No T 44 [(0,n),(1,f),(5,H),(12,f),(13,al (b.length:Int)),(14,al e)] [kX H A] [aL aa n j,aL ac f b,an eF A E] a w∧k8 e E=some f1) ?_ ?_
   ·skip;refine am hS fun a hS=>?_;obtain⟨c,M,hM⟩:=bd hM;refine wl rfl (bu (R:=ac) hS mz eJ rfl rfl 1 rfl M rfl fun af b8 b1 S a hS=>?_);obtain rfl:=S;refine am hS fun a hS=>?_;refine ka hS fE fun o b4 a w hk hS=>?_;refine go hS fun a w hS=>?_;obtain⟨m,O,hM⟩:=bd hM;refine kc hS pO (bH _ _ hS.dlt j c _ (hS.get 1 rfl) _ O) fun _ w hR a hk hA=>?_;obtain⟨u,q,he,L⟩:=hR;obtain rfl:=he.symm;have hS:=pz hA L;refine am hS fun a hS=>?_;refine ka hS dD fun ag b5 a w hk hS=>?_;refine go hS fun a w hS=>?_;obtain⟨r2,a4,hMo2⟩:=bd hM;refine bx _ (fun s a w=>∃ (l:(List bY)) (g:Int) (I:Value) (B:LV),(l,g)=s∧St W0 No T 44 [(0,n),(1,f),(5,I),(7,pt o 0),(12,f),(13,al (b.length:Int)),(14,al e),(25,u),(26,al (m.1.Reads.length:Int)),(27,al g)] [kX I B,ax u q,.box o (aV c) 31] [aL aa n j,aL ac f b,an eF B l,an ac q m.1.Reads] a w) a4 ⟨_,_,_,_,rfl,hS.mt [3,1,2] [2,3,4,0]⟩ ?_;rintro s a w f2 ⟨l,g,I,B,rfl,hS⟩ hM hf2;have hM:fK b c m l g=some f2:=hM;unfold fK at hM;refine am hS fun a hS=>?_;refine ay ?_;rcases cd hM with⟨U,hM⟩|⟨U,hM⟩
    ·refine am hS fun a hS=>?_;refine aK (J:=fun a w=>∃ (F:(List bY)) (K:Value) (C:LV),St W0 No T 44 [(0,n),(1,f),(5,K),(7,pt o 0),(12,f),(13,al (b.length:Int)),(14,al e),(25,u),(26,al (m.1.Reads.length:Int)),(27,al g)] [kX K C,ax u q,.box o (aV c) 31] [aL aa n j,aL ac f b,an eF C F,an ac q m.1.Reads] a w∧iH g F=some f2) ?_ ?_
     ·skip;refine am hS fun a hS=>?_;obtain⟨d,N,hM⟩:=bd hM;refine wl rfl (c7 (R:=ac) hS mz eJ rfl rfl 1 rfl 3 rfl N rfl fun ak b9 bb b2 V W X a hS=>?_);obtain rfl:=V;refine qy hS (bq (k:=0) hS eJ 1 rfl W X rfl id (us:=(aV d)) rfl rfl (fun h=>by cases h)) fun a hS=>?_;refine ka hS fE fun av b6 a w hk hS=>?_;refine go hS fun a w hS=>?_;obtain⟨bi,P,hM⟩:=bd hM;refine kc hS H2 (rZ _ _ hS.dlt b d _ (hS.get 1 rfl) _ P) fun _ w hR a hk hA=>?_;obtain rfl:=hR;have hS:=ce hA;refine am hS fun a hS=>?_;rcases cd hM with⟨Y,hM⟩|⟨Y,hM⟩
      ·refine am hS fun a hS=>?_;refine qy hS (bp (ps:=[(0,.tmp 36),(1,.tmp 37)]) hS Ke C7 rfl (us:=[(aV c),(aV d)]) ⟨rfl,⟨rfl,trivial⟩⟩ (ws:=[al c.Kind,aZ c.Text,al d.Kind,aZ d.Text]) rfl) fun a hS=>?_;refine wl rfl (bj (ps:=[(0,.tmp 38)]) hS HB C7 (zl:=[al 0,aZ bW,al 0,aZ bW]) (by kernel_rfl) rfl (us:=[[al c.Kind,aZ c.Text,al d.Kind,aZ d.Text]]) ⟨rfl,trivial⟩ (ws:=[al c.Kind,aZ c.Text,al d.Kind,aZ d.Text]) rfl rfl rfl rfl fun b0 a w hk hS=>?_);replace hS:=(hS.lit (R:=eF) (us:=[al c.Kind,aZ c.Text,al d.Kind,aZ d.Text]) (xs:=[(bY.mk c d)]) 0 rfl (by decide) (az.one_ (R:=eF) (x:=(bY.mk c d)) rfl) rfl rfl).freeze (R:=eF) 0 rfl 0 rfl;obtain⟨Z,hM⟩:=bm hM;refine wl rfl (bB (R:=eF) (xs:=l) (ys:=[(bY.mk c d)]) hS HB (by decide) (by decide) rfl rfl 1 rfl 4 rfl 0 rfl Z rfl fun bl b3 a w hk hS=>?_);exact fz
      exact fz
     rintro a w ⟨F,K,C,hS,hM⟩;unfold iH at hM;exact fz
    exact fz
   rintro a w ⟨E,H,A,hS,hM⟩;unfold k8 at hM;exact fz
  exact fz
 rintro a w ⟨D,t,p,hS,hM⟩;unfold k7 at hM;refine am hS fun a hS=>?_;cases hM
 refine aG hS rfl (aw hS rfl aF) ?_;exact⟨t,p,rfl,hS.retOwn ⟨.inr (aH (i:=0) rfl),trivial⟩ 0 rfl 0 rfl⟩
def n5 (b:LK):Option LK:=some (b)
def fJ (b:Int) (c:LK):Option (Fl (LK×Int) (LK)):=some (.go (c,IntKind.i64.wrap (b+1)))
def dG (c:LK) (e:Int) (d:ae) (f:Int) (h:Bool):Option (Fl (LK×Int) (LK)):=cond h ((pm c 0 f).bind fun b=>(pm c f c.length).bind fun g=>gd (bL (([]:List ae).length+b.length)) <| gd (bL ((([]:List ae)++b).length+([d]).length)) <| gd (bL (((([]:List ae)++b)++([d])).length+g.length)) <| fJ e (((([]:List ae)++b)++([d]))++g)) (fJ e c)
def iB (d:LK) (f:Int) (b:ae) (c:Int):Option (Fl (LK×Int) (LK)):=cond (c==(d.length:Int)) (dG d f b c true) ((bk d c).bind fun e=>dG d f b c (!(e.Kind==b.Kind&&e.Text.toList==b.Text.toList)))
def eE (c:LK) (d:ae) (b:Int):Option (Fl (Int) (Int)):=cond (decide (b<(c.length:Int))) ((bk c b).bind fun e=>(iT e d).bind fun f=>cond (decide (f<0)) (some (.go (IntKind.i64.wrap (b+1)))) (some (.out b))) (some (.out b))
def kY (e:LK) (c:LK) (b:Int):Option (Fl (LK×Int) (LK)):=cond (decide (b<(e.length:Int))) ((bk e b).bind fun d=>(loop (fun s:Int=>eE c d s) 0).bind fun r=>iB c b d r) (some (.out c))
def iq (b:LK):Option LK:=(loop (fun s:LK×Int=>kY b s.1 s.2) (([]:List ae),0)).bind fun r=>n5 r
theorem r4 (T:Nat→Prop) (W0:World) (hT:TW T W0) (hLv:dc T W0) (e:LK) (o:Value) (bs:aC ac T W0 o e) (y:LK) (hM:iq e=some y):a7 aO No 34 [o] W0 (fun v w'=>∃ (v2:Value) (iN:ba),v=v2∧ge ac T W0 w' [ax v2 iN] 31 v2 iN y):=by
 refine en Tryz.func34 Tryz.ntmps34 hT fun a hS=>?_;replace hS:=(hS.fact br (dc.dn hLv)).fS (aC.dn bs);unfold iq at hM;refine am hS fun a hS=>?_;refine aK (J:=fun a w=>∃ (G:LK) (A:Value) (q:LV),St W0 No T 53 [(3,A)] [ax A q] [an ac q G,br] a w∧n5 G=some y) ?_ ?_
 ·skip;refine am hS fun a hS=>?_;replace hS:=hS.nilRow ac 31 (by decide);obtain⟨r1,bi,hMo1⟩:=bd hM;refine bx _ (fun s a w=>∃ (d:LK) (c:Int) (g:Value) (f:LV),(d,c)=s∧St W0 No T 53 [(3,g),(7,o),(8,al (e.length:Int)),(9,al c)] [ax g f] [an ac f d,aL ac o e,br] a w) bi ⟨_,_,_,_,rfl,hS.mt [0] [0,1,2]⟩ ?_;rintro s a w O ⟨d,c,g,f,rfl,hS⟩ hM hf1;have hM:kY e d c=some O:=hM;unfold kY at hM;refine am hS fun a hS=>?_;refine ay ?_;rcases cd hM with⟨a1,hM⟩|⟨a1,hM⟩
  ·refine am hS fun a hS=>?_;refine aK (J:=fun a w=>∃ (H:LK) (I:Value) (B:LV),St W0 No T 53 [(3,I),(7,o),(8,al (e.length:Int)),(9,al c)] [ax I B] [an ac B H,aL ac o e,br] a w∧fJ c H=some O) ?_ ?_
   ·skip;refine am hS fun a hS=>?_;obtain⟨b,P,hM⟩:=bd hM;refine wl rfl (bu (R:=ac) hS mz eJ rfl rfl 1 rfl P rfl fun bt ck c2 a2 a hS=>?_);obtain rfl:=a2;refine am hS fun a hS=>?_;refine ka hS fE fun m ch a w hk hS=>?_;refine go hS fun a w hS=>?_;refine aK (J:=fun a w=>∃ (p:Int),St W0 No T 53 [(3,g),(5,pt m 0),(6,al p),(7,o),(8,al (e.length:Int)),(9,al c)] [ax g f,.box m (aV b) 31] [an ac f d,aL ac o e,br] a w∧iB d c b p=some O) ?_ ?_
    ·skip;refine am hS fun a hS=>?_;obtain⟨r2,bl,hMo2⟩:=bd hM;refine bx _ (fun s a w=>∃ (z:Int),z=s∧St W0 No T 53 [(3,g),(5,pt m 0),(6,al z),(7,o),(8,al (e.length:Int)),(9,al c)] [ax g f,.box m (aV b) 31] [an ac f d,aL ac o e,br] a w) bl ⟨_,rfl,hS.mt [1,0] [1,2,3]⟩ ?_;rintro s a w f2 ⟨z,rfl,hS⟩ hM hf2;have hM:eE d b z=some f2:=hM;unfold eE at hM;refine ay ?_;refine ay ?_;refine dr [] hS fun w hQ hS=>?_;refine gE [0,1,2,3,4] hS fun a hS=>?_;rcases cd hM with⟨t,hM⟩|⟨t,hM⟩
     ·refine gE [5,6] hS fun a hS=>?_;obtain⟨C,S,hM⟩:=bd hM;obtain⟨X,b3,cl,c3,a3,a4,a5,a9⟩:=bP (R:=ac) hS mz eJ 0 rfl 0 rfl S;obtain rfl:=a3;refine wO 7 (v:=pt X b3) rfl (by kernel_rfl) (by kernel_rfl) (by kernel_rfl) rfl hQ hS (a9 rfl rfl) rfl rfl rfl t rfl rfl fun a hS=>?_;refine wO (l:=[]) 8 (v:=.agg (aV C).toArray) rfl (by kernel_rfl) (by kernel_rfl) (by kernel_rfl) (by kernel_rfl) hQ hS (bq (k:=0) hS eJ 0 rfl a4 a5 rfl bn (us:=(aV C)) rfl rfl (fun h=>by cases h)) rfl rfl rfl t rfl rfl fun a hS=>?_;refine gE [9] hS fun a hS=>?_;obtain⟨cs,W,hM⟩:=bd hM;refine cS (i:=10) rfl (by kernel_rfl) hS rfl rfl rfl t (bz hS Dk rfl rfl (lB _ _ hS.dlt (hS.get 2 rfl) C b _ W) fun _ w hR a hk hA=>⟨fA (hk),?_⟩);obtain rfl:=hR;have hS:=ce hA;refine gE [11,12] hS fun a hS=>?_;refine eD ?_;exact fz
     refine gE [5,6,7,8,9,10,11,12] hS fun a hS=>?_;refine eD ?_;exact fz
    rintro a w ⟨p,hS,hM⟩;unfold iB at hM;refine aK (J:=fun a w=>∃ (D:Bool),St W0 No T 53 [(3,g),(5,pt m 0),(6,al p),(7,o),(8,al (e.length:Int)),(9,al c),(39,.bool D)] [ax g f,.box m (aV b) 31] [an ac f d,aL ac o e,br] a w∧dG d c b p D=some O) ?_ ?_
    ·skip;refine dr [] hS fun w hQ hS=>?_;refine gE [0,1,2,3,4] hS fun a hS=>?_;rcases cd hM with⟨u,hM⟩|⟨u,hM⟩
     ·refine gE [5,6,7,8,9,10,11] hS fun a hS=>?_;refine eD ?_;exact⟨_,hS.mt [0,1] [0,1,2],hM⟩
     refine gE [5,6] hS fun a hS=>?_;obtain⟨r,Q,hM⟩:=bd hM;obtain⟨Y,b4,co,c4,af,ag,ak,av⟩:=bP (R:=ac) hS mz eJ 0 rfl 0 rfl Q;obtain rfl:=af;refine wO 7 (v:=pt Y b4) rfl (by kernel_rfl) (by kernel_rfl) (by kernel_rfl) rfl hQ hS (av rfl rfl) rfl rfl rfl u rfl rfl fun a hS=>?_;refine wO (l:=[]) 8 (v:=.agg (aV r).toArray) rfl (by kernel_rfl) (by kernel_rfl) (by kernel_rfl) (by kernel_rfl) hQ hS (bq (k:=0) hS eJ 0 rfl ag ak rfl bn (us:=(aV r)) rfl rfl (fun h=>by cases h)) rfl rfl rfl u rfl rfl fun a hS=>?_;refine gE [9] hS fun a hS=>?_;refine wO 10 (v:=.bool (!(r.Kind==b.Kind&&r.Text.toList==b.Text.toList))) rfl (by kernel_rfl) (by kernel_rfl) (by kernel_rfl) rfl hQ hS (yo hS rfl rfl) rfl rfl rfl u rfl rfl fun a hS=>?_;refine gE [11] hS fun a hS=>?_;refine eD ?_;exact⟨_,hS.mt [0,1] [0,1,2],hM⟩
    rintro a w ⟨D,hS,hM⟩;unfold dG at hM;rcases cd hM with⟨b0,hM⟩|⟨b0,hM⟩
    ·refine am hS fun a hS=>?_;replace hS:=hS.nilRow ac 31 (by decide);refine dr [(3,.blk (Value.ownBlock (.slice none 0 0))),(6,.any),(10,.any)] hS fun w hQ hS=>?_;refine gE [0,1] hS fun a hS=>?_;obtain⟨n,U,hM⟩:=bd hM;obtain⟨b5,K,b1⟩:=wL (R:=ac) hS mz eJ 1 rfl 1 rfl U;refine dy 2 (v:=b5) rfl (by kernel_rfl) (by kernel_rfl) (by kernel_rfl) rfl hQ hS (b1 (k1:=.i64) rfl (.inr ⟨rfl,rfl⟩) (.inl ⟨_,rfl,rfl⟩)) rfl rfl rfl fun a hS=>?_;refine dy (l:=[.blk (Value.ownBlock (.slice none 0 0))]) 4 (v:=.agg (aV b).toArray) rfl (by kernel_rfl) (by kernel_rfl) (by kernel_rfl) (by kernel_rfl) hQ hS (dh hS rfl eJ 2 rfl (gA hS 2 rfl rfl 0 rfl rfl (by decide) bn) (us:=(aV b)) rfl rfl (fun h=>by cases h)) rfl rfl rfl fun a hS=>?_;refine gE [7,8] hS fun a hS=>?_;obtain⟨N,V,hM⟩:=bd hM;obtain⟨b6,L,b2⟩:=wL (R:=ac) hS mz eJ 1 rfl 1 rfl V;refine dy 9 (v:=b6) rfl (by kernel_rfl) (by kernel_rfl) (by kernel_rfl) rfl hQ hS (b2 (k2:=.i64) rfl (.inl ⟨_,rfl,rfl⟩) (.inr ⟨rfl,rfl⟩)) rfl rfl rfl fun a hS=>?_;obtain⟨M,hM⟩:=bm hM;refine dm (i:=3) (j:=5) rfl rfl (by kernel_rfl) rfl rfl ?_ ?_
     ·skip;skip;replace hS:=hS.freeze (R:=ac) 1 rfl 1 rfl;replace hS:=hS.fS (K _ _ (hS.get 0 rfl));refine id (bB (R:=ac) (xs:=([]:List ae)) (ys:=n) hS gh (by decide) (by decide) rfl rfl 0 rfl 2 rfl 0 rfl M rfl fun cv c5 a w hk hS=>⟨ij rfl hk gt,?_⟩);refine e1 5 (bj (ps:=[(0,.tmp 44)]) hS gh fE (zl:=[al 0,aZ bW]) (by kernel_rfl) rfl (us:=[(aV b)]) ⟨rfl,trivial⟩ (ws:=(aV b)) rfl rfl rfl rfl fun c0 a w hk hS=>⟨fA (hk),?_⟩);replace hS:=(hS.lit (R:=ac) (us:=(aV b)) (xs:=[b]) 0 rfl (by decide) (az.one_ (R:=ac) (x:=b) rfl) rfl rfl).freeze (R:=ac) 0 rfl 0 rfl;obtain⟨E,hM⟩:=bm hM;refine e1 6 (bB (R:=ac) (xs:=(([]:List ae)++n)) (ys:=[b]) hS gh (by decide) (by decide) rfl rfl 0 rfl 2 rfl 0 rfl E rfl fun b8 Z a w hk hS=>⟨ij rfl hk rS,?_⟩);replace hS:=hS.fS (L _ _ (hS.get 5 rfl));obtain⟨F,hM⟩:=bm hM;refine e1 10 (bB (R:=ac) (xs:=((([]:List ae)++n)++([b]))) (ys:=N) hS gh (by decide) (by decide) rfl rfl 0 rfl 1 rfl 0 rfl F rfl fun b9 a0 a w hk hS=>⟨ij rfl hk rS,?_⟩);refine gE [11] hS fun a hS=>?_;refine eD ?_;exact⟨_,_,_,hS.mt [0] [0,10,11],hM⟩
     skip;refine id (bj (ps:=[(0,.tmp 44)]) hS gh fE (zl:=[al 0,aZ bW]) (by kernel_rfl) rfl (us:=[(aV b)]) ⟨rfl,trivial⟩ (ws:=(aV b)) rfl rfl rfl rfl fun c1 a w hk hS=>⟨fA (hk),?_⟩);replace hS:=hS.freeze (R:=ac) 2 rfl 1 rfl;replace hS:=hS.fS (K _ _ (hS.get 0 rfl));refine e1 3 (bB (R:=ac) (xs:=([]:List ae)) (ys:=n) hS gh (by decide) (by decide) rfl rfl 1 rfl 2 rfl 0 rfl M rfl fun d0 c9 a w hk hS=>⟨ij rfl hk gt,?_⟩);replace hS:=(hS.lit (R:=ac) (us:=(aV b)) (xs:=[b]) 0 rfl (by decide) (az.one_ (R:=ac) (x:=b) rfl) rfl rfl).freeze (R:=ac) 0 rfl 0 rfl;obtain⟨E,hM⟩:=bm hM;refine e1 6 (bB (R:=ac) (xs:=(([]:List ae)++n)) (ys:=[b]) hS gh (by decide) (by decide) rfl rfl 0 rfl 2 rfl 0 rfl E rfl fun b8 Z a w hk hS=>⟨ij rfl hk rS,?_⟩);replace hS:=hS.fS (L _ _ (hS.get 5 rfl));obtain⟨F,hM⟩:=bm hM;refine e1 10 (bB (R:=ac) (xs:=((([]:List ae)++n)++([b]))) (ys:=N) hS gh (by decide) (by decide) rfl rfl 0 rfl 1 rfl 0 rfl F rfl fun b9 a0 a w hk hS=>⟨ij rfl hk rS,?_⟩);refine gE [11] hS fun a hS=>?_;refine eD ?_;exact⟨_,_,_,hS.mt [0] [0,10,11],hM⟩
    exact fz
   rintro a w ⟨H,I,B,hS,hM⟩;unfold fJ at hM;exact fz
  exact fz
 rintro a w ⟨G,A,q,hS,hM⟩;unfold n5 at hM;refine am hS fun a hS=>?_;cases hM
 refine aG hS rfl (aw hS rfl aF) ?_;exact⟨A,q,rfl,hS.retOwn ⟨.inr (aH (i:=0) rfl),trivial⟩ 0 rfl 0 rfl⟩
def gn (b:Bool):Option Bool:=some (b)
def mT (f:LR) (b:Int) (d:ae):Option Bool:=(cw f d).bind fun c=>cond c.2 ((b7 d).bind fun e=>cond e (cond (decide (c.1.Verified<b)) (gn (!(c.1.Dirty))) (gn false)) (gn false)) (gn false)
theorem ut (T:Nat→Prop) (W0:World) (hT:TW T W0) (g:LR) (b:Int) (d:ae) (k:Value) (j:aC aa T W0 k g) (y:Bool) (hM:mT g b d=some y):a7 aO No 139 [k,al b,.agg (aV d).toArray] W0 (fun v w'=>v = .bool y):=by
 refine en Tryz.func139 Tryz.ntmps139 hT fun a hS=>?_;replace hS:=hS.fS (aC.dn j);unfold mT at hM;refine am hS fun a hS=>?_;refine kb hS fun l o a w hk hS=>?_;refine am hS fun a hS=>?_;obtain⟨q,h,hM⟩:=bd hM;refine kc hS pO (bH _ _ hS.dlt g d _ (hS.get 0 rfl) _ h) fun _ w hR a hk hA=>?_;obtain⟨s,n,he,f⟩:=hR;obtain rfl:=he.symm;have hS:=pz hA f;refine am hS fun a hS=>?_;refine ka hS dD fun m p a w hk hS=>?_;refine go hS fun a w hS=>?_;refine aK (J:=fun a w=>∃ (c:Bool),St W0 No T 31 [(6,.bool c)] [] [] a w∧gn c=some y) ?_ ?_
 ·skip;refine am hS fun a hS=>?_;rcases cd hM with⟨e,hM⟩|⟨e,hM⟩
  ·refine am hS fun a hS=>?_;obtain⟨r,i,hM⟩:=bd hM;refine wg hS rfl rfl rfl e (bz hS uP rfl rfl (cu _ _ hS.dlt d _ i) fun _ w hR a hk hA=>?_);obtain rfl:=hR;have hS:=ce hA;exact fz
  exact fz
 rintro a w ⟨c,hS,hM⟩;unfold gn at hM;exact fz
def mb (b:LO):Option LO:=some (b)
def jM (b:Int) (d:LO) (c:LK):Option (Fl (LO×LK×Int) (LO)):=some (.go (d,c,IntKind.i64.wrap (b+1)))
def jN (b:Int) (d:LO) (c:LK):Option (Fl (LO×LK×Int) (LO×LK)):=some (.go (d,c,IntKind.i64.wrap (b+1)))
def jO (e:LO) (c:LK) (d:Int) (b:ae) (f:Bool):Option (Fl (LO×LK×Int) (LO×LK)):=cond f (gd (bL (c.length+([b]).length)) <| jN d (de aM b true e) (c++([b]))) (jN d e c)
def eu (j:LR) (e:Int) (g:(ad×Bool)) (d:LO) (f:LK) (c:Int):Option (Fl (LO×LK×Int) (LO×LK)):=cond (decide (c<(g.1.Reads.length:Int))) ((bk g.1.Reads c).bind fun b=>(mT j e b).bind fun h=>cond h ((some ((cB aM b d).getD false)).bind fun i=>jO d f c b (!(i))) (jO d f c b false)) (some (.out (d,f)))
def fi (f:LR) (b:Int) (e:LO) (d:LK) (c:Int):Option (Fl (LO×LK×Int) (LO)):=cond (decide (c<(d.length:Int))) ((bk d c).bind fun g=>(cw f g).bind fun h=>(loop (fun s:LO×LK×Int=>eu f b h s.1 s.2.1 s.2.2) (e,d,0)).bind fun r=>jM c r.1 r.2) (some (.out e))
def lH (d:LR) (b:Int) (c:ae):Option LO:=(loop (fun s:LO×LK×Int=>fi d b s.1 s.2.1 s.2.2) (([]:LO),[c],0)).bind fun r=>mb r
theorem tc (T:Nat→Prop) (W0:World) (hT:TW T W0) (l:LR) (b:Int) (u:ae) (q:Value) (c5:aC aa T W0 q l) (y:LO) (hM:lH l b u=some y):a7 aO No 140 [q,al b,.agg (aV u).toArray] W0 (fun v w'=>∃ (b2:Nat) (av:Array MapEntry) (ak:Nat),v = .map (some b2)∧Je ac true aR.bool false T W0 w' [om b2 av ak] b2 av ak y):=by
 refine en Tryz.func140 Tryz.ntmps140 hT fun a hS=>?_;replace hS:=hS.fS (aC.dn c5);unfold lH at hM;refine am hS fun a hS=>?_;refine kb hS fun c9 d6 a w hk hS=>?_;refine am hS fun a hS=>?_;refine wl rfl (pC ac true aR.bool false hS rfl fun e dl a w hk hS=>?_);refine am hS fun a hS=>?_;refine wl rfl (bj (ps:=[(0,.tmp 15)]) hS gh fE (zl:=[al 0,aZ bW]) (by kernel_rfl) rfl (us:=[(aV u)]) ⟨rfl,trivial⟩ (ws:=(aV u)) rfl rfl rfl rfl fun ca a w hk hS=>?_);refine am hS fun a hS=>?_;refine aK (J:=fun a w=>∃ (P:LO) (A:AM) (D:Nat),St W0 No T 57 [(7,.map (some e))] [om e A D] [s7 A P] a w∧mb P=some y) ?_ ?_
 ·skip;refine am hS fun a hS=>?_;replace hS:=hS.lit (R:=ac) (us:=(aV u)) (xs:=[u]) 0 rfl (by decide) (az.one_ (R:=ac) (x:=u) rfl) rfl rfl;obtain⟨r1,c3,hMo1⟩:=bd hM;refine bx _ (fun s a w=>∃ (C:LO) (B:LK) (f:Int) (I:AM) (Y:Nat) (U:Value) (E:LV),(C,B,f)=s∧St W0 No T 57 [(0,q),(1,al b),(7,.map (some e)),(8,U),(9,al f)] [om e I Y,ax U E] [aL aa q l,s7 I C,an ac E B] a w) c3 ⟨_,_,_,_,_,_,_,rfl,hS.mt [1,0] [2,1,0]⟩ ?_;rintro s a w f1 ⟨C,B,f,I,Y,U,E,rfl,hS⟩ hM hf1;have hM:fi l b C B f=some f1:=hM;unfold fi at hM;refine ay ?_;refine am hS fun a hS=>?_;rcases cd hM with⟨b4,hM⟩|⟨b4,hM⟩
  ·refine am hS fun a hS=>?_;refine aK (J:=fun a w=>∃ (Q:LO) (N:LK) (K:AM) (Z:Nat) (V:Value) (F:LV),St W0 No T 57 [(0,q),(1,al b),(7,.map (some e)),(8,V),(9,al f)] [om e K Z,ax V F] [aL aa q l,s7 K Q,an ac F N] a w∧jM f Q N=some f1) ?_ ?_
   ·skip;refine am hS fun a hS=>?_;obtain⟨a1,a5,hM⟩:=bd hM;refine wl rfl (c7 (R:=ac) hS mz eJ rfl rfl 1 rfl 2 rfl a5 rfl fun ch e2 e4 cs b5 b6 b8 a hS=>?_);obtain rfl:=b5;refine qy hS (bq (k:=0) hS eJ 1 rfl b6 b8 rfl id (us:=(aV a1)) rfl rfl (fun h=>by cases h)) fun a hS=>?_;obtain⟨n,a9,hM⟩:=bd hM;refine kc hS pO (bH _ _ hS.dlt l a1 _ (hS.get 0 rfl) _ a9) fun _ w hR a hk hA=>?_;obtain⟨p,o,he,a3⟩:=hR;obtain rfl:=he.symm;have hS:=pz hA a3;refine am hS fun a hS=>?_;refine ka hS dD fun ck ds a w hk hS=>?_;refine go hS fun a w hS=>?_;obtain⟨r2,c4,hMo2⟩:=bd hM;refine bx _ (fun s a w=>∃ (m:LO) (j:LK) (g:Int) (t:AM) (G:Nat) (z:Value) (r:LV),(m,j,g)=s∧St W0 No T 57 [(0,q),(1,al b),(7,.map (some e)),(8,z),(9,al f),(33,p),(34,al (n.1.Reads.length:Int)),(35,al g)] [om e t G,ax z r,ax p o] [aL aa q l,s7 t m,an ac r j,an ac o n.1.Reads] a w) c4 ⟨_,_,_,_,_,_,_,rfl,hS.mt [2,3,1] [1,2,3,0]⟩ ?_;rintro s a w f2 ⟨m,j,g,t,G,z,r,rfl,hS⟩ hM hf2;have hM:eu l b n m j g=some f2:=hM;unfold eu at hM;refine am hS fun a hS=>?_;refine ay ?_;rcases cd hM with⟨b9,hM⟩|⟨b9,hM⟩
    ·refine am hS fun a hS=>?_;refine aK (J:=fun a w=>∃ (S:LO) (O:LK) (L:AM) (a0:Nat) (W:Value) (H:LV),St W0 No T 57 [(0,q),(1,al b),(7,.map (some e)),(8,W),(9,al f),(33,p),(34,al (n.1.Reads.length:Int)),(35,al g)] [om e L a0,ax W H,ax p o] [aL aa q l,s7 L S,an ac H O,an ac o n.1.Reads] a w∧jN g S O=some f2) ?_ ?_
     ·skip;refine am hS fun a hS=>?_;obtain⟨d,a4,hM⟩:=bd hM;refine wl rfl (c7 (R:=ac) hS mz eJ rfl rfl 2 rfl 3 rfl a4 rfl fun cl e3 e5 d0 bb bi bl a hS=>?_);obtain rfl:=bb;refine qy hS (bq (k:=0) hS eJ 2 rfl bi bl rfl id (us:=(aV d)) rfl rfl (fun h=>by cases h)) fun a hS=>?_;refine ka hS fE fun X e0 a w hk hS=>?_;refine go hS fun a w hS=>?_;refine aK (J:=fun a w=>∃ (M:Bool),St W0 No T 57 [(0,q),(1,al b),(7,.map (some e)),(8,z),(9,al f),(13,pt X 0),(33,p),(34,al (n.1.Reads.length:Int)),(35,al g),(48,.bool M)] [om e t G,ax z r,ax p o,.box X (aV d) 31] [aL aa q l,s7 t m,an ac r j,an ac o n.1.Reads] a w∧jO m j g d M=some f2) ?_ ?_
      ·skip;refine am hS fun a hS=>?_;obtain⟨e6,af,hM⟩:=bd hM;refine kc hS Hw (ut _ _ hS.dlt l b d _ (hS.get 0 rfl) _ af) fun _ w hR a hk hA=>?_;obtain rfl:=hR;have hS:=ce hA;refine am hS fun a hS=>?_;rcases cd hM with⟨a2,hM⟩|⟨a2,hM⟩
       ·refine am hS fun a hS=>?_;obtain⟨c2,ag,hM⟩:=bd hM;obtain⟨d1,bs,bt⟩:=kd hS xZ dv 1 rfl 1 rfl (c:=(aV d)) (key:=d) rfl I8 (zc:=[.bool false]) rfl rfl ag;obtain rfl:=bs;refine wg hS rfl rfl rfl a2 (ky (v:=.bool c2) hS (bt rfl rfl id) rfl rfl fun a hS=>?_);exact fz
       exact fz
      rintro a w ⟨M,hS,hM⟩;unfold jO at hM;rcases cd hM with⟨c0,hM⟩|⟨c0,hM⟩
      ·refine am hS fun a hS=>?_;refine wl rfl (wY hS xZ dv 0 rfl 1 rfl (c:=(aV d)) (cv:=[.bool true]) (key:=d) (val:=true) rfl rfl rfl rfl rfl fun d4 d2 w hk hS=>?_);refine am hS fun a hS=>?_;refine wl rfl (bj (ps:=[(0,.tmp 52)]) hS gh fE (zl:=[al 0,aZ bW]) (by kernel_rfl) rfl (us:=[(aV d)]) ⟨rfl,trivial⟩ (ws:=(aV d)) rfl rfl rfl rfl fun co a w hk hS=>?_);replace hS:=(hS.lit (R:=ac) (us:=(aV d)) (xs:=[d]) 0 rfl (by decide) (az.one_ (R:=ac) (x:=d) rfl) rfl rfl).freeze (R:=ac) 0 rfl 0 rfl;obtain⟨c1,hM⟩:=bm hM;refine wl rfl (bB (R:=ac) (xs:=j) (ys:=[d]) hS gh (by decide) (by decide) rfl rfl 1 rfl 5 rfl 0 rfl c1 rfl fun ea d3 a w hk hS=>?_);exact fz
      exact fz
     rintro a w ⟨S,O,L,a0,W,H,hS,hM⟩;unfold jN at hM;exact fz
    refine am hS fun a hS=>?_;cases hM
    have hr:=hf2 _ rfl;subst hr;have hM:jM f m j=some f1:=hMo2;exact⟨_,_,_,_,_,_,hS.mt [0,1] [0,1,2],hM⟩
   rintro a w ⟨Q,N,K,Z,V,F,hS,hM⟩;unfold jM at hM;exact fz
  exact fz
 rintro a w ⟨P,A,D,hS,hM⟩;unfold mb at hM;refine am hS fun a hS=>?_;cases hM
 refine aG hS rfl (aw hS rfl aF) ?_;exact⟨e,A,D,rfl,hS.retMap ⟨.inr (aH (i:=0) rfl),trivial⟩ 0 rfl 0 rfl⟩
def pE (b:LK):Option LK:=(iq b).bind fun c=>some (c)
def nP (b:Int) (c:LK):Option (Fl (LK×Int) (LK)):=some (.go (c,IntKind.i64.wrap (b+1)))
def lF (b:LK) (d:Int) (c:ad) (e:Bool):Option (Fl (LK×Int) (LK)):=cond e (gd (bL (b.length+([c.Key]).length)) <| nP d (b++([c.Key]))) (nP d b)
def lG (g:LR) (e:Int) (f:ae) (h:LO) (d:LK) (c:Int):Option (Fl (LK×Int) (LK)):=cond (decide (c<(g.length:Int))) ((bk g c).bind fun b=>cond (!(b.Key.Kind==f.Kind&&b.Key.Text.toList==f.Text.toList)) ((some ((cB aM b.Key h).getD false)).bind fun i=>cond i ((lH g e b.Key).bind fun j=>(some ((cB aM f j).getD false)).bind fun k=>lF d c b k) (lF d c b false)) (lF d c b false)) (some (.out d))
def kP (d:LR) (b:Int) (c:ae):Option LK:=(mT d b c).bind fun f=>cond (!(f)) (some ([c])) ((lH d b c).bind fun e=>(loop (fun s:LK×Int=>lG d b c e s.1 s.2) ([c],0)).bind fun r=>pE r)
theorem qS (T:Nat→Prop) (W0:World) (hT:TW T W0) (hLv:dc T W0) (f:LR) (b:Int) (d:ae) (o:Value) (bl:aC aa T W0 o f) (y:LK) (hM:kP f b d=some y):a7 aO No 114 [o,al b,.agg (aV d).toArray] W0 (fun v w'=>∃ (v2:Value) (iN:ba),v=v2∧ge ac T W0 w' [ax v2 iN] 31 v2 iN y):=by
 refine en Tryz.func114 Tryz.ntmps114 hT fun a hS=>?_;replace hS:=(hS.fact br (dc.dn hLv)).fS (aC.dn bl);unfold kP at hM;refine am hS fun a hS=>?_;refine kb hS fun m c5 a w hk hS=>?_;refine am hS fun a hS=>?_;refine ay ?_;refine am hS fun a hS=>?_;obtain⟨cl,a2,hM⟩:=bd hM;refine kc hS Hw (ut _ _ hS.dlt f b d _ (hS.get 0 rfl) _ a2) fun _ w hR a hk hA=>?_;obtain rfl:=hR;have hS:=ce hA;refine am hS fun a hS=>?_;rcases cd hM with⟨ak,hM⟩|⟨ak,hM⟩
 ·refine am hS fun a hS=>?_;refine wl rfl (bj (ps:=[(0,.tmp 16)]) hS gh fE (zl:=[al 0,aZ bW]) (by kernel_rfl) rfl (us:=[(aV d)]) ⟨rfl,trivial⟩ (ws:=(aV d)) rfl rfl rfl rfl fun a4 a w hk hS=>?_);refine am hS fun a hS=>?_;replace hS:=hS.lit (R:=ac) (us:=(aV d)) (xs:=[d]) 0 rfl (by decide) (az.one_ (R:=ac) (x:=d) rfl) rfl rfl;cases hM
  refine aG hS rfl (aw hS rfl aF) ?_;exact⟨(.slice (some ⟨a4,0,none⟩) 1 1),(aV d),rfl,hS.retOwn ⟨.inr (aH (i:=0) rfl),trivial⟩ 0 rfl 0 rfl⟩
 refine am hS fun a hS=>?_;refine wl rfl (bj (ps:=[(0,.tmp 18)]) hS gh fE (zl:=[al 0,aZ bW]) (by kernel_rfl) rfl (us:=[(aV d)]) ⟨rfl,trivial⟩ (ws:=(aV d)) rfl rfl rfl rfl fun bs a w hk hS=>?_);refine am hS fun a hS=>?_;obtain⟨t,Y,hM⟩:=bd hM;refine kc hS Hx (tc _ _ hS.dlt f b d _ (hS.get 0 rfl) _ Y) fun _ w hR a hk hA=>?_;obtain⟨h,j,q,he,⟨M,I,P⟩⟩:=hR;obtain rfl:=he.symm;have hS:=hA [om h j q] (jj M (CH I)) (xa _);replace hS:=hS.fM (P.keep (aj _ _) (ob _));refine am hS fun a hS=>?_;refine aK (J:=fun a w=>∃ (r:LK) (D:Value) (u:LV),St W0 No T 57 [(7,D)] [ax D u] [an ac u r,br] a w∧pE r=some y) ?_ ?_
 ·skip;refine am hS fun a hS=>?_;replace hS:=hS.lit (R:=ac) (us:=(aV d)) (xs:=[d]) 1 rfl (by decide) (az.one_ (R:=ac) (x:=d) rfl) rfl rfl;obtain⟨r1,bi,hMo1⟩:=bd hM;refine bx _ (fun s a w=>∃ (k:LK) (g:Int) (p:Value) (n:LV),(k,g)=s∧St W0 No T 57 [(0,o),(1,al b),(5,pt m 0),(7,p),(8,.map (some h)),(24,o),(25,al (f.length:Int)),(26,al g)] [ax p n,om h j q,.box m (aV d) 31] [aL aa o f,an ac n k,s7 j t,br] a w) bi ⟨_,_,_,_,rfl,hS.mt [1,0,2] [2,0,1,3]⟩ ?_;rintro s a w f1 ⟨k,g,p,n,rfl,hS⟩ hM hf1;have hM:lG f b d t k g=some f1:=hM;unfold lG at hM;refine am hS fun a hS=>?_;refine ay ?_;rcases cd hM with⟨av,hM⟩|⟨av,hM⟩
  ·refine am hS fun a hS=>?_;refine aK (J:=fun a w=>∃ (C:LK) (E:Value) (z:LV),St W0 No T 57 [(0,o),(1,al b),(5,pt m 0),(7,E),(8,.map (some h)),(24,o),(25,al (f.length:Int)),(26,al g)] [ax E z,om h j q,.box m (aV d) 31] [aL aa o f,an ac z C,s7 j t,br] a w∧nP g C=some f1) ?_ ?_
   ·skip;refine am hS fun a hS=>?_;obtain⟨e,W,hM⟩:=bd hM;refine wl rfl (bu (R:=aa) hS dW bX rfl rfl 0 rfl W rfl fun bt ca c1 b0 a hS=>?_);obtain⟨U,rfl,a3⟩:=b0;replace hS:=hS.fS a3;refine am hS fun a hS=>?_;refine ka hS dD fun F c9 a w hk hS=>?_;refine go hS fun a w hS=>?_;refine aK (J:=fun a w=>∃ (A:Bool),St W0 No T 57 [(0,o),(1,al b),(5,pt m 0),(7,p),(8,.map (some h)),(10,pt F 0),(24,o),(25,al (f.length:Int)),(26,al g),(48,.bool A)] [ax p n,om h j q,.box m (aV d) 31,.box F (aE e U) 33] [aL aa o f,an ac n k,s7 j t,aL ac U e.Reads,br] a w∧lF k g e A=some f1) ?_ ?_
    ·skip;refine dr [] hS fun w hQ hS=>?_;refine gE [0,1,2] hS fun a hS=>?_;refine dy 3 (v:=.bool (!(e.Key.Kind==d.Kind&&e.Key.Text.toList==d.Text.toList))) rfl (by kernel_rfl) (by kernel_rfl) (by kernel_rfl) rfl hQ hS (yo hS rfl rfl) rfl rfl rfl fun a hS=>?_;refine gE [4] hS fun a hS=>?_;rcases cd hM with⟨H,hM⟩|⟨H,hM⟩
     ·refine gE [5,6,7] hS fun a hS=>?_;obtain⟨b8,Z,hM⟩:=bd hM;obtain⟨c2,b1,b2⟩:=kd hS xZ dv 2 rfl 4 rfl (c:=(aV e.Key)) (key:=e.Key) rfl I8 (zc:=[.bool false]) rfl rfl Z;obtain rfl:=b1;refine wO (l:=[]) 8 (v:=.bool b8) rfl (by kernel_rfl) (by kernel_rfl) (by kernel_rfl) (by kernel_rfl) hQ hS (b2 rfl rfl bn) rfl rfl rfl H rfl rfl fun a hS=>?_;refine gE [9,10] hS fun a hS=>?_;rcases cd hM with⟨B,hM⟩|⟨B,hM⟩
      ·refine gE [11,12,13,14,16] hS fun a hS=>?_;obtain⟨ck,a0,hM⟩:=bd hM;refine cS (i:=15) rfl (by kernel_rfl) hS rfl rfl rfl B (bz hS Hx rfl rfl (tc _ _ hS.dlt f b e.Key _ (hS.get 2 rfl) _ a0) fun _ w hR a hk hA=>⟨fA (hk),?_⟩);obtain⟨a5,af,a9,he,⟨N,K,Q⟩⟩:=hR;obtain rfl:=he.symm;have hS:=hA [om a5 af a9] (jj N (CH K)) (xa _);replace hS:=hS.fM (Q.keep (aj _ _) (ob _));obtain⟨b9,a1,hM⟩:=bd hM;obtain⟨c3,b3,b4⟩:=kd hS xZ dv 0 rfl 0 rfl (c:=(aV d)) (key:=d) rfl I8 (zc:=[.bool false]) rfl rfl a1;obtain rfl:=b3;refine wO (l:=[]) 17 (v:=.bool b9) rfl (by kernel_rfl) (by kernel_rfl) (by kernel_rfl) (by kernel_rfl) hQ hS (b4 rfl rfl bn) rfl rfl rfl B rfl rfl fun a hS=>?_;refine gE [18] hS fun a hS=>?_;refine eD ?_;exact⟨_,hS.mt [2,3,4,1] [3,4,5,1,6],hM⟩
      refine gE [11,12,13,14,15,16,17,18] hS fun a hS=>?_;refine eD ?_;exact⟨_,hS.mt [1,2,3,0] [2,3,4,0,5],hM⟩
     refine gE [5,6,7,8,9,10,11,12,13,14,15,16,17,18] hS fun a hS=>?_;refine eD ?_;exact⟨_,hS.mt [1,2,3,0] [2,3,4,0,5],hM⟩
    rintro a w ⟨A,hS,hM⟩;unfold lF at hM;rcases cd hM with⟨b5,hM⟩|⟨b5,hM⟩
    ·refine am hS fun a hS=>?_;refine wl rfl (bj (ps:=[(0,.tmp 51)]) hS gh fE (zl:=[al 0,aZ bW]) (by kernel_rfl) rfl (us:=[(aV e.Key)]) ⟨rfl,trivial⟩ (ws:=(aV e.Key)) rfl rfl rfl rfl fun c0 a w hk hS=>?_);replace hS:=(hS.lit (R:=ac) (us:=(aV e.Key)) (xs:=[e.Key]) 0 rfl (by decide) (az.one_ (R:=ac) (x:=e.Key) rfl) rfl rfl).freeze (R:=ac) 0 rfl 0 rfl;obtain⟨b6,hM⟩:=bm hM;refine wl rfl (bB (R:=ac) (xs:=k) (ys:=[e.Key]) hS gh (by decide) (by decide) rfl rfl 0 rfl 3 rfl 0 rfl b6 rfl fun co c4 a w hk hS=>?_);exact fz
    exact fz
   rintro a w ⟨C,E,z,hS,hM⟩;unfold nP at hM;exact fz
  exact fz
 rintro a w ⟨r,D,u,hS,hM⟩;unfold pE at hM;refine am hS fun a hS=>?_;have hL:=hS;replace hL:=hL.freeze (R:=ac) 0 rfl 0 rfl;obtain⟨ch,X,hM⟩:=bd hM;refine kc hS JM (r4 _ _ hL.dlt (hL.get 2 rfl) r _ (hL.get 0 rfl) _ X) fun _ w hR a hk hA=>?_;obtain⟨V,G,he,⟨O,L,S⟩⟩:=hR;obtain rfl:=he.symm;have hS:=hA [ax V G] (jj ⟨O,by decide⟩ L) (xa _);replace hS:=hS.fR S;refine am hS fun a hS=>?_;cases hM
 refine aG hS rfl (aw hS rfl aF) ?_;exact⟨V,G,rfl,hS.retOwn ⟨.inr (aH (i:=0) rfl),trivial⟩ 0 rfl 0 rfl⟩
end
end
section
set_option maxRecDepth 100000
set_option maxHeartbeats 4000000
open Go.RowKit
noncomputable section
def ln (b:LN):Option Bool:=some (decide ((b.length:Int)≤400))
theorem zA (T:Nat→Prop) (W0:World) (hT:TW T W0) (b:LN) (d:Value) (c:aC (aR.int .i64) T W0 d b) (y:Bool) (hM:ln b=some y):a7 aO No 8 [d] W0 (fun v w'=>v = .bool y):=by
 refine en Tryz.func8 Tryz.ntmps8 hT fun a hS=>?_;replace hS:=hS.fS (aC.dn c);unfold ln at hM;exact fz
def uR:Option Int:=some (0)
def jZ (c:LN) (b:Int):Option (Fl (Int) (Fl (Unit) Int)):=cond (decide (b<(c.length:Int))) ((bk c b).bind fun d=>cond (d != 0) (some (.out (.out d))) (some (.go (IntKind.i64.wrap (b+1))))) (some (.out (.go ())))
def rP (b:LN):Option Int:=(loop (fun s:Int=>jZ b s) 0).bind fun r=>Fl.el r (fun s=>uR) (fun y=>some (y))
theorem Ai (T:Nat→Prop) (W0:World) (hT:TW T W0) (b:LN) (e:Value) (i:aC (aR.int .i64) T W0 e b) (y:Int) (hM:rP b=some y):a7 aO No 43 [e] W0 (fun v w'=>v=al y):=by
 refine en Tryz.func43 Tryz.ntmps43 hT fun a hS=>?_;replace hS:=hS.fS (aC.dn i);unfold rP at hM;refine am hS fun a hS=>?_;refine aK (J:=fun a w=>St W0 No T 18 [(3,al 0)] [] [] a w∧uR=some y) ?_ ?_
 ·skip;refine am hS fun a hS=>?_;obtain⟨o,h,hMo1⟩:=bd hM;refine bx _ (fun s a w=>∃ (c:Int),c=s∧St W0 No T 18 [(3,al 0),(6,e),(7,al (b.length:Int)),(8,al c)] [] [aL (aR.int .i64) e b] a w) h ⟨_,rfl,hS.mt [] [0]⟩ ?_;rintro s a w m ⟨c,rfl,hS⟩ hM hf1;have hM:jZ b c=some m:=hM;unfold jZ at hM;refine am hS fun a hS=>?_;refine ay ?_;rcases cd hM with⟨f,hM⟩|⟨f,hM⟩
  ·refine am hS fun a hS=>?_;refine ay ?_;refine am hS fun a hS=>?_;obtain⟨l,d,hM⟩:=bd hM;refine wl rfl (bu (R:=(aR.int .i64)) hS DQ zM rfl rfl 0 rfl d rfl fun j n k g a hS=>?_);obtain rfl:=g;exact fz
  exact fz
 rintro a w ⟨hS,hM⟩;unfold uR at hM;exact fz
def kE (b:Int):Option Bool:=some (b != b)
theorem ry (T:Nat→Prop) (W0:World) (hT:TW T W0) (b:Int) (y:Bool) (hM:kE b=some y):a7 aO No 70 [al b] W0 (fun v w'=>v = .bool y):=by
 refine en Tryz.func70 Tryz.ntmps70 hT fun a hS=>?_;unfold kE at hM;exact fz
def jl (c:Int) (d:Int):Option Int:=(kE c).bind fun e=>(kE d).bind fun b=>cond e (cond b (some (0)) (some ((-1)))) (cond b (some (1)) (cond (decide (c<d)) (some ((-1))) (cond (decide (d<c)) (some (1)) (some (0)))))
theorem pP (T:Nat→Prop) (W0:World) (hT:TW T W0) (b:Int) (c:Int) (y:Int) (hM:jl b c=some y):a7 aO No 44 [al b,al c] W0 (fun v w'=>v=al y):=by
 refine en Tryz.func44 Tryz.ntmps44 hT fun a hS=>?_;unfold jl at hM;refine am hS fun a hS=>?_;obtain⟨i,d,hM⟩:=bd hM;refine kc hS JR (ry _ _ hS.dlt b _ d) fun _ w hR a hk hA=>?_;obtain rfl:=hR;have hS:=ce hA;refine am hS fun a hS=>?_;obtain⟨j,e,hM⟩:=bd hM;refine kc hS JR (ry _ _ hS.dlt c _ e) fun _ w hR a hk hA=>?_;obtain rfl:=hR;have hS:=ce hA;refine am hS fun a hS=>?_;refine ay ?_;refine am hS fun a hS=>?_;rcases cd hM with⟨f,hM⟩|⟨f,hM⟩
 ·refine am hS fun a hS=>?_;refine ay ?_;exact fz
 refine am hS fun a hS=>?_;refine ay ?_;refine am hS fun a hS=>?_;rcases cd hM with⟨g,hM⟩|⟨g,hM⟩
 ·exact fz
 refine am hS fun a hS=>?_;refine ay ?_;refine am hS fun a hS=>?_;rcases cd hM with⟨h,hM⟩|⟨h,hM⟩
 ·exact fz
 refine am hS fun a hS=>?_;refine ay ?_;exact fz
def qL (b:ae) (c:ae):Option Int:=(jl b.Kind c.Kind).bind fun d=>(qb b.Text c.Text).bind fun e=>(rP ([d,e])).bind fun f=>some (f)
theorem uX (T:Nat→Prop) (W0:World) (hT:TW T W0) (hLv:dc T W0) (d:ae) (e:ae) (y:Int) (hM:qL d e=some y):a7 aO No 45 [.agg (aV d).toArray,.agg (aV e).toArray] W0 (fun v w'=>v=al y):=by
 refine en Tryz.func45 Tryz.ntmps45 hT fun a hS=>?_;replace hS:=hS.fact br (dc.dn hLv);unfold qL at hM;refine am hS fun a hS=>?_;refine kb hS fun i l a w hk hS=>?_;refine kb hS fun j m a w hk hS=>?_;refine am hS fun a hS=>?_;refine ay ?_;refine dr [] hS fun w hQ hS=>?_;refine gE [0,1,2,3,5,6,7,8] hS fun a hS=>?_;obtain⟨b,f,hM⟩:=bd hM;refine ec 4 hS H3 (pP _ _ hS.dlt d.Kind e.Kind _ f) fun _ w hR a hk hA=>?_;obtain rfl:=hR;have hS:=ce hA;obtain⟨c,g,hM⟩:=bd hM;refine ec 9 hS JQ (vC _ _ hS.dlt (hS.get 0 rfl) d.Text e.Text _ g) fun _ w hR a hk hA=>?_;obtain rfl:=hR;have hS:=ce hA;refine e1 10 (bj (ps:=[(0,.tmp 9),(1,.tmp 14)]) hS EA KD (zl:=[al 0,al 0]) (by kernel_rfl) rfl (us:=[[al b],[al c]]) ⟨rfl,⟨rfl,trivial⟩⟩ (ws:=[al b,al c]) rfl rfl rfl rfl fun k a w hk hS=>⟨fA (hk),?_⟩);replace hS:=hS.lit (R:=(aR.int .i64)) (us:=[al b,al c]) (xs:=[b,c]) 0 rfl (by decide) ((az.one_ (R:=(aR.int .i64)) (x:=b) rfl).append (az.one_ (R:=(aR.int .i64)) (x:=c) rfl)) rfl rfl;have hL:=hS;replace hL:=hL.freeze (R:=(aR.int .i64)) 0 rfl 0 rfl;obtain⟨n,h,hM⟩:=bd hM;refine ec 11 hS JO (Ai _ _ hL.dlt ([b,c]) _ (hL.get 0 rfl) _ h) fun _ w hR a hk hA=>?_;obtain rfl:=hR;have hS:=ce hA;refine gE [12] hS fun a hS=>?_;refine eD ?_;exact fz
def qM (b:Bool):Option Bool:=some (b)
def m9 (b:Int):Option Bool:=cond (decide ((30:Int)≤b)) (qM (decide (b≤32))) (qM false)
theorem yx (T:Nat→Prop) (W0:World) (hT:TW T W0) (c:Int) (y:Bool) (hM:m9 c=some y):a7 aO No 130 [al c] W0 (fun v w'=>v = .bool y):=by
 refine en Tryz.func130 Tryz.ntmps130 hT fun a hS=>?_;unfold m9 at hM;refine am hS fun a hS=>?_;refine aK (J:=fun a w=>∃ (b:Bool),St W0 No T 9 [(2,.bool b)] [] [] a w∧qM b=some y) ?_ ?_
 ·exact fz
 rintro a w ⟨b,hS,hM⟩;unfold qM at hM;exact fz
def li (c:ae):Option Int:=(m9 c.Kind).bind fun d=>cond (!(d)) (some ((-1))) ((wC c.Text).bind fun b=>cond b.2 (some ((-1))) (cond (decide (b.1<0)) (some ((-1))) (cond (decide ((99:Int)<b.1)) (some ((-1))) ((vF b.1).bind fun e=>cond (!(e.toList==c.Text.toList)) (some ((-1))) (some (b.1))))))
theorem zw (T:Nat→Prop) (W0:World) (hT:TW T W0) (hLv:dc T W0) (b:ae) (y:Int) (hM:li b=some y):a7 aO No 131 [.agg (aV b).toArray] W0 (fun v w'=>v=al y):=by
 refine en Tryz.func131 Tryz.ntmps131 hT fun a hS=>?_;replace hS:=hS.fact br (dc.dn hLv);unfold li at hM;refine am hS fun a hS=>?_;refine kb hS fun m n a w hk hS=>?_;refine am hS fun a hS=>?_;refine ay ?_;refine am hS fun a hS=>?_;obtain⟨o,f,hM⟩:=bd hM;refine kc hS Hs (yx _ _ hS.dlt b.Kind _ f) fun _ w hR a hk hA=>?_;obtain rfl:=hR;have hS:=ce hA;refine am hS fun a hS=>?_;rcases cd hM with⟨j,hM⟩|⟨j,hM⟩
 ·exact fz
 refine am hS fun a hS=>?_;obtain⟨e,g,hM⟩:=bd hM;refine kc hS JI (FZ _ _ hS.dlt (hS.get 0 rfl) b.Text _ g) fun _ w hR a hk hA=>?_;obtain⟨q,he,d⟩:=hR;obtain rfl:=he.symm;have hS:=hA [] (fun r hr=>by cases hr) vr;refine am hS fun a hS=>?_;refine ay ?_;refine ay ?_;refine dr [] hS fun w hQ hS=>?_;refine gE [0] hS fun a hS=>?_;refine dy 1 (v:=.bool e.2) rfl (by kernel_rfl) (by kernel_rfl) (by kernel_rfl) rfl hQ hS (G8 hS rfl d J2) rfl rfl rfl fun a hS=>?_;refine gE [2] hS fun a hS=>?_;rcases cd hM with⟨k,hM⟩|⟨k,hM⟩
 ·refine gE [3,4,5,6,7,8,9,10,11,12,13,14,15,16] hS fun a hS=>?_;refine eD ?_;exact fz
 refine gE [3,4,5,6] hS fun a hS=>?_;rcases cd hM with⟨l,hM⟩|⟨l,hM⟩
 ·refine gE [7,8,9,10,11,12,13,14,15,16] hS fun a hS=>?_;refine eD ?_;exact fz
 refine gE [7,8,9,10] hS fun a hS=>?_;rcases cd hM with⟨c,hM⟩|⟨c,hM⟩
 ·refine gE [11,12,13,14,15,16] hS fun a hS=>?_;refine eD ?_;exact fz
 refine gE [11,13,14] hS fun a hS=>?_;obtain⟨p,h,hM⟩:=bd hM;refine cS (i:=12) rfl (by kernel_rfl) hS rfl rfl rfl c (bz hS Cn rfl rfl (wj _ _ hS.dlt (hS.get 0 rfl) e.1 _ h) fun _ w hR a hk hA=>⟨fA (hk),?_⟩);obtain rfl:=hR;have hS:=ce hA;refine gE [15,16] hS fun a hS=>?_;refine eD ?_;exact fz
def iz (b:Bool):Option Bool:=some (b)
def lU (b:Int):Option Bool:=cond (decide ((1:Int)≤b)) (iz (decide (b≤22))) (iz false)
theorem rW (T:Nat→Prop) (W0:World) (hT:TW T W0) (c:Int) (y:Bool) (hM:lU c=some y):a7 aO No 132 [al c] W0 (fun v w'=>v = .bool y):=by
 refine en Tryz.func132 Tryz.ntmps132 hT fun a hS=>?_;unfold lU at hM;refine am hS fun a hS=>?_;refine aK (J:=fun a w=>∃ (b:Bool),St W0 No T 9 [(2,.bool b)] [] [] a w∧iz b=some y) ?_ ?_
 ·exact fz
 rintro a w ⟨b,hS,hM⟩;unfold iz at hM;exact fz
def ke (b:Bool):Option Bool:=some (b)
def ot (b:ae) (c:Bool):Option Bool:=(lU b.Kind).bind fun d=>cond d (cond (decide (((b.Text.size:Int):Int)≤1073741824)) (cond (!(c)) (ke true) (ke (b.Text.toList==bW.toList))) (ke false)) (ke false)
def fF (b:ae):Option Bool:=(m9 b.Kind).bind fun c=>cond c ((li b).bind fun d=>some (decide ((0:Int)≤d))) (cond (b.Kind==1) (ot b true) (ot b (b.Kind==21)))
theorem rV (T:Nat→Prop) (W0:World) (hT:TW T W0) (hLv:dc T W0) (b:ae) (y:Bool) (hM:fF b=some y):a7 aO No 105 [.agg (aV b).toArray] W0 (fun v w'=>v = .bool y):=by
 refine en Tryz.func105 Tryz.ntmps105 hT fun a hS=>?_;replace hS:=hS.fact br (dc.dn hLv);unfold fF at hM;refine am hS fun a hS=>?_;refine kb hS fun e j a w hk hS=>?_;refine am hS fun a hS=>?_;refine ay ?_;refine am hS fun a hS=>?_;obtain⟨l,g,hM⟩:=bd hM;refine kc hS Hs (yx _ _ hS.dlt b.Kind _ g) fun _ w hR a hk hA=>?_;obtain rfl:=hR;have hS:=ce hA;refine am hS fun a hS=>?_;rcases cd hM with⟨i,hM⟩|⟨i,hM⟩
 ·refine am hS fun a hS=>?_;obtain⟨m,h,hM⟩:=bd hM;refine kc hS Jy (zw _ _ hS.dlt (hS.get 0 rfl) b _ h) fun _ w hR a hk hA=>?_;obtain rfl:=hR;have hS:=ce hA;exact fz
 refine am hS fun a hS=>?_;refine aK (J:=fun a w=>∃ (c:Bool),St W0 No T 36 [(1,pt e 0),(3,.bool c)] [.box e (aV b) 31] [br] a w∧ot b c=some y) ?_ ?_
 ·exact fz
 rintro a w ⟨c,hS,hM⟩;unfold ot at hM;refine aK (J:=fun a w=>∃ (d:Bool),St W0 No T 36 [(2,.bool d)] [] [br] a w∧ke d=some y) ?_ ?_
 ·skip;refine am hS fun a hS=>?_;obtain⟨k,f,hM⟩:=bd hM;refine kc hS Ht (rW _ _ hS.dlt b.Kind _ f) fun _ w hR a hk hA=>?_;obtain rfl:=hR;have hS:=ce hA;exact fz
 rintro a w ⟨d,hS,hM⟩;unfold ke at hM;exact fz
def lT (b:Bool):Option Bool:=some (b)
def qi (b:ae):Option Bool:=cond (b.Kind==1) (lT true) (cond (b.Kind==2) (lT true) (lT (b.Kind==30)))
theorem vG (T:Nat→Prop) (W0:World) (hT:TW T W0) (c:ae) (y:Bool) (hM:qi c=some y):a7 aO No 106 [.agg (aV c).toArray] W0 (fun v w'=>v = .bool y):=by
 refine en Tryz.func106 Tryz.ntmps106 hT fun a hS=>?_;unfold qi at hM;refine am hS fun a hS=>?_;refine kb hS fun d e a w hk hS=>?_;refine am hS fun a hS=>?_;refine aK (J:=fun a w=>∃ (b:Bool),St W0 No T 16 [(2,.bool b)] [] [] a w∧lT b=some y) ?_ ?_
 ·exact fz
 rintro a w ⟨b,hS,hM⟩;unfold lT at hM;exact fz
def je:Option Bool:=some (false)
def dw (b:Bool):Option Bool:=cond b (some (true)) (je)
def lY (b:Int):Option Bool:=cond (b==7) (dw (b==7)) (cond (b==14) (dw (b==14)) (cond (b==17) (dw (b==17)) (dw (b==18))))
theorem u7 (T:Nat→Prop) (W0:World) (hT:TW T W0) (c:Int) (y:Bool) (hM:lY c=some y):a7 aO No 147 [al c] W0 (fun v w'=>v = .bool y):=by
 refine en Tryz.func147 Tryz.ntmps147 hT fun a hS=>?_;unfold lY at hM;refine am hS fun a hS=>?_;refine aK (J:=fun a w=>St W0 No T 9 [] [] [] a w∧je=some y) ?_ ?_
 ·skip;refine am hS fun a hS=>?_;refine aK (J:=fun a w=>∃ (b:Bool),St W0 No T 9 [(4,.bool b)] [] [] a w∧dw b=some y) ?_ ?_
  ·exact fz
  rintro a w ⟨b,hS,hM⟩;unfold dw at hM;exact fz
 rintro a w ⟨hS,hM⟩;unfold je at hM;exact fz
def iO (b:Bool):Option Bool:=some (b)
def oV (b:ae):Option Bool:=cond (b.Kind==32) (iO true) ((lU b.Kind).bind fun c=>cond c ((lY b.Kind).bind fun d=>iO d) (iO false))
theorem zv (T:Nat→Prop) (W0:World) (hT:TW T W0) (c:ae) (y:Bool) (hM:oV c=some y):a7 aO No 127 [.agg (aV c).toArray] W0 (fun v w'=>v = .bool y):=by
 refine en Tryz.func127 Tryz.ntmps127 hT fun a hS=>?_;unfold oV at hM;refine am hS fun a hS=>?_;refine kb hS fun h i a w hk hS=>?_;refine am hS fun a hS=>?_;refine aK (J:=fun a w=>∃ (b:Bool),St W0 No T 16 [(2,.bool b)] [] [] a w∧iO b=some y) ?_ ?_
 ·skip;refine am hS fun a hS=>?_;rcases cd hM with⟨d,hM⟩|⟨d,hM⟩
  ·exact fz
  refine am hS fun a hS=>?_;obtain⟨j,f,hM⟩:=bd hM;refine wg hS rfl rfl rfl d (bz hS Ht rfl rfl (rW _ _ hS.dlt c.Kind _ f) fun _ w hR a hk hA=>?_);obtain rfl:=hR;have hS:=ce hA;refine am hS fun a hS=>?_;rcases cd hM with⟨e,hM⟩|⟨e,hM⟩
  ·refine am hS fun a hS=>?_;obtain⟨k,g,hM⟩:=bd hM;refine wg hS rfl rfl rfl e (bz hS JG rfl rfl (u7 _ _ hS.dlt c.Kind _ g) fun _ w hR a hk hA=>?_);obtain rfl:=hR;have hS:=ce hA;exact fz
  exact fz
 rintro a w ⟨b,hS,hM⟩;unfold iO at hM;exact fz
def jw (c:ae):Option Bool:=(fF c).bind fun b=>some (!(b))
theorem vb (T:Nat→Prop) (W0:World) (hT:TW T W0) (hLv:dc T W0) (b:ae) (y:Bool) (hM:jw b=some y):a7 aO No 128 [.agg (aV b).toArray] W0 (fun v w'=>v = .bool y):=by
 refine en Tryz.func128 Tryz.ntmps128 hT fun a hS=>?_;replace hS:=hS.fact br (dc.dn hLv);unfold jw at hM;refine am hS fun a hS=>?_;refine kb hS fun d e a w hk hS=>?_;refine am hS fun a hS=>?_;obtain⟨f,c,hM⟩:=bd hM;refine kc hS El (rV _ _ hS.dlt (hS.get 0 rfl) b _ c) fun _ w hR a hk hA=>?_;obtain rfl:=hR;have hS:=ce hA;exact fz
def pR:Option Int:=some ((-1))
def kG (c:LK) (f:ae→Option Bool) (b:Int):Option (Fl (Int) (Fl (Unit) Int)):=cond (decide (b<(c.length:Int))) ((bk c b).bind fun d=>(f d).bind fun e=>cond e (some (.out (.out b))) (some (.go (IntKind.i64.wrap (b+1))))) (some (.out (.go ())))
def oR (b:ae→Option Bool) (c:LK):Option Int:=(loop (fun s:Int=>kG c b s) 0).bind fun r=>Fl.el r (fun s=>pR) (fun y=>some (y))
theorem zt (T:Nat→Prop) (W0:World) (hT:TW T W0) (hLv:dc T W0) (f_1g:Nat) (f:aP aO f_1g=true) (f_1k:ba) (f_1P:bG) (d:ae→Option Bool) (m:∀ (T:Nat→Prop) (W0:World) (hT:TW T W0) (hLv:dc T W0) (hP:f_1P.p T W0) (q:ae) (y:Bool) (hM:d q=some y),a7 aO No f_1g ([.agg (aV q).toArray]++f_1k) W0 (fun v w'=>v = .bool y)) (e:f_1P.p T W0) (c:LK) (i:Value) (o:aC ac T W0 i c) (y:Int) (hM:oR d c=some y):a7 aO No 148 [i,.func (.func f_1g) #[] f_1k.toArray] W0 (fun v w'=>v=al y):=by
 refine en Tryz.func148 Tryz.ntmps148 hT fun a hS=>?_;replace hS:=((hS.fact f_1P (bG.dn _ e)).fact br (dc.dn hLv)).fS (aC.dn o);unfold oR at hM;refine am hS fun a hS=>?_;refine aK (J:=fun a w=>St W0 No T 19 [] [] [br,f_1P] a w∧pR=some y) ?_ ?_
 ·skip;refine am hS fun a hS=>?_;obtain⟨A,n,hMo1⟩:=bd hM;refine bx _ (fun s a w=>∃ (b:Int),b=s∧St W0 No T 19 [(0,i),(1,.func (.func f_1g) #[] f_1k.toArray),(7,al (c.length:Int)),(8,al b)] [] [aL ac i c,br,f_1P] a w) n ⟨_,rfl,hS.mt [] [0,1,2]⟩ ?_;rintro s a w u ⟨b,rfl,hS⟩ hM hf1;have hM:kG c d b=some u:=hM;unfold kG at hM;refine am hS fun a hS=>?_;refine ay ?_;rcases cd hM with⟨k,hM⟩|⟨k,hM⟩
  ·refine am hS fun a hS=>?_;refine ay ?_;refine am hS fun a hS=>?_;obtain⟨j,g,hM⟩:=bd hM;refine wl rfl (bu (R:=ac) hS mz eJ rfl rfl 0 rfl g rfl fun r x t l a hS=>?_);obtain rfl:=l;refine am hS fun a hS=>?_;obtain⟨z,h,hM⟩:=bd hM;refine wl rfl (qJ (cap:=f_1k) hS rfl f rfl rfl (m _ _ hS.dlt (hS.get 2 rfl) (hS.get 3 rfl) j _ h) fun _ w hR a hk hA=>?_);obtain rfl:=hR;have hS:=ce hA;exact fz
  exact fz
 rintro a w ⟨hS,hM⟩;unfold pR at hM;exact fz
def kF (c:ae→Option Bool) (d:LK):Option Bool:=(oR c d).bind fun b=>some (decide ((0:Int)≤b))
theorem vX (T:Nat→Prop) (W0:World) (hT:TW T W0) (hLv:dc T W0) (f_1g:Nat) (e:aP aO f_1g=true) (f_1k:ba) (f_1P:bG) (b:ae→Option Bool) (g:∀ (T:Nat→Prop) (W0:World) (hT:TW T W0) (hLv:dc T W0) (hP:f_1P.p T W0) (j:ae) (y:Bool) (hM:b j=some y),a7 aO No f_1g ([.agg (aV j).toArray]++f_1k) W0 (fun v w'=>v = .bool y)) (d:f_1P.p T W0) (c:LK) (i:Value) (h:aC ac T W0 i c) (y:Bool) (hM:kF b c=some y):a7 aO No 129 [i,.func (.func f_1g) #[] f_1k.toArray] W0 (fun v w'=>v = .bool y):=by
 refine en Tryz.func129 Tryz.ntmps129 hT fun a hS=>?_;replace hS:=((hS.fact f_1P (bG.dn _ d)).fact br (dc.dn hLv)).fS (aC.dn h);unfold kF at hM;refine am hS fun a hS=>?_;obtain⟨k,f,hM⟩:=bd hM;refine kc hS JH (zt _ _ hS.dlt (hS.get 1 rfl) f_1g e f_1k f_1P b g (hS.get 2 rfl) c _ (hS.get 0 rfl) _ f) fun _ w hR a hk hA=>?_;obtain rfl:=hR;have hS:=ce hA;exact fz
def dF (b:Bool):Option Bool:=some (b)
def cO (b:ad) (c:Bool):Option Bool:=cond c (some (false)) (cond (decide ((0:Int)≤b.Changed)) (cond (decide (b.Changed≤b.Verified)) (cond (decide (b.Verified≤1073741824)) (cond (decide ((1:Int)≤b.Cost)) (cond (decide (b.Cost≤1073741824)) ((kF jw b.Reads).bind fun d=>dF (!(d))) (dF false)) (dF false)) (dF false)) (dF false)) (dF false))
def lZ (b:ad):Option Bool:=(fF b.Key).bind fun c=>cond (!(c)) (cO b true) ((qi b.Key).bind fun d=>cond d (cO b true) (cond (decide ((1073741824:Int)<(b.Value.size:Int))) (cO b true) (cond (decide ((4000:Int)<(b.Reads.length:Int))) (cO b true) (cond b.Dirty ((oV b.Key).bind fun e=>cO b (!(e))) (cO b false)))))
theorem xb (T:Nat→Prop) (W0:World) (hT:TW T W0) (hLv:dc T W0) (b:ad) (m:Value) (x:aC ac T W0 m b.Reads) (y:Bool) (hM:lZ b=some y):a7 aO No 104 [.agg (aE b m).toArray] W0 (fun v w'=>v = .bool y):=by
 refine en Tryz.func104 Tryz.ntmps104 hT fun a hS=>?_;replace hS:=(hS.fact br (dc.dn hLv)).fS (aC.dn x);unfold lZ at hM;refine am hS fun a hS=>?_;refine kb hS fun e z a w hk hS=>?_;refine am hS fun a hS=>?_;refine ay ?_;refine aK (J:=fun a w=>∃ (d:Bool),St W0 No T 67 [(1,pt e 0),(34,.bool d)] [.box e (aE b m) 33] [aL ac m b.Reads,br] a w∧cO b d=some y) ?_ ?_
 ·skip;refine am hS fun a hS=>?_;obtain⟨B,j,hM⟩:=bd hM;refine kc hS El (rV _ _ hS.dlt (hS.get 1 rfl) b.Key _ j) fun _ w hR a hk hA=>?_;obtain rfl:=hR;have hS:=ce hA;refine am hS fun a hS=>?_;rcases cd hM with⟨f,hM⟩|⟨f,hM⟩
  ·exact fz
  refine am hS fun a hS=>?_;obtain⟨C,k,hM⟩:=bd hM;refine wg hS rfl rfl rfl f (bz hS Hl rfl rfl (vG _ _ hS.dlt b.Key _ k) fun _ w hR a hk hA=>?_);obtain rfl:=hR;have hS:=ce hA;refine am hS fun a hS=>?_;rcases cd hM with⟨n,hM⟩|⟨n,hM⟩
  ·exact fz
  refine am hS fun a hS=>?_;rcases cd hM with⟨o,hM⟩|⟨o,hM⟩
  ·exact fz
  refine am hS fun a hS=>?_;rcases cd hM with⟨p,hM⟩|⟨p,hM⟩
  ·exact fz
  refine am hS fun a hS=>?_;rcases cd hM with⟨g,hM⟩|⟨g,hM⟩
  ·refine am hS fun a hS=>?_;obtain⟨D,l,hM⟩:=bd hM;refine wg hS rfl rfl rfl g (bz hS Jv rfl rfl (zv _ _ hS.dlt b.Key _ l) fun _ w hR a hk hA=>?_);obtain rfl:=hR;have hS:=ce hA;exact fz
  exact fz
 rintro a w ⟨d,hS,hM⟩;unfold cO at hM;rcases cd hM with⟨q,hM⟩|⟨q,hM⟩
 ·exact fz
 refine am hS fun a hS=>?_;refine aK (J:=fun a w=>∃ (c:Bool),St W0 No T 67 [(2,.bool c)] [] [br] a w∧dF c=some y) ?_ ?_
 ·skip;refine am hS fun a hS=>?_;rcases cd hM with⟨r,hM⟩|⟨r,hM⟩
  ·refine am hS fun a hS=>?_;rcases cd hM with⟨s,hM⟩|⟨s,hM⟩
   ·refine am hS fun a hS=>?_;rcases cd hM with⟨t,hM⟩|⟨t,hM⟩
    ·refine am hS fun a hS=>?_;rcases cd hM with⟨u,hM⟩|⟨u,hM⟩
     ·refine am hS fun a hS=>?_;rcases cd hM with⟨h,hM⟩|⟨h,hM⟩
      ·refine am hS fun a hS=>?_;obtain⟨A,i,hM⟩:=bd hM;refine wg hS rfl rfl rfl h (bz hS Jx rfl rfl (vX _ _ hS.dlt (hS.get 1 rfl) 128 Jw [] Aa jw (fun T W0 hT hLv _ E y hM=>vb T W0 hT hLv E y hM) trivial b.Reads _ (hS.get 0 rfl) _ i) fun _ w hR a hk hA=>?_);obtain rfl:=hR;have hS:=ce hA;exact fz
      exact fz
     exact fz
    exact fz
   exact fz
  exact fz
 rintro a w ⟨c,hS,hM⟩;unfold dF at hM;exact fz
def kx (b:LR):Option Bool:=some (decide ((b.length:Int)≤4000))
def cT (b:Int) (c:Bool):Option (Fl (Int) (Fl (Unit) Bool)):=cond c (some (.out (.out false))) (some (.go (IntKind.i64.wrap (b+1))))
def eG (d:LR) (b:Int):Option (Fl (Int) (Fl (Unit) Bool)):=cond (decide (b<(d.length:Int))) ((bk d b).bind fun c=>(lZ c).bind fun f=>cond (!(f)) (cT b true) (cond (decide ((0:Int)<b)) ((bk d (IntKind.i64.wrap (b-1))).bind fun e=>(qL e.Key c.Key).bind fun g=>cT b (decide ((0:Int)≤g))) (cT b false))) (some (.out (.go ())))
def gM (b:LR):Option Bool:=(loop (fun s:Int=>eG b s) 0).bind fun r=>Fl.el r (fun s=>kx b) (fun y=>some (y))
theorem tC (T:Nat→Prop) (W0:World) (hT:TW T W0) (hLv:dc T W0) (b:LR) (d:Value) (C:aC aa T W0 d b) (y:Bool) (hM:gM b=some y):a7 aO No 72 [d] W0 (fun v w'=>v = .bool y):=by
 refine en Tryz.func72 Tryz.ntmps72 hT fun a hS=>?_;replace hS:=(hS.fact br (dc.dn hLv)).fS (aC.dn C);unfold gM at hM;refine am hS fun a hS=>?_;refine aK (J:=fun a w=>St W0 No T 35 [(0,d)] [] [aL aa d b,br] a w∧kx b=some y) ?_ ?_
 ·skip;refine am hS fun a hS=>?_;obtain⟨O,B,hMo1⟩:=bd hM;refine bx _ (fun s a w=>∃ (c:Int),c=s∧St W0 No T 35 [(0,d),(5,d),(6,al (b.length:Int)),(7,al c)] [] [aL aa d b,br] a w) B ⟨_,rfl,hS.mt [] [0,1]⟩ ?_;rintro s a w A ⟨c,rfl,hS⟩ hM hf1;have hM:eG b c=some A:=hM;unfold eG at hM;refine am hS fun a hS=>?_;refine ay ?_;rcases cd hM with⟨q,hM⟩|⟨q,hM⟩
  ·refine am hS fun a hS=>?_;refine ay ?_;refine am hS fun a hS=>?_;obtain⟨g,h,hM⟩:=bd hM;refine wl rfl (bu (R:=aa) hS dW bX rfl rfl 0 rfl h rfl fun D I F r a hS=>?_);obtain⟨M,rfl,m⟩:=r;replace hS:=hS.fS m;refine am hS fun a hS=>?_;refine ka hS dD fun E H a w hk hS=>?_;refine go hS fun a w hS=>?_;refine aK (J:=fun a w=>∃ (e:Bool),St W0 No T 35 [(0,d),(5,d),(6,al (b.length:Int)),(7,al c),(30,.bool e)] [] [aL aa d b,br] a w∧cT c e=some A) ?_ ?_
   ·skip;refine dr [] hS fun w hQ hS=>?_;refine gE [0] hS fun a hS=>?_;obtain⟨K,k,hM⟩:=bd hM;refine ec 1 hS Jn (xb _ _ hS.dlt (hS.get 3 rfl) g _ (hS.get 0 rfl) _ k) fun _ w hR a hk hA=>?_;obtain rfl:=hR;have hS:=ce hA;refine gE [2,3] hS fun a hS=>?_;rcases cd hM with⟨t,hM⟩|⟨t,hM⟩
    ·refine gE [4,5,6,7,8,9,10,11,12,13,14,15,16,17,18] hS fun a hS=>?_;refine eD ?_;exact⟨_,hS.mt [] [2,3],hM⟩
    refine gE [4,5,6] hS fun a hS=>?_;rcases cd hM with⟨f,hM⟩|⟨f,hM⟩
    ·refine gE [7,8,9] hS fun a hS=>?_;obtain⟨p,j,hM⟩:=bd hM;obtain⟨o,z,G,u,x,hS⟩:=m6 (R:=aa) hS dW bX 2 rfl j;obtain⟨N,rfl,n⟩:=u;replace hS:=hS.fS n;refine wO 10 (v:=pt o z) rfl (by kernel_rfl) (by kernel_rfl) (by kernel_rfl) rfl hQ hS (x rfl rfl) rfl rfl rfl f rfl rfl fun a hS=>?_;refine gE [11,12,13,14] hS fun a hS=>?_;obtain⟨L,l,hM⟩:=bd hM;refine cS (i:=15) rfl (by kernel_rfl) hS rfl rfl rfl f (bz hS H4 rfl rfl (uX _ _ hS.dlt (hS.get 5 rfl) p.Key g.Key _ l) fun _ w hR a hk hA=>⟨fA (hk),?_⟩);obtain rfl:=hR;have hS:=ce hA;refine gE [16,17,18] hS fun a hS=>?_;refine eD ?_;exact⟨_,hS.mt [] [4,5],hM⟩
    refine gE [7,8,9,10,11,12,13,14,15,16,17,18] hS fun a hS=>?_;refine eD ?_;exact⟨_,hS.mt [] [2,3],hM⟩
   rintro a w ⟨e,hS,hM⟩;unfold cT at hM;exact fz
  exact fz
 rintro a w ⟨hS,hM⟩;unfold kx at hM;exact fz
def jf (b:Bool):Option Bool:=some (b)
def jU (b:ae):Option Bool:=(fF b).bind fun c=>cond c ((qi b).bind fun d=>jf d) (jf false)
theorem vf (T:Nat→Prop) (W0:World) (hT:TW T W0) (hLv:dc T W0) (c:ae) (y:Bool) (hM:jU c=some y):a7 aO No 73 [.agg (aV c).toArray] W0 (fun v w'=>v = .bool y):=by
 refine en Tryz.func73 Tryz.ntmps73 hT fun a hS=>?_;replace hS:=hS.fact br (dc.dn hLv);unfold jU at hM;refine am hS fun a hS=>?_;refine kb hS fun g h a w hk hS=>?_;refine am hS fun a hS=>?_;refine aK (J:=fun a w=>∃ (b:Bool),St W0 No T 9 [(2,.bool b)] [] [br] a w∧jf b=some y) ?_ ?_
 ·skip;refine am hS fun a hS=>?_;obtain⟨i,e,hM⟩:=bd hM;refine kc hS El (rV _ _ hS.dlt (hS.get 0 rfl) c _ e) fun _ w hR a hk hA=>?_;obtain rfl:=hR;have hS:=ce hA;refine am hS fun a hS=>?_;rcases cd hM with⟨d,hM⟩|⟨d,hM⟩
  ·refine am hS fun a hS=>?_;obtain⟨j,f,hM⟩:=bd hM;refine wg hS rfl rfl rfl d (bz hS Hl rfl rfl (vG _ _ hS.dlt c _ f) fun _ w hR a hk hA=>?_);obtain rfl:=hR;have hS:=ce hA;exact fz
  exact fz
 rintro a w ⟨b,hS,hM⟩;unfold jf at hM;exact fz
def mH:Option Int:=some ((-1))
def cP (c:LR) (f:ad→Option Bool) (b:Int):Option (Fl (Int) (Fl (Unit) Int)):=cond (decide (b<(c.length:Int))) ((bk c b).bind fun d=>(f d).bind fun e=>cond e (some (.out (.out b))) (some (.go (IntKind.i64.wrap (b+1))))) (some (.out (.go ())))
def c6 (b:ad→Option Bool) (c:LR):Option Int:=(loop (fun s:Int=>cP c b s) 0).bind fun r=>Fl.el r (fun s=>mH) (fun y=>some (y))
theorem n4 (T:Nat→Prop) (W0:World) (hT:TW T W0) (hLv:dc T W0) (f_1g:Nat) (f:aP aO f_1g=true) (f_1k:ba) (f_1P:bG) (d:ad→Option Bool) (o:∀ (T:Nat→Prop) (W0:World) (hT:TW T W0) (hLv:dc T W0) (hP:f_1P.p T W0) (q:ad) (k:Value) (A:aC ac T W0 k q.Reads) (y:Bool) (hM:d q=some y),a7 aO No f_1g ([.agg (aE q k).toArray]++f_1k) W0 (fun v w'=>v = .bool y)) (e:f_1P.p T W0) (c:LR) (j:Value) (t:aC aa T W0 j c) (y:Int) (hM:c6 d c=some y):a7 aO No 79 [j,.func (.func f_1g) #[] f_1k.toArray] W0 (fun v w'=>v=al y):=by
 refine en Tryz.func79 Tryz.ntmps79 hT fun a hS=>?_;replace hS:=((hS.fact f_1P (bG.dn _ e)).fact br (dc.dn hLv)).fS (aC.dn t);unfold c6 at hM;refine am hS fun a hS=>?_;refine aK (J:=fun a w=>St W0 No T 19 [] [] [br,f_1P] a w∧mH=some y) ?_ ?_
 ·skip;refine am hS fun a hS=>?_;obtain⟨E,r,hMo1⟩:=bd hM;refine bx _ (fun s a w=>∃ (b:Int),b=s∧St W0 No T 19 [(0,j),(1,.func (.func f_1g) #[] f_1k.toArray),(7,al (c.length:Int)),(8,al b)] [] [aL aa j c,br,f_1P] a w) r ⟨_,rfl,hS.mt [] [0,1,2]⟩ ?_;rintro s a w z ⟨b,rfl,hS⟩ hM hf1;have hM:cP c d b=some z:=hM;unfold cP at hM;refine am hS fun a hS=>?_;refine ay ?_;rcases cd hM with⟨m,hM⟩|⟨m,hM⟩
  ·refine am hS fun a hS=>?_;refine ay ?_;refine am hS fun a hS=>?_;obtain⟨l,g,hM⟩:=bd hM;refine wl rfl (bu (R:=aa) hS dW bX rfl rfl 0 rfl g rfl fun u B x n a hS=>?_);obtain⟨D,rfl,i⟩:=n;replace hS:=hS.fS i;refine am hS fun a hS=>?_;obtain⟨C,h,hM⟩:=bd hM;refine wl rfl (qJ (cap:=f_1k) hS rfl f rfl rfl (o _ _ hS.dlt (hS.get 3 rfl) (hS.get 4 rfl) l _ (hS.get 0 rfl) _ h) fun _ w hR a hk hA=>?_);obtain rfl:=hR;have hS:=ce hA;exact fz
  exact fz
 rintro a w ⟨hS,hM⟩;unfold mH at hM;exact fz
def bA (c:ad→Option Bool) (d:LR):Option Bool:=(c6 c d).bind fun b=>some (decide ((0:Int)≤b))
theorem hO (T:Nat→Prop) (W0:World) (hT:TW T W0) (hLv:dc T W0) (f_1g:Nat) (e:aP aO f_1g=true) (f_1k:ba) (f_1P:bG) (b:ad→Option Bool) (h:∀ (T:Nat→Prop) (W0:World) (hT:TW T W0) (hLv:dc T W0) (hP:f_1P.p T W0) (i:ad) (g:Value) (l:aC ac T W0 g i.Reads) (y:Bool) (hM:b i=some y),a7 aO No f_1g ([.agg (aE i g).toArray]++f_1k) W0 (fun v w'=>v = .bool y)) (d:f_1P.p T W0) (c:LR) (k:Value) (j:aC aa T W0 k c) (y:Bool) (hM:bA b c=some y):a7 aO No 74 [k,.func (.func f_1g) #[] f_1k.toArray] W0 (fun v w'=>v = .bool y):=by
 refine en Tryz.func74 Tryz.ntmps74 hT fun a hS=>?_;replace hS:=((hS.fact f_1P (bG.dn _ d)).fact br (dc.dn hLv)).fS (aC.dn j);unfold bA at hM;refine am hS fun a hS=>?_;obtain⟨m,f,hM⟩:=bd hM;refine kc hS H8 (n4 _ _ hS.dlt (hS.get 1 rfl) f_1g e f_1k f_1P b h (hS.get 2 rfl) c _ (hS.get 0 rfl) _ f) fun _ w hR a hk hA=>?_;obtain rfl:=hR;have hS:=ce hA;exact fz
def gV (c:ad) (b:ai):Option Bool:=some (decide (b.Revision<c.Verified))
theorem tJ (T:Nat→Prop) (W0:World) (hT:TW T W0) (c:ad) (b:ai) (k:Value) (f:Value) (g:Value) (d:Nat) (h:aC ac T W0 k c.Reads) (i:aC ab T W0 f b.Inputs) (j:aC aa T W0 g b.Records) (e:(ji d 0 (a6 b f g)).p T W0) (y:Bool) (hM:gV c b=some y):a7 aO No 75 [.agg (aE c k).toArray,pt d 0] W0 (fun v w'=>v = .bool y):=by
 refine en Tryz.func75 Tryz.ntmps75 hT fun a hS=>?_;replace hS:=(((hS.fact (ji d 0 (a6 b f g)) (bG.dn _ e)).fS (aC.dn h)).fS (aC.dn i)).fS (aC.dn j);unfold gV at hM;refine am hS fun a hS=>?_;refine kb hS fun l m a w hk hS=>?_;exact fz
def f8 (b:ai):Option Bool:=(bA (fun d=>gV d b) b.Records).bind fun c=>some (!(c))
def bT (b:Int) (c:Bool):Option (Fl (Int) (Fl (Unit) Bool)):=cond c (some (.out (.out false))) (some (.go (IntKind.i64.wrap (b+1))))
def f9 (d:ai) (b:Int):Option (Fl (Int) (Fl (Unit) Bool)):=cond (decide (b<(d.Inputs.length:Int))) ((bk d.Inputs b).bind fun c=>(jU c.Key).bind fun f=>cond (!(f)) (bT b true) (cond (decide ((0:Int)<b)) ((bk d.Inputs (IntKind.i64.wrap (b-1))).bind fun e=>(qL e.Key c.Key).bind fun g=>cond (decide ((0:Int)≤g)) (bT b true) (cond (decide ((1073741824:Int)<(c.Value.size:Int))) (bT b true) (cond (decide (c.Changed<0)) (bT b true) (bT b (decide (d.Revision<c.Changed)))))) (cond (decide ((1073741824:Int)<(c.Value.size:Int))) (bT b true) (cond (decide (c.Changed<0)) (bT b true) (bT b (decide (d.Revision<c.Changed))))))) (some (.out (.go ())))
def jT (b:ai):Option Bool:=cond (decide (b.Revision<0)) (some (false)) (cond (decide ((1073741824:Int)<b.Revision)) (some (false)) (cond (decide ((64:Int)<(b.Inputs.length:Int))) (some (false)) ((gM b.Records).bind fun c=>cond (!(c)) (some (false)) ((loop (fun s:Int=>f9 b s) 0).bind fun r=>Fl.el r (fun s=>f8 b) (fun y=>some (y))))))
theorem ve (T:Nat→Prop) (W0:World) (hT:TW T W0) (hLv:dc T W0) (b:ai) (e:Value) (f:Value) (Q:aC ab T W0 e b.Inputs) (S:aC aa T W0 f b.Records) (y:Bool) (hM:jT b=some y):a7 aO No 47 [.agg (a6 b e f).toArray] W0 (fun v w'=>v = .bool y):=by
 refine en Tryz.func47 Tryz.ntmps47 hT fun a hS=>?_;replace hS:=((hS.fact br (dc.dn hLv)).fS (aC.dn Q)).fS (aC.dn S);unfold jT at hM;refine am hS fun a hS=>?_;refine kb hS fun c Z a w hk hS=>?_;refine am hS fun a hS=>?_;refine ay ?_;refine jg ?_;refine am hS fun a hS=>?_;rcases cd hM with⟨u,hM⟩|⟨u,hM⟩
 ·exact fz
 refine am hS fun a hS=>?_;rcases cd hM with⟨x,hM⟩|⟨x,hM⟩
 ·exact fz
 refine am hS fun a hS=>?_;rcases cd hM with⟨k,hM⟩|⟨k,hM⟩
 ·exact fz
 refine am hS fun a hS=>?_;obtain⟨a5,q,hM⟩:=bd hM;refine wg hS rfl rfl rfl k (bz hS Lf rfl rfl (tC _ _ hS.dlt (hS.get 2 rfl) b.Records _ (hS.get 0 rfl) _ q) fun _ w hR a hk hA=>?_);obtain rfl:=hR;have hS:=ce hA;refine am hS fun a hS=>?_;rcases cd hM with⟨z,hM⟩|⟨z,hM⟩
 ·exact fz
 refine am hS fun a hS=>?_;refine aK (J:=fun a w=>St W0 No T 78 [(1,pt c 0)] [.box c (a6 b e f) 25] [aL ab e b.Inputs,aL aa f b.Records,br] a w∧f8 b=some y) ?_ ?_
 ·skip;refine am hS fun a hS=>?_;obtain⟨r1,P,hMo1⟩:=bd hM;refine bx _ (fun s a w=>∃ (d:Int),d=s∧St W0 No T 78 [(1,pt c 0),(26,e),(27,al (b.Inputs.length:Int)),(28,al d)] [.box c (a6 b e f) 25] [aL ab e b.Inputs,aL aa f b.Records,br] a w) P ⟨_,rfl,hS.mt [0] [1,0,2]⟩ ?_;rintro s a w O ⟨d,rfl,hS⟩ hM hf1;have hM:f9 b d=some O:=hM;unfold f9 at hM;refine am hS fun a hS=>?_;refine ay ?_;rcases cd hM with⟨A,hM⟩|⟨A,hM⟩
  ·refine am hS fun a hS=>?_;refine ay ?_;refine am hS fun a hS=>?_;obtain⟨j,l,hM⟩:=bd hM;refine wl rfl (bu (R:=ab) hS Ba Bg rfl rfl 0 rfl l rfl fun V a1 X B a hS=>?_);obtain rfl:=B;refine am hS fun a hS=>?_;refine ka hS xL fun W a0 a w hk hS=>?_;refine go hS fun a w hS=>?_;refine aK (J:=fun a w=>∃ (g:Bool),St W0 No T 78 [(1,pt c 0),(26,e),(27,al (b.Inputs.length:Int)),(28,al d),(71,.bool g)] [.box c (a6 b e f) 25] [aL ab e b.Inputs,aL aa f b.Records,br] a w∧bT d g=some O) ?_ ?_
   ·skip;refine dr [] hS fun w hQ hS=>?_;refine gE [0,1] hS fun a hS=>?_;obtain⟨a3,o,hM⟩:=bd hM;refine ec 2 hS Lg (vf _ _ hS.dlt (hS.get 3 rfl) j.Key _ o) fun _ w hR a hk hA=>?_;obtain rfl:=hR;have hS:=ce hA;refine gE [3,4] hS fun a hS=>?_;rcases cd hM with⟨C,hM⟩|⟨C,hM⟩
    ·refine gE [5,6,7,8,9,10,11,12,13,14,15,16,17,18,19,20,21,22,23,24,25,26,27,28,29,30,31,32,33,34,35,36,37,38] hS fun a hS=>?_;refine eD ?_;exact⟨_,hS.mt [1] [1,2,3],hM⟩
    refine gE [5,6,7] hS fun a hS=>?_;rcases cd hM with⟨h,hM⟩|⟨h,hM⟩
    ·refine gE [8,9,10,11] hS fun a hS=>?_;obtain⟨t,m,hM⟩:=bd hM;obtain⟨r,M,Y,D,E,hS⟩:=m6 (R:=ab) hS Ba Bg 1 rfl m;obtain rfl:=D;refine wO 12 (v:=pt r M) rfl (by kernel_rfl) (by kernel_rfl) (by kernel_rfl) rfl hQ hS (E rfl rfl) rfl rfl rfl h rfl rfl fun a hS=>?_;refine gE [13,14,15,16] hS fun a hS=>?_;obtain⟨a4,p,hM⟩:=bd hM;refine cS (i:=17) rfl (by kernel_rfl) hS rfl rfl rfl h (bz hS H4 rfl rfl (uX _ _ hS.dlt (hS.get 4 rfl) t.Key j.Key _ p) fun _ w hR a hk hA=>⟨fA (hk),?_⟩);obtain rfl:=hR;have hS:=ce hA;refine gE [18,19,20,21] hS fun a hS=>?_;rcases cd hM with⟨F,hM⟩|⟨F,hM⟩
     ·refine gE [22,23,24,25,26,27,28,29,30,31,32,33,34,35,36,37,38] hS fun a hS=>?_;refine eD ?_;exact⟨_,hS.mt [1] [2,3,4],hM⟩
     refine gE [22,23,24,25,26,27] hS fun a hS=>?_;rcases cd hM with⟨G,hM⟩|⟨G,hM⟩
     ·refine gE [28,29,30,31,32,33,34,35,36,37,38] hS fun a hS=>?_;refine eD ?_;exact⟨_,hS.mt [1] [2,3,4],hM⟩
     refine gE [28,29,30,31,32] hS fun a hS=>?_;rcases cd hM with⟨H,hM⟩|⟨H,hM⟩
     ·refine gE [33,34,35,36,37,38] hS fun a hS=>?_;refine eD ?_;exact⟨_,hS.mt [1] [2,3,4],hM⟩
     refine gE [33,34,35,36,37,38] hS fun a hS=>?_;refine eD ?_;exact⟨_,hS.mt [1] [2,3,4],hM⟩
    refine gE [8,9,10,11,12,13,14,15,16,17,18,19,20,21,22,23,24,25,26,27] hS fun a hS=>?_;rcases cd hM with⟨I,hM⟩|⟨I,hM⟩
    ·refine gE [28,29,30,31,32,33,34,35,36,37,38] hS fun a hS=>?_;refine eD ?_;exact⟨_,hS.mt [1] [1,2,3],hM⟩
    refine gE [28,29,30,31,32] hS fun a hS=>?_;rcases cd hM with⟨K,hM⟩|⟨K,hM⟩
    ·refine gE [33,34,35,36,37,38] hS fun a hS=>?_;refine eD ?_;exact⟨_,hS.mt [1] [1,2,3],hM⟩
    refine gE [33,34,35,36,37,38] hS fun a hS=>?_;refine eD ?_;exact⟨_,hS.mt [1] [1,2,3],hM⟩
   rintro a w ⟨g,hS,hM⟩;unfold bT at hM;exact fz
  exact fz
 rintro a w ⟨hS,hM⟩;unfold f8 at hM;refine am hS fun a hS=>?_;replace hS:=hS.freezeBox 0 rfl;refine qy hS (xz (vs:=[pt c 0]) hS rfl) fun a hS=>?_;obtain⟨a2,n,hM⟩:=bd hM;refine kc hS Lh (hO _ _ hS.dlt (hS.get 3 rfl) 75 Li [pt c 0] (D4 (ji c 0 (a6 b e f)) (D4 (aL ab e b.Inputs) (D4 (aL aa f b.Records) Aa))) (fun N=>gV N b) (fun T W0 hT hLv hP N U L y hM=>tJ T W0 hT N b U e f c L hP.2.1 hP.2.2.1 hP.1 y hM) ⟨(hS.get 0 rfl),(hS.get 1 rfl),(hS.get 2 rfl),trivial⟩ b.Records _ (hS.get 2 rfl) _ n) fun _ w hR a hk hA=>?_;obtain rfl:=hR;have hS:=ce hA;exact fz
def cK (b:LI):Option LI:=gd (bL (([]:List aT).length+b.length)) <| some ((([]:List aT)++b))
theorem lu (T:Nat→Prop) (W0:World) (hT:TW T W0) (d:LI) (m:Value) (l:aC ab T W0 m d) (y:LI) (hM:cK d=some y):a7 aO No 76 [m] W0 (fun v w'=>∃ (k:Value) (iN:ba),v=k∧ge ab T W0 w' [aQ k iN] 75 k iN y):=by
 refine en Tryz.func76 Tryz.ntmps76 hT fun a hS=>?_;replace hS:=hS.fS (aC.dn l);unfold cK at hM;refine am hS fun a hS=>?_;refine ay ?_;refine am hS fun a hS=>?_;obtain⟨b,f,g,n⟩:=zP (R:=ab) hS Ba 0 rfl;refine wl rfl (ky (v:=.bool b) hS (g rfl) rfl rfl fun a hS=>?_);refine am hS fun a hS=>?_;rcases Ed (b) with c | c
 ·rw [f c] at hM;have hM:some ([])=some y:=hM;refine am hS fun a hS=>?_;cases hM
  refine aG hS rfl (aw hS rfl aF) ?_;exact⟨.slice none 0 0,[],rfl,qX _ _ _ _ _ _⟩
 refine am hS fun a hS=>?_;refine wl rfl (uW ab hS zh rfl fun o a w hk hS=>?_);refine am hS fun a hS=>?_;obtain⟨h,hM⟩:=bm hM;refine wl rfl (bB (R:=ab) (xs:=([]:List aT)) (ys:=d) hS zh (by decide) (by decide) rfl rfl 0 rfl 0 rfl 1 rfl h rfl fun j e a w hk hS=>?_);refine am hS fun a hS=>?_;cases hM
 refine aG hS rfl (aw hS rfl aF) ?_;exact⟨j,e,rfl,hS.retOwn ⟨.inr (aH (i:=0) rfl),trivial⟩ 0 rfl 0 rfl⟩
def jY (b:LR):Option LR:=gd (bL (([]:List ad).length+b.length)) <| some ((([]:List ad)++b))
theorem rO (T:Nat→Prop) (W0:World) (hT:TW T W0) (d:LR) (m:Value) (l:aC aa T W0 m d) (y:LR) (hM:jY d=some y):a7 aO No 40 [m] W0 (fun v w'=>∃ (k:Value) (iN:ba),v=k∧ge aa T W0 w' [ah k iN] 33 k iN y):=by
 refine en Tryz.func40 Tryz.ntmps40 hT fun a hS=>?_;replace hS:=hS.fS (aC.dn l);unfold jY at hM;refine am hS fun a hS=>?_;refine ay ?_;refine am hS fun a hS=>?_;obtain⟨b,f,g,n⟩:=zP (R:=aa) hS dW 0 rfl;refine wl rfl (ky (v:=.bool b) hS (g rfl) rfl rfl fun a hS=>?_);refine am hS fun a hS=>?_;rcases Ed (b) with c | c
 ·rw [f c] at hM;have hM:some ([])=some y:=hM;refine am hS fun a hS=>?_;cases hM
  refine aG hS rfl (aw hS rfl aF) ?_;exact⟨.slice none 0 0,[],rfl,qX _ _ _ _ _ _⟩
 refine am hS fun a hS=>?_;refine wl rfl (uW aa hS pp rfl fun o a w hk hS=>?_);refine am hS fun a hS=>?_;obtain⟨h,hM⟩:=bm hM;refine wl rfl (bB (R:=aa) (xs:=([]:List ad)) (ys:=d) hS pp (by decide) (by decide) rfl rfl 0 rfl 0 rfl 1 rfl h rfl fun j e a w hk hS=>?_);refine am hS fun a hS=>?_;cases hM
 refine aG hS rfl (aw hS rfl aF) ?_;exact⟨j,e,rfl,hS.retOwn ⟨.inr (aH (i:=0) rfl),trivial⟩ 0 rfl 0 rfl⟩
def p9 (b:LK):Option LK:=gd (bL (([]:List ae).length+b.length)) <| some ((([]:List ae)++b))
theorem Ah (T:Nat→Prop) (W0:World) (hT:TW T W0) (d:LK) (m:Value) (l:aC ac T W0 m d) (y:LK) (hM:p9 d=some y):a7 aO No 107 [m] W0 (fun v w'=>∃ (k:Value) (iN:ba),v=k∧ge ac T W0 w' [ax k iN] 31 k iN y):=by
 refine en Tryz.func107 Tryz.ntmps107 hT fun a hS=>?_;replace hS:=hS.fS (aC.dn l);unfold p9 at hM;refine am hS fun a hS=>?_;refine ay ?_;refine am hS fun a hS=>?_;obtain⟨b,f,g,n⟩:=zP (R:=ac) hS mz 0 rfl;refine wl rfl (ky (v:=.bool b) hS (g rfl) rfl rfl fun a hS=>?_);refine am hS fun a hS=>?_;rcases Ed (b) with c | c
 ·rw [f c] at hM;have hM:some ([])=some y:=hM;refine am hS fun a hS=>?_;cases hM
  refine aG hS rfl (aw hS rfl aF) ?_;exact⟨.slice none 0 0,[],rfl,qX _ _ _ _ _ _⟩
 refine am hS fun a hS=>?_;refine wl rfl (uW ac hS gh rfl fun o a w hk hS=>?_);refine am hS fun a hS=>?_;obtain⟨h,hM⟩:=bm hM;refine wl rfl (bB (R:=ac) (xs:=([]:List ae)) (ys:=d) hS gh (by decide) (by decide) rfl rfl 0 rfl 0 rfl 1 rfl h rfl fun j e a w hk hS=>?_);refine am hS fun a hS=>?_;cases hM
 refine aG hS rfl (aw hS rfl aF) ?_;exact⟨j,e,rfl,hS.retOwn ⟨.inr (aH (i:=0) rfl),trivial⟩ 0 rfl 0 rfl⟩
def mM (b:ad):Option ad:=(p9 b.Reads).bind fun c=>some ((ad.mk b.Key b.Value c b.Changed b.Verified b.Cost b.Dirty))
theorem um (T:Nat→Prop) (W0:World) (hT:TW T W0) (b:ad) (j:Value) (h:aC ac T W0 j b.Reads) (y:ad) (hM:mM b=some y):a7 aO No 81 [.agg (aE b j).toArray] W0 (fun v w'=>∃ (g:Value) (iN:ba),v = .agg (aE y g).toArray∧ge ac T W0 w' [ax g iN] 31 g iN y.Reads):=by
 refine en Tryz.func81 Tryz.ntmps81 hT fun a hS=>?_;replace hS:=hS.fS (aC.dn h);unfold mM at hM;refine am hS fun a hS=>?_;refine kb hS fun k m a w hk hS=>?_;refine ka hS dD fun l n a w hk hS=>?_;refine am hS fun a hS=>?_;obtain⟨o,d,hM⟩:=bd hM;refine kc hS Jp (Ah _ _ hS.dlt b.Reads _ (hS.get 0 rfl) _ d) fun _ w hR a hk hA=>?_;obtain⟨f,e,he,c⟩:=hR;obtain rfl:=he.symm;have hS:=pz hA c;refine go hS fun a w hS=>?_;cases hM
 refine aG hS rfl (rC 1 hS) ?_;exact⟨f,e,rfl,hS.retOwn ⟨.inr (aH (i:=0) rfl),trivial⟩ 0 rfl 0 rfl⟩
def o6 (b:LR):Option LR:=some (b)
def jv (e:LR) (c:LR) (b:Int):Option (Fl (LR×Int) (LR)):=cond (decide (b<(e.length:Int))) ((bk c b).bind fun d=>(mM d).bind fun f=>(bk c b).bind fun g=>some (.go ((c.set (Int.toNat b) f),IntKind.i64.wrap (b+1)))) (some (.out c))
def lA (c:LR):Option LR:=(jY c).bind fun b=>(loop (fun s:LR×Int=>jv b s.1 s.2) (b,0)).bind fun r=>o6 r
theorem s8 (T:Nat→Prop) (W0:World) (hT:TW T W0) (o:LR) (P:Value) (O:aC aa T W0 P o) (y:LR) (hM:lA o=some y):a7 aO No 77 [P] W0 (fun v w'=>∃ (M:Value) (iN:ba),v=M∧ge aa T W0 w' [ah M iN] 33 M iN y):=by
 refine en Tryz.func77 Tryz.ntmps77 hT fun a hS=>?_;replace hS:=hS.fS (aC.dn O);unfold lA at hM;refine am hS fun a hS=>?_;obtain⟨p,t,hM⟩:=bd hM;refine kc hS JN (rO _ _ hS.dlt o _ (hS.get 0 rfl) _ t) fun _ w hR a hk hA=>?_;obtain⟨b,V,he,m⟩:=hR;obtain rfl:=he.symm;have hS:=pz hA m;refine am hS fun a hS=>?_;refine aK (J:=fun a w=>∃ (g:LR) (c:LV),St W0 No T 22 [(3,b)] [ah b c] [an aa c g] a w∧o6 g=some y) ?_ ?_
 ·skip;refine am hS fun a hS=>?_;obtain⟨r1,N,hMo1⟩:=bd hM;refine bx _ (fun s a w=>∃ (e:LR) (d:Int) (f:LV),(e,d)=s∧St W0 No T 22 [(3,b),(8,b),(9,al (p.length:Int)),(10,al d)] [ah b f] [an aa f e] a w) N ⟨_,_,_,rfl,hS.mt [0] [0]⟩ ?_;rintro s a w f1 ⟨e,d,f,rfl,hS⟩ hM hf1;have hM:jv p e d=some f1:=hM;unfold jv at hM;refine am hS fun a hS=>?_;refine ay ?_;rcases cd hM with⟨B,hM⟩|⟨B,hM⟩
  ·refine am hS fun a hS=>?_;refine ay ?_;refine am hS fun a hS=>?_;obtain⟨l,r,hM⟩:=bd hM;refine wl rfl (c7 (R:=aa) hS dW bX rfl rfl 0 rfl 0 rfl r rfl fun Q a2 a4 W C D E a hS=>?_);obtain⟨I,rfl,x⟩:=C;replace hS:=hS.fS x;refine qy hS (bq (k:=0) hS bX 0 rfl D E rfl id (us:=(aE l I)) rfl rfl (fun h=>by cases h)) fun a hS=>?_;refine ka hS dD fun S a1 a w hk hS=>?_;refine go hS fun a w hS=>?_;obtain⟨q,u,hM⟩:=bd hM;refine kc hS JT (um _ _ hS.dlt l _ (hS.get 0 rfl) _ u) fun _ w hR a hk hA=>?_;obtain⟨K,X,he,n⟩:=hR;obtain rfl:=he.symm;have hS:=pz hA n;obtain⟨A,j,hM⟩:=bd hM;refine wl rfl (c7 (R:=aa) hS dW bX rfl rfl 2 rfl 2 rfl j rfl fun U a3 a5 Y F G H a hS=>?_);obtain⟨L,rfl,z⟩:=F;replace hS:=(hS.fS z).freeze (R:=ac) 0 rfl 1 rfl;refine wl rfl (fT (R:=aa) (k:=0) (cs:=(aE A L)) (us:=(aE q K)) (x':=q) hS rfl rfl rfl bX 1 rfl 4 rfl G H j (⟨_,rfl,(hS.get 1 rfl)⟩) rfl rfl (⟨_,rfl,(hS.get 0 rfl)⟩) fun Z w hk hS=>?_);exact fz
  exact fz
 rintro a w ⟨g,c,hS,hM⟩;unfold o6 at hM;refine am hS fun a hS=>?_;cases hM
 refine aG hS rfl (aw hS rfl aF) ?_;exact⟨b,c,rfl,hS.retOwn ⟨.inr (aH (i:=0) rfl),trivial⟩ 0 rfl 0 rfl⟩
def kS (b:ai):Option ai:=(cK b.Inputs).bind fun c=>(lA b.Records).bind fun d=>some ((ai.mk b.Revision c d))
theorem wb (T:Nat→Prop) (W0:World) (hT:TW T W0) (b:ai) (r:Value) (s:Value) (p:aC ab T W0 r b.Inputs) (q:aC aa T W0 s b.Records) (y:ai) (hM:kS b=some y):a7 aO No 48 [.agg (a6 b r s).toArray] W0 (fun v w'=>∃ (f:Value) (uQ:ba) (g:Value) (wi:ba),v = .agg (a6 y f g).toArray∧ge ab T W0 w' [aQ f uQ,ah g wi] 75 f uQ y.Inputs∧ge aa T W0 w' [aQ f uQ,ah g wi] 33 g wi y.Records∧(∀ k,f.ownBlock=some k→g.ownBlock≠some k)):=by
 refine en Tryz.func48 Tryz.ntmps48 hT fun a hS=>?_;replace hS:=(hS.fS (aC.dn p)).fS (aC.dn q);unfold kS at hM;refine am hS fun a hS=>?_;refine kb hS fun c u a w hk hS=>?_;refine ka hS lx fun t x a w hk hS=>?_;refine am hS fun a hS=>?_;refine ay ?_;refine dr [(7,.blk (some c)),(9,.blk (some c))] hS fun w hQ hS=>?_;refine gE [0,1,3,4] hS fun a hS=>?_;obtain⟨z,h,hM⟩:=bd hM;refine ec 2 hS Lj (lu _ _ hS.dlt b.Inputs _ (hS.get 1 rfl) _ h) fun _ w hR a hk hA=>?_;obtain⟨n,l,he,d⟩:=hR;obtain rfl:=he.symm;have hS:=pz hA d;refine gE [6] hS fun a hS=>?_;obtain⟨A,j,hM⟩:=bd hM;refine ec 5 hS JS (s8 _ _ hS.dlt b.Records _ (hS.get 1 rfl) _ j) fun _ w hR a hk hA=>?_;obtain⟨o,m,he,e⟩:=hR;obtain rfl:=he.symm;have hS:=pz hA e;refine es 7 hS fun w hS=>?_;refine gE [8] hS fun a hS=>?_;refine es 9 hS fun w hS=>?_;refine eD ?_;refine go hS fun a w hS=>?_;cases hM
 refine aG hS rfl (rC 2 hS) ?_;exact⟨n,l,o,m,rfl,hS.retOwn ⟨.inr (aH (i:=1) rfl),⟨.inr (aH (i:=0) rfl),trivial⟩⟩ 1 rfl 1 rfl,hS.retOwn ⟨.inr (aH (i:=1) rfl),⟨.inr (aH (i:=0) rfl),trivial⟩⟩ 0 rfl 0 rfl,(hS.apart2 1 rfl 0 rfl (by decide))⟩
end
end
section
open Go.RowKit
open Go.Lib hiding intOf
theorem jr (n:Nat):itoa (n:Int)=decDigits n:=by
 unfold itoa
 first | rw [if_neg (by omega)]; simp | simp
noncomputable def cJ (n:Nat):ae:=⟨30,bU n⟩
theorem qf {n:Nat} (h:n<1000000000):vF n=some (bU n):=by
 unfold vF IF;rw [show (decide (-9223372036854775808≤(n:Int))&&decide ((n:Int)≤9223372036854775807))=true by simp; omega];rfl
theorem tD {n:Nat} (h:n<100):lp n=some (cJ n):=by
 unfold lp;rw [show decide ((n:Int)<0)=false by simp,show decide ((99:Int)<(n:Int))=false by simp; omega];simp [cond,qf (show n<1000000000 by omega),cJ]
theorem BG {n:Nat} (h:n<1000):wC (bU n)=some ((n:Int),false):=by
 unfold wC;have hl:(bU n).toList=decDigits n:=by rw [qI,jr]
 have hs:(bU n).size≤140737488355328:=by
  have h1:(bU n).size=(itoa n).length:=by simp [bU,ByteArray.size]
  have:=tZ n 3 (by omega);rw [h1,jr]; omega
 rw [show Nat.ble (bU n).size 140737488355328=true from Nat.ble_eq_true_of_le hs,hl,Ad (by omega)];rfl
theorem EL {n:Nat} (h:n<100):fF (cJ n)=some true:=by
 have h1:m9 30=some true:=by unfold m9; rfl
 have h2:li (cJ n)=some n:=by
  unfold li cJ;rw [h1];simp only [aD,BG (show n<1000 by omega),qf (show n<1000000000 by omega)];rw [show decide ((n:Int)<0)=false by simp,show decide ((99:Int)<(n:Int))=false by simp; omega];simp
 unfold fF;rw [show (cJ n).Kind=30 from rfl,h1,h2];simp
theorem ET (n:Int) {m:Nat} (hm:0<m) (hm2:m≤1000000000):∃ r:Nat,r<m∧oZ n m=some (r:Int):=by
 have h1:=vp n (b:=(m:Int)) (by omega);have h2 : -(m:Int)<Int.tmod n m:=by
  rcases (show n<0∨0≤n by omega) with h | h
  ·have:=vp (-n) (b:=(m:Int)) (by omega);rw [Int.neg_tmod] at this;omega
  ·have:=vq (m:Int) h;omega
 refine⟨(Int.tmod (Int.tmod n m+m) m).toNat,?_,?_⟩
 ·have h3:=vp (Int.tmod n m+m) (b:=(m:Int)) (by omega);have h4:=vq (a:=Int.tmod n m+m) (m:Int) (by omega);omega
 ·unfold oZ;have h4:=vq (a:=Int.tmod n m+m) (m:Int) (by omega);rw [show decide ((m:Int)<1)=false by simp; omega,show ((m:Int) != 0)=true by simp; omega,oA (by omega) (by omega),Int.toNat_of_nonneg h4];rfl
theorem Dd {n:Nat} (h:n<1000000000):wC (bU n)=some ((n:Int),false):=by
 unfold wC;have hl:(bU n).toList=decDigits n:=by rw [qI,jr]
 have hs:(bU n).size≤140737488355328:=by
  have h1:(bU n).size=(itoa n).length:=by simp [bU,ByteArray.size]
  have:=tZ n 9 (by omega);rw [h1,jr]; omega
 rw [show Nat.ble (bU n).size 140737488355328=true from Nat.ble_eq_true_of_le hs,hl,Ad (by omega)];rfl
theorem DE {k:Int} {n:Nat} (hk:k=30∨k=31∨k=32) (h:n<100):li ⟨k,bU n⟩=some n:=by
 have h1:m9 k=some true:=by rcases hk with rfl | rfl | rfl <;> (unfold m9; rfl)
 unfold li;rw [h1];simp only [aD,Dd (show n<1000000000 by omega),qf (show n<1000000000 by omega)];rw [show decide ((n:Int)<0)=false by simp,show decide ((99:Int)<(n:Int))=false by simp; omega];simp
theorem FF {k:Int} {n:Nat} (hk:k=30∨k=31∨k=32) (h:n<100):fF ⟨k,bU n⟩=some true:=by
 have h1:m9 k=some true:=by rcases hk with rfl | rfl | rfl <;> (unfold m9; rfl)
 unfold fF;rw [h1,DE hk h];simp
noncomputable def CN (r:aI) (n:Nat):ae:=⟨if r.Ring then 32 else 31,bU n⟩
theorem DK {l:List aI} {n:Nat} (h:n<l.length) (h100:n<100):jx l n=some (CN l[n] n):=by
 unfold jx;rw [show decide ((n:Int)<0)=false by simp,show decide (((l.length:Int):Int)≤(n:Int))=false by simp; omega,show decide ((99:Int)<(n:Int))=false by simp; omega,bE h,qf (by omega)];simp only [aD,cond_false];unfold nK CN;cases l[n].Ring <;> simp
theorem DP (s:ByteArray):s.toList.length=s.size:=by rw [ByteArray.toList_eq]; rfl
theorem Ds (c:UInt8) (r:List UInt8) (n:Nat):bZ (c::r) n=if (decide (48≤c.toNat)&&decide (c.toNat≤57))=true then bZ r (10*n+(c.toNat-48)) else -1:=rfl
theorem EV:bW.toList=[]:=by rw [ByteArray.toList_eq]
theorem Ev (s:ByteArray):iU s=some (sS s.toList):=by
 have hsz:=DP s;have j3t:cG s true=some (-1):=by unfold cG; rfl
 have j3f:s.size≤9→cG s false=some (bZ s.toList 0):=fun h9=>by
  unfold cG;simp only [cond_false];have key:∃ r,loop (fun s_1:Int×Int=>eW s s_1.1 s_1.2) (0,0)=some r∧Fl.el r (fun s=>eV s) (fun y=>some y)=some (bZ s.toList 0):=?_
  ·obtain⟨r,h1,h2⟩:=key;rw [h1]; exact h2
  refine oC (fun k st=>∃ m:Nat,st=((m:Int),(k:Int))∧bZ (s.toList.drop k) m=bZ s.toList 0∧m<10 ^ k)
   (fun r=>Fl.el r (fun s=>eV s) (fun y=>some y)=some (bZ s.toList 0)) s.size (fun k st hk hI=>?_) (fun st hI=>?_) ⟨0,rfl,rfl,by simp⟩
  ·obtain⟨m,rfl,e,hm⟩:=hI;have hk':k<s.toList.length:=by omega
   rw [Ce hk'] at e;unfold eW;rw [show decide ((k:Int)<(s.size:Int))=true by simpa using hk,bE hk'];simp only [cond_true,aD];have hp:(10:Nat) ^ k≤10 ^ 8:=zS (by omega) (by omega);have hq:(10:Nat) ^ 8=100000000:=rfl;have hu:=(s.toList[k]).toNat_lt;rw [Ds] at e;by_cases h48:((s.toList[k]).toNat:Int)<48
   ·rw [show decide (((s.toList[k]).toNat:Int)<48)=true by simpa using h48];rw [if_neg (by simp; omega)] at e;exact .inr ⟨_,rfl,by rw [← e]; rfl⟩
   ·rw [show decide (((s.toList[k]).toNat:Int)<48)=false by simpa using h48];by_cases h57:(57:Int)<((s.toList[k]).toNat:Int)
    ·rw [show decide ((57:Int)<((s.toList[k]).toNat:Int))=true by simpa using h57];rw [if_neg (by simp; omega)] at e;exact .inr ⟨_,rfl,by rw [← e]; rfl⟩
    ·rw [show decide ((57:Int)<((s.toList[k]).toNat:Int))=false by simpa using h57];rw [if_pos (by simp; omega)] at e;simp only [cond_false];have hw:IntKind.u8.wrap (((s.toList[k]).toNat:Int)-48)=(((s.toList[k]).toNat-48:Nat):Int):=by rw [IntKind.wrap_u8]; omega
     rw [hw,show IntKind.i64.wrap (10*(m:Int))=((10*m:Nat):Int) from (oA (by omega) (by omega)).trans (by omega),show IntKind.i64.wrap (((s.toList[k]).toNat-48:Nat):Int)=(((s.toList[k]).toNat-48:Nat):Int) from oA (by omega) (by omega),
      oA (by omega) (by omega),oA (by omega) (by omega)]
     exact .inl ⟨_,rfl,10*m+((s.toList[k]).toNat-48),by simp,e,by rw [Nat.pow_succ]; omega⟩
  ·obtain⟨m,rfl,e,hm⟩:=hI;rw [← hsz,C0] at e;unfold eW;rw [show decide ((s.size:Int)<(s.size:Int))=false by simp];exact⟨_,rfl,by simp only [Fl.el,eV]; rw [← e]; rfl⟩
 unfold iU sS;have hz:(s.toList==bW.toList)=decide (s.toList=[]):=by rw [EV]; cases s.toList <;> rfl
 rw [hz];by_cases h0:s.toList=[]
 ·rw [if_pos (.inl h0),decide_eq_true h0]; exact j3t
 ·rw [decide_eq_false h0];simp only [cond_false];by_cases h9:9<s.toList.length
  ·rw [if_pos (.inr (.inl h9)),show decide ((9:Int)<(s.size:Int))=true by simp; omega]; exact j3t
  ·rw [show decide ((9:Int)<(s.size:Int))=false by simp; omega];have hl:0<s.toList.length:=List.length_pos_iff.2 h0;have h1:bk s.toList (0:Int)=some (s.toList.getD 0 0):=by
    have:=bE hl;simp only [Int.natCast_zero] at this;rw [this,FQ,bC hl]; rfl
   rw [h1];simp only [cond_false,aD];by_cases h48:s.toList.getD 0 0=48
   ·rw [h48,show (((48:UInt8).toNat:Int)==48)=true from rfl];simp only [cond_true,true_and];have hq:(!(s.toList==(ByteArray.mk #[48]).toList))=decide (s.toList≠[48]):=by rw [show (ByteArray.mk #[48]).toList=[48] from by rw [ByteArray.toList_eq]]; by_cases h:s.toList=[48] <;> simp [h]
    rw [hq];by_cases h:s.toList=[48]
    ·rw [decide_eq_false (fun h2=>h2 h),j3f (by omega),if_neg (by rintro (h2 | h2 | h2); exact h0 h2; exact h9 h2; exact h2 h)]
    ·rw [decide_eq_true h,if_pos (.inr (.inr h))]; exact j3t
   ·have h48':((s.toList.getD 0 0).toNat:Int)≠48:=fun h=>h48 (UInt8.toNat_inj.1 (by have:(48:UInt8).toNat=48:=rfl; omega));rw [show (((s.toList.getD 0 0).toNat:Int)==48)=false by simpa using h48'];simp only [cond_false];rw [j3f (by omega),if_neg (by rintro (h2 | h2 | h2); exact h0 h2; exact h9 h2; exact h48 h2.1)]
def AW (k:ae):Int:=if 30≤k.Kind∧k.Kind≤32 then GU 99 k.Text.toList else -1
theorem ph (k:ae):fW k=some (AW k):=by
 unfold fW AW GU;rw [Ev];simp only [aD];unfold fH;have:=Gd k.Text.toList;by_cases h1:30≤k.Kind <;> by_cases h2:k.Kind≤32 <;> by_cases h3:sS k.Text.toList≤99 <;> simp [h1,h2,h3]
end
section
open Go.RowKit
open Go.Lib hiding intOf
section
variable {σ ρ α:Type} {B:σ→Option (Fl σ ρ)}
theorem wr (st:Nat→σ) (m:Nat) {s0:σ} (h0:s0=st 0) {r:ρ} (hgo:∀ k,k<m→B (st k)=some (.go (st (k+1)))) (hout:B (st m)=some (.out r)):loop B s0=some r:=by
 subst h0;exact wo (fun k s=>s=st k) r m (fun k s hk hs=>.inl ⟨st (k+1),by rw [hs]; exact hgo k hk,rfl⟩) (fun s hs=>by rw [hs]; exact hout) rfl
theorem lj {xs:List α} (p:α→Bool) (st:Nat→σ) {s0:σ} (h0:s0=st 0) {y:Nat→α→ρ} {n:ρ} (hgo:∀ k x,xs[k]? = some x→p x=false→B (st k)=some (.go (st (k+1))))
  (hy:∀ k x,xs[k]? = some x→p x=true→B (st k)=some (.out (y k x))) (hn:B (st xs.length)=some (.out n)) :
  (∃ k x,xs[k]? = some x∧p x=true∧(∀ j z,j<k→xs[j]? = some z→p z=false)∧loop B s0=some (y k x))∨(∀ z∈xs,p z=false)∧loop B s0=some n:=by
 by_cases h:xs.findIdx p<xs.length
 ·have e:=bC h;have hp:=List.findIdx_getElem (w:=h);have hb:∀ j z,j<xs.findIdx p→xs[j]? = some z→p z=false:=fun j z hj hz=>by
   have:=List.not_of_lt_findIdx hj;obtain⟨h1,h2⟩:=bD.1 hz;rw [h2] at this; simpa using this
  refine .inl ⟨_,_,e,hp,hb,wr st _ h0 (fun k hk=>?_) (hy _ _ e hp)⟩;have hk2:k<xs.length:=by omega
  exact hgo k _ (bC hk2) (hb k _ hk (bC hk2))
 ·have hb:∀ j z,xs[j]? = some z→p z=false:=fun j z hz=>by
   obtain⟨h1,h2⟩:=bD.1 hz;have:=List.not_of_lt_findIdx (p:=p) (xs:=xs) (i:=j) (by omega);rw [h2] at this; simpa using this
  refine .inr ⟨fun z hz=>?_,wr st xs.length h0 (fun k hk=>hgo k _ (bC hk) (hb k _ (bC hk))) hn⟩;obtain⟨i,hi⟩:=gZ.1 hz;exact hb i z hi
theorem w6 {xs:List α} (p:α→Bool) (st:Nat→σ) {s0:σ} (h0:s0=st 0) {y n:ρ} (hgo:∀ k x,xs[k]? = some x→p x=false→B (st k)=some (.go (st (k+1))))
  (hy:∀ k x,xs[k]? = some x→p x=true→B (st k)=some (.out y)) (hn:B (st xs.length)=some (.out n)):loop B s0=some (if xs.any p then y else n):=by
 rcases lj p st h0 (y:=fun _ _=>y) hgo hy hn with⟨k,x,h1,h2,_,h3⟩|⟨h1,h2⟩
 ·rw [if_pos (rx.2 ⟨x,aH h1,h2⟩)]; exact h3
 ·rw [if_neg (fun h=>by obtain⟨x,hx,e⟩:=rx.1 h; rw [h1 x hx] at e; cases e)]; exact h2
theorem d7 {xs:List α} (st:Nat→σ) {s0:σ} (h0:s0=st 0) {r:ρ} (hgo:∀ k x,xs[k]? = some x→B (st k)=some (.go (st (k+1)))) (hout:B (st xs.length)=some (.out r)):loop B s0=some r :=
 wr st xs.length h0 (fun k hk=>hgo k _ (bC hk)) hout
theorem fo {β γ:Type} {m:Option β} {v:β} {f:β→Option γ} {y:Option γ} (h:m=some v) (k:f v=y):m.bind f=y:=by subst h; exact k
end
theorem bf {α:Type} (xs:List α) (k:Nat):bk xs (k:Int)=xs[k]?:=by simp [bk]
theorem dlt {k n:Nat} (h:k<n):decide ((k:Int)<(n:Int))=true:=decide_eq_true (by omega)
theorem Ex {k n:Nat} (h:¬ k<n):decide ((k:Int)<(n:Int))=false:=decide_eq_false (by omega)
theorem fC {α:Type} {xs:List α} {k:Nat} {x:α} (h:xs[k]? = some x):decide ((k:Int)<(xs.length:Int))=true:=dlt (bD.1 h).1
theorem bS (n:Nat):decide ((n:Int)<(n:Int))=false:=Ex (Nat.lt_irrefl _)
theorem cR {k:Nat} (h:k≤9223372036854775806):IntKind.i64.wrap ((k:Int)+1)=((k+1:Nat):Int):=by rw [oA (by omega) (by omega)]; omega
theorem aW {α:Type} {xs:List α} {k:Nat} {x:α} (h:xs[k]? = some x):k<xs.length:=(bD.1 h).1
theorem bM {α:Type} {xs:List α} {k:Nat} {x:α} (h:xs[k]? = some x):xs.take (k+1)=xs.take k++[x]:=by
 rw [List.take_add_one,h]; rfl
theorem rB {α:Type} (p:α→Bool) (xs:List α) (k:Nat):((xs.take k).filter p).length≤xs.length :=
 cH (C1 _ _) (by rw [il]; omega)
theorem Fs {α:Type} {xs:List α} {k:Nat} {x:α} (h:xs[k]? = some x):xs.set k x=xs:=by
 obtain⟨h1,h2⟩:=bD.1 h;rw [← h2]; exact List.set_getElem_self h1
def Rm (n:Nat):Prop:=n≤1000000000
theorem uE {α:Type} {xs:List α} {a:Nat} (h:a≤xs.length):pm xs (a:Int) (xs.length:Int)=some (xs.drop a):=by
 rw [CO h (cM _),lJ]
theorem qt {α:Type} {xs:List α} {a:Nat} (h:a≤xs.length):pm xs 0 (a:Int)=some (xs.take a):=by
 have:=CO (xs:=xs) (ez a) h;rwa [List.drop_zero] at this
end
section
open Go.RowKit
open Go.Lib hiding intOf
structure bQ (l:List Int) (at_:Int):Prop where
 low:0≤at_
 high:at_≤l.length
 len:l.length≤400
theorem cU {l:List Int} {i:Int} (h:bQ l i) {n:Int} (h1:1≤n) (h2:n≤1000000000):Ok (bI ⟨l,i⟩ n) fun r=>0≤r.1∧r.1<n∧bQ r.2.L r.2.At:=by
 unfold bI;refine aB (fun h3=>aq ⟨by omega,by omega,h⟩) (fun h3=>?_);have h3:i<l.length:=by simpa using h3
 have:=h.low; have:=h.high; have:=h.len;dsimp only;rw [show IntKind.i64.wrap (i+1)=i+1 from oA (by omega) (by omega),oA (by omega) (by omega)];refine tW (by simpa using h.low) (by simpa using h3) fun v _ _=>?_;obtain⟨m,rfl⟩:∃ m:Nat,n=m:=⟨n.toNat,by omega⟩;obtain⟨r,hr,e⟩:=ET v (m:=m) (by omega) (by omega);exact aN e (aq ⟨by simp,by simp; omega,⟨by simp; omega,by simp; omega,h.len⟩⟩)
theorem G7 {l:List Int} {i:Int} (h:bQ l i) {ws:List ByteArray} (h1:1≤ws.length) (h2:ws.length≤1000):Ok (qc ⟨l,i⟩ ws) fun r=>r.1∈ws∧bQ r.2.L r.2.At:=by
 unfold qc;refine aJ (cU h (by omega) (by omega)) fun r hr=>tW hr.1 hr.2.1 fun v _ hv=>aq ⟨hv,hr.2.2⟩
end
section
open Go.RowKit
open Go.Lib hiding intOf
def ZZ (rs:List Bool):Nat→Nat
 | 0=>0
 | a+1=>if rs[a]? = some true then ZZ rs a else a+1
def Dt (rs:List Bool):Nat→Nat→Nat
 | 0,b=>b
 | f+1,b=>if rs[b]? = some true then Dt rs f (b+1) else b
theorem zx (rs:List Bool) (a:Nat):ZZ rs (a+1)=if rs[a]? = some true then ZZ rs a else a+1:=rfl
theorem AB (rs:List Bool) (f b:Nat):Dt rs (f+1) b=if rs[b]? = some true then Dt rs f (b+1) else b:=rfl
theorem yz (rs:List Bool):∀ a,ZZ rs a≤a
 | 0=>cM _
 | a+1=>by
  have:=yz rs a;unfold ZZ;split <;> omega
theorem EE (rs:List Bool):∀ f b,b≤Dt rs f b∧Dt rs f b≤b+f
 | 0,b=>⟨cM _,cM _⟩
 | f+1,b=>by
  have:=EE rs f (b+1);unfold Dt;split <;> omega
def blk (rs:List Bool) (n:Nat):Nat×Nat:=if rs[n]? = some true then (ZZ rs n,Dt rs (rs.length-(n+1)) (n+1)) else (n,n+1)
theorem Ec {rs:List Bool} {n:Nat} (h:n<rs.length):(blk rs n).1≤n∧n<(blk rs n).2∧(blk rs n).2≤rs.length:=by
 have h1:=yz rs n;have h2:=EE rs (rs.length-(n+1)) (n+1);unfold blk;split <;> simp only [] <;> omega
theorem uO {rs:List Bool} {n:Nat} (h:rs[n]? = some false):blk rs n=(n,n+1):=by simp [blk,h]
def aU (l:List aI):List Bool:=l.map (·.Ring)
theorem nV {l:List aI} {n:Nat} (h:n<l.length):(aU l)[n]? = some l[n].Ring:=by simp [aU,h]
theorem yG {l:List aI} {n:Nat} (h:n<l.length) (hl:l.length≤1000000):lC l n=some (((blk (aU l) n).1:Int),((blk (aU l) n).2:Int)):=by
 unfold lC;rw [show decide ((n:Int)<0)=false by simp,show decide (((l.length:Int):Int)≤(n:Int))=false by simp; omega];simp only [cond_false,aD];have hr:=nV h;cases hb:l[n].Ring with
 | false =>
  rw [hb] at hr;have h1:loop (fun s:Int=>ee l n s) (n:Int)=some (n:Int):=iA (by
   unfold ee; rw [bE h]; simp only [aD,hb,cond_false])
  have h2:loop (fun s:Int=>d9 l n s) ((n:Int)+1)=some ((n:Int)+1):=iA (by
   unfold d9; rw [bE h]; simp only [aD,hb,cond_false])
  rw [h1];unfold jA jz;rw [aD,oA (by omega) (by omega),h2,uO hr];rfl
 | true =>
  rw [hb] at hr;have h1:loop (fun s:Int=>ee l n s) (n:Int)=some ((ZZ (aU l) n:Nat):Int):=by
   refine wo (I:=fun k s=>∃ a:Nat,a+k=n∧s=(a:Int)∧ZZ (aU l) a=ZZ (aU l) n) _ n ?_ ?_ ⟨n,rfl,rfl,rfl⟩
   ·rintro k _ hk ⟨a,ha,rfl,e⟩;unfold ee;obtain⟨c,rfl⟩:∃ c,a=c+1:=⟨a-1,by omega⟩;have hc:c<l.length:=by omega
    rw [bE h,show decide ((0:Int)<((c+1:Nat):Int))=true by simp <;> omega,oA (by omega) (by omega),show (((c+1:Nat):Int)-1)=(c:Int) by omega,bE hc];simp only [cond_true,aD,hb];have hr2:=nV hc;rw [zx,hr2] at e;cases hb2:l[c].Ring with
    | true=>rw [hb2,if_pos rfl] at e; exact .inl ⟨_,rfl,c,by omega,rfl,e⟩
    | false=>rw [hb2,if_neg (by simp)] at e; right; rw [← e]; rfl
   ·rintro _ ⟨a,ha,rfl,e⟩;obtain rfl:a=0:=by omega
    unfold ee;rw [bE h,← e];simp only [aD,hb,cond_true];rfl
  have h2:loop (fun s:Int=>d9 l n s) ((n+1:Nat):Int)=some ((Dt (aU l) ((aU l).length-(n+1)) (n+1):Nat):Int):=by
   have hlen:(aU l).length=l.length:=by simp [aU]
   rw [hlen];refine wo (I:=fun k s=>∃ a:Nat,a=n+1+k∧a≤l.length∧s=(a:Int)∧Dt (aU l) (l.length-a) a=Dt (aU l) (l.length-(n+1)) (n+1)) _ (l.length-(n+1)) ?_ ?_ ⟨n+1,rfl,h,rfl,rfl⟩
   ·rintro k _ hk ⟨a,ha,hal,rfl,e⟩;unfold d9;have hc:a<l.length:=by omega
    rw [bE h,show decide ((a:Int)<(l.length:Int))=true by simp; omega,bE hc,oA (by omega) (by omega)];simp only [cond_true,aD,hb];have hr2:=nV hc;rw [show l.length-a=(l.length-(a+1))+1 by omega] at e;rw [AB,hr2] at e;cases hb2:l[a].Ring with
    | true=>rw [hb2,if_pos rfl] at e; exact .inl ⟨_,rfl,a+1,by omega,by omega,by simp,e⟩
    | false=>rw [hb2,if_neg (by simp)] at e; right; rw [← e]; rfl
   ·rintro _ ⟨a,ha,hal,rfl,e⟩;obtain rfl:a=l.length:=by omega
    unfold d9;rw [yU] at e;rw [bE h,← e];simp [Dt,hb]
  rw [h1];simp only [aD];unfold jA jz;rw [oA (by omega) (by omega),show ((n:Int)+1)=((n+1:Nat):Int) by omega,h2];simp [blk,hr]
structure zY (ring:Bool) (k:Nat) (b:Int) (a:cD):Prop where
 low:0≤a.N
 cell:a.Cell=true→a.N<4
 rule:a.Cell=false→a.N<b
 pick:a.Pick=true→ring=false∧0<k
 low2:0≤a.Else
 cell2:a.Cell=true→a.Else<4
 rule2:a.Cell=false→a.Else<b
 none:a.Pick=false→a.Else=0
structure BD (b:Int) (r:aI):Prop where
 asks:r.Asks.length≤3
 each:∀ k a,r.Asks[k]? = some a→zY r.Ring k b a
 ring:r.Ring=true→r.Final=5∧0≤r.C∧r.C≤16
 plain:r.Ring=false→1≤r.Final∧r.Final≤4∧0≤r.C∧r.C≤5
def xX (rs:List Bool) (i:Nat):Nat:=if rs[i]? = some true then (blk rs i).2 else i
structure a8 (l:List aI):Prop where
 low:2≤l.length
 high:l.length≤8
 each:∀ i r,l[i]? = some r→BD (xX (aU l) i) r
def By (ring:Bool) (b k:Int) (ks:List cD):Fl (Int×List Int×Int×List cD) (List Int×Int×List cD)→Prop
 | .go s=>s.1=k-1∧bQ s.2.1 s.2.2.1∧∃ a,zY ring ks.length b a∧s.2.2.2=ks++[a]
 | .out _=>False
section
variable {ring:Bool} {b k:Int} {ks:List cD} {cell:Bool} {most n:Int} {l:List Int} {i:Int}
theorem Kf {pick:Bool} {e:Int} (ha:zY ring ks.length b ⟨cell,pick,n,e⟩) (hd:bQ l i) (hk:1≤k∧k≤3) (hl:ks.length≤3):Ok (iP k ks cell n l i pick e) (By ring b k ks):=by
 unfold iP nj;exact eK (ey (by simp; omega)) (aq ⟨oA (by omega) (by omega),hd,_,ha,rfl⟩)
theorem Kg {g:Bool} (hg:g=true→ring=false∧0<ks.length) (hn:0≤n∧n<most) (hc:cell=true→most=4) (hr:cell=false→most=b) (hm:1≤most∧most≤8) (hd:bQ l i) (hk:1≤k∧k≤3) (hl:ks.length≤3) :
  Ok (gk k ks cell most n g l i) (By ring b k ks):=by
 unfold gk;refine aB (fun e=>aJ (cU hd (by omega) (by omega)) fun r hr2=>Kf ⟨hn.1,fun h=>?_,fun h=>?_,fun _=>hg e,hr2.1,fun h=>?_,fun h=>?_,fun h=>by cases h⟩ hr2.2.2 hk hl)
  (fun e=>Kf ⟨hn.1,fun h=>?_,fun h=>?_,fun h=>(by cases h),by simp,fun h=>(by simp),fun h=>?_,fun h=>rfl⟩ hd hk hl)
 all_goals first
  | (have:=hc h; simp only []; omega)
  | (have:=hr h; simp only []; omega)
theorem Kh (hn:0≤n∧n<most) (hc:cell=true→most=4) (hr:cell=false→most=b) (hm:1≤most∧most≤8) (hd:bQ l i) (hk:1≤k∧k≤3) (hl:ks.length≤3) :
  Ok (iQ ring k ks cell most l i n) (By ring b k ks):=by
 unfold iQ;refine aB (fun e=>aB (fun e2=>aJ (cU hd (by omega) (by omega)) fun r hr2=>Kg (fun _=>⟨by simpa using e,by simpa using e2⟩) hn hc hr hm hr2.2.2 hk hl) (fun e2=>?_)) (fun e=>?_)
 all_goals exact Kg (fun h=>by cases h) hn hc hr hm hd hk hl
theorem Ki (hc:cell=true→most=4) (hr:cell=false→most=b) (hm:1≤most∧most≤8) (hd:bQ l i) (hk:1≤k∧k≤3) (hl:ks.length≤3) :
  Ok (iS ring k ks l i cell most) (By ring b k ks):=by
 unfold iS;refine aJ (cU hd (by omega) (by omega)) fun r h1=>?_;have h8:∀ {g:Bool} {l2:List Int} {i2:Int},bQ l2 i2→Ok (iR ring k ks cell most r g l2 i2) (By ring b k ks):=fun {g l2 i2} h2=>by
  unfold iR;refine aB (fun _=>aJ (cU h2 (by omega) (by omega)) fun q h3=>?_) (fun _=>Kh ⟨h1.1,h1.2.1⟩ hc hr hm h2 hk hl);have:=h3.1; have:=h3.2.1;rw [show IntKind.i64.wrap (most-1)=most-1 from oA (by omega) (by omega),oA (by omega) (by omega)];exact Kh ⟨by omega,by omega⟩ hc hr hm h3.2.2 hk hl
 refine aB (fun _=>aJ (cU h1.2.2 (by omega) (by omega)) fun q h3=>h8 h3.2.2) (fun _=>h8 h1.2.2)
theorem Kj (hb:0≤b∧b≤8) (hd:bQ l i) (hk:1≤k∧k≤3) (hl:ks.length≤3):Ok (gJ b ring k l i ks) (By ring b k ks):=by
 unfold gJ;refine aB (fun _=>aJ (cU hd (by omega) (by omega)) fun r h1=>?_) (fun e=>by simp at e; omega);have h10:∀ {c:Bool},(c=false→1≤b)→Ok (gF b ring k ks r.2.L r.2.At c) (By ring b k ks):=fun {c} h=>by
  unfold gF;exact aB (fun e=>by subst e; exact Ki (fun _=>rfl) (fun h=>by cases h) ⟨by omega,by omega⟩ h1.2.2 hk hl) (fun e=>by subst e; exact Ki (fun h=>by cases h) (fun _=>rfl) ⟨h rfl,hb.2⟩ h1.2.2 hk hl)
 exact aB (fun _=>h10 fun h=>by cases h) (fun _=>h10 fun h=>by simp at h; omega)
end
def HT (l:List aI) (n:Nat) (ring:Bool) (b:Int):Fl (List aI×Int×List Int×Int) (List aI×List Int×Int)→Prop
 | .go s=>(∃ r,BD b r∧r.Ring=ring∧s.1=l.set n r)∧s.2.1=n+1∧bQ s.2.2.1 s.2.2.2
 | .out _=>False
theorem HI {l:List aI} {n:Nat} (h:n<l.length) (hl:l.length≤8) {b:Int} (hb:0≤b∧b≤8) {ring:Bool} {d:List Int} {i:Int} (hd:bQ d i) {f c:Int}
  (h5:ring=true→f=5∧0≤c∧c≤16) (h6:ring=false→1≤f∧f≤4∧0≤c∧c≤5):Ok (gG l n b ring d i f c) (HT l n ring b):=by
 unfold gG;refine aJ (cU hd (by omega) (by omega)) fun r h1=>?_;refine bK (fun k s=>s.1=r.1-k∧s.2.2.2.length=k∧bQ s.2.1 s.2.2.1∧∀ j a,s.2.2.2[j]? = some a→zY ring j b a) (fun q=>q.2.2.length≤3∧bQ q.1 q.2.1∧∀ j a,q.2.2[j]? = some a→zY ring j b a) r.1.toNat
  ⟨by simp,rfl,h1.2.2,fun j a e=>by simp at e⟩ (fun k s hk hI=>?_) (fun q hq=>?_)
 ·obtain⟨e1,e2,e3,e4⟩:=hI;have:=h1.1; have:=h1.2.1;by_cases hz:(0:Int)<s.1
  ·refine (Kj hb e3 ⟨by omega,by omega⟩ (by omega)).mono fun y hy=>?_;cases y with
   | out q=>exact hy.elim
   | go s2 =>
    obtain⟨g1,g2,a,g3,g4⟩:=hy;refine⟨by omega,by omega,by rw [g4]; simp; omega,g2,fun j x hx=>?_⟩;rw [g4] at hx;by_cases hj:j<s.2.2.2.length
    ·rw [og hj] at hx; exact e4 j x hx
    ·rw [qA (by omega)] at hx;obtain rfl:j=s.2.2.2.length:=by
      rcases ik s.2.2.2.length j with h | h
      ·rw [yY (by simp; omega)] at hx; cases hx
      ·omega
     simp at hx; subst hx; exact g3
  ·unfold gJ;rw [show decide ((0:Int)<s.1)=false by simpa using hz];exact aq ⟨by simp only []; omega,e3,e4⟩
 ·unfold kI ni;refine tW (by omega) (by omega) fun v _ _=>aq ⟨⟨⟨ring,q.2.2,f,c⟩,⟨hq.1,hq.2.2,h5,h6⟩,rfl,by simp⟩,oA (by omega) (by omega),hq.2.1⟩
theorem Kk {l:List aI} {n:Nat} (h:n<l.length) (hl:l.length≤8) {d:List Int} {i:Int} (hd:bQ d i) (l0:List aI) (h0:l0.length=l.length):Ok (gK l0 l n d i) (HT l n l[n].Ring (xX (aU l) n)):=by
 unfold gK;rw [show decide ((n:Int)<(l0.length:Int))=true by simp; omega,yG h (by omega)];simp only [cond_true,aD];rw [bE h];simp only [aD];have hb:=Ec (rs:=aU l) (n:=n) (by simpa [aU] using h);have hlen:(aU l).length=l.length:=by simp [aU]
 have h14:∀ {b:Int},0≤b∧b≤8→Ok (gI l n d i b) (HT l n l[n].Ring b):=fun {b} hb=>by
  unfold gI;rw [bE h,aD];refine aJ (cU hd (by omega) (by omega)) fun r h1=>aJ (cU h1.2.2 (by omega) (by omega)) fun q h2=>?_;have:=h1.1; have:=h1.2.1; have:=h2.1; have:=h2.2.1;rw [oA (by omega) (by omega)];unfold lW;refine aB (fun e=>aJ (cU h2.2.2 (by omega) (by omega)) fun p h3=>tW h3.1 (by simpa using h3.2.1) fun v _ hv=>?_) (fun e=>?_)
  ·refine HI h hl hb h3.2.2 (fun _=>⟨rfl,?_⟩) (fun e2=>by rw [e] at e2; cases e2);simp only [dQ,mA,or_false] at hv;omega
  ·exact HI h hl hb h2.2.2 (fun e2=>by rw [e] at e2; cases e2) (fun _=>⟨by omega,by omega,by omega,by omega⟩)
 have hr:=nV h;unfold xX;rw [hr];cases e:l[n].Ring with
 | true=>rw [e] at h14; simp only [im,cond_false,if_true]; exact h14 ⟨by omega,by omega⟩
 | false=>rw [e] at h14 hr; rw [uO hr]; simp only [nY,cond_true]; exact h14 ⟨by omega,by omega⟩
theorem DL {l:List aI} {n:Nat} {r:aI} (h:n<l.length) (e:r.Ring=l[n].Ring):aU (l.set n r)=aU l:=by
 unfold aU;rw [List.map_set,e];apply List.ext_getElem (by simp);intro j h1 h2;by_cases hj:n=j
 ·subst hj; simp
 ·simp [hj]
theorem Fk {d:List Int} {i:Int} (hd:bQ d i):Ok (o0 ⟨d,i⟩) fun y=>a8 y.1∧bQ y.2.L y.2.At:=by
 unfold o0;refine aJ (cU hd (by omega) (by omega)) fun r h1=>?_;have:=h1.1; have:=h1.2.1;rw [oA (by omega) (by omega)];refine bK (fun k s=>s.1.length=k∧s.2.1=2+r.1-k∧bQ s.2.2.1 s.2.2.2) (fun q=>2≤q.1.length∧q.1.length≤8∧bQ q.2.1 q.2.2) (2+r.1).toNat ⟨rfl,by simp,h1.2.2⟩ (fun k s hk hI=>?_) (fun q hq=>?_)
 ·obtain⟨e1,e2,e3⟩:=hI;unfold lX;refine aB (fun e=>aJ (cU e3 (by omega) (by omega)) fun q h2=>eK (ey (by simp; omega)) (aq ?_)) (fun e=>aq ?_)
  ·have e:(0:Int)<s.2.1:=by simpa using e
   exact⟨by omega,by simp [e1],by dsimp only; rw [oA (by omega) (by omega)]; omega,h2.2.2⟩
  ·have e:¬ (0:Int)<s.2.1:=by simpa using e
   exact⟨by dsimp only; omega,by dsimp only; omega,e3⟩
 ·obtain⟨q1,q2,q3⟩:=hq;unfold ju;refine bK (fun k s=>s.1.length=q.1.length∧s.2.1=k∧bQ s.2.2.1 s.2.2.2∧aU s.1=aU q.1∧∀ j r,j<k→s.1[j]? = some r→BD (xX (aU q.1) j) r) (fun p=>a8 p.1∧bQ p.2.1 p.2.2) q.1.length ⟨rfl,rfl,q3,rfl,fun j r h=>by omega⟩ (fun k s hk hI=>?_) (fun p hp=>?_)
  ·obtain⟨e1,e2,e3,e4,e5⟩:=hI;by_cases hz:k<q.1.length
   ·have hz1:k<s.1.length:=by omega
    rw [e2];refine (Kk hz1 (by omega) e3 q.1 e1.symm).mono fun y hy=>?_;cases y with
    | out q=>exact hy.elim
    | go s2 =>
     obtain⟨⟨x,g1,g2,g3⟩,g4,g5⟩:=hy;refine⟨hz,by rw [g3]; simpa using e1,by rw [g4]; simp,g5,by rw [g3,DL hz1 g2]; exact e4,fun j r hj hr=>?_⟩;rw [g3] at hr;by_cases hjk:k=j
     ·subst hjk;rw [tg hz1] at hr;injection hr with hr; subst hr;rw [e4] at g1; exact g1
     ·rw [tl hjk] at hr;exact e5 j r (by omega) hr
   ·unfold gK;rw [show decide ((s.2.1:Int)<(q.1.length:Int))=false by simp; omega];refine aq ⟨⟨by simp only []; omega,by simp only []; omega,fun j r hr=>?_⟩,e3⟩;rw [e4];exact e5 j r (by have:=(bD.1 hr).1; dsimp only at this; omega) hr
  ·unfold kH;exact aq hp
def BT (rs:List Bool) (i:Nat) (cell:Bool) (n:Int):Bool:=decide (0≤n)&&cond cell (decide (n≤15)) (decide (n<(xX rs i:Int)))
theorem xg {l:List aI} {i:Nat} (h:i<l.length) (hl:l.length≤1000000) (x:cD) (n:Int):oG l (i:Int) x n=some (BT (aU l) i x.Cell n):=by
 unfold oG BT;cases x.Cell with
 | true =>
  rw [cond_true,cond_true];cases decide (0≤n) <;> rfl
 | false =>
  rw [cond_false,cond_false,yG h hl,aD];dsimp only;have hr:=nV h;rw [bE h,aD];unfold xX;rw [hr];cases hg:l[i].Ring with
  | true =>
   rw [if_pos rfl];unfold kh kg;cases decide (0≤n) <;> rfl
  | false =>
   rw [hg] at hr;rw [if_neg (by simp),uO hr];unfold kh kg;cases decide (0≤n) <;> rfl
def HW (rs:List Bool) (i:Nat) (ring first:Bool) (a:cD):Bool:=BT rs i a.Cell a.N&&cond a.Pick (!ring && !first&&BT rs i a.Cell a.Else) ((a.Else:Int)==0)
theorem w7 {ρ:Type} {B:Int→Option (Fl Int ρ)} (n:Nat) (p:Nat→Bool) {y r:ρ} (hgo:∀ k,k<n→p k=false→B (k:Int)=some (.go ((k+1:Nat):Int))) (hy:∀ k,k<n→p k=true→B (k:Int)=some (.out y)) (hn:B (n:Int)=some (.out r)):loop B 0=some (if (List.range n).any p then y else r):=by
 have hx:∀ (k x:Nat),(List.range n)[k]? = some x→x=k∧k<n:=fun k x h=>by
  have hk:=aW h;simp only [List.length_range] at hk;rw [List.getElem?_range hk] at h;exact⟨(bO h).symm,hk⟩
 refine w6 (xs:=List.range n) p (fun k=>(k:Int)) rfl (fun k x h hp=>?_) (fun k x h hp=>?_) (by simpa using hn)
 ·obtain⟨rfl,hk⟩:=hx k x h;exact hgo _ hk hp
 ·obtain⟨rfl,hk⟩:=hx k x h;exact hy _ hk hp
def De (rs:List Bool) (i:Nat) (r:aI) (k:Nat):Bool:=match r.Asks[k]? with
 | some a=>!HW rs i r.Ring (((k:Nat):Int)==0) a
 | none=>false
def yl (rs:List Bool) (i:Nat) (r:aI):Bool:=!((List.range r.Asks.length).any (De rs i r))
def CM (rs:List Bool) (i:Nat) (r:aI) (low high most:Int):Bool:=!decide ((6:Int)<(r.Asks.length:Int)) && !decide (r.Final<low) && !decide (high<r.Final) && !decide (r.C<0) && !decide (most<r.C)&&yl rs i r
def CL (rs:List Bool) (i:Nat) (r:aI):Bool:=cond r.Ring (CM rs i r 5 5 65535) (CM rs i r 1 4 999)
def KI (l:List aI):Prop:=l.length≤1000∧∀ r∈l,r.Asks.length≤1000
theorem E9 {l:List aI} {i:Nat} (h:i<l.length) (hl:KI l):loop (fun s:Int=>ef l (i:Int) l[i] s) 0=some (cond (yl (aU l) i l[i]) (Fl.go ()) (Fl.out false)):=by
 have hA:=hl.2 _ (iL h);have hB:=hl.1;have hstep:∀ k,(hk:k<l[i].Asks.length)→ef l (i:Int) l[i] (k:Int)=some (cond (De (aU l) i l[i] k) (.out (.out false)) (.go ((k+1:Nat):Int))):=fun k hk=>by
  unfold De;rw [bC hk];dsimp only;unfold ef HW dx;rw [dlt hk,cond_true,bE hk,aD,xg h (by omega),xg h (by omega),cR (by omega)];simp only [aD,bne];generalize (((k:Nat):Int)==0)=f;generalize ((l[i].Asks[k].Else:Int)==0)=z;generalize BT (aU l) i l[i].Asks[k].Cell l[i].Asks[k].N=m1;generalize BT (aU l) i l[i].Asks[k].Cell l[i].Asks[k].Else=m2;generalize l[i].Asks[k].Pick=pk;generalize l[i].Ring=rg;cases pk <;> cases rg <;> cases f <;> cases m1 <;> cases m2 <;> cases z <;> rfl
 have e:=w7 (B:=fun s:Int=>ef l (i:Int) l[i] s) l[i].Asks.length (De (aU l) i l[i]) (y:=Fl.out false) (r:=Fl.go ()) (fun k hk hp=>by rw [hstep k hk,hp]; rfl) (fun k hk hp=>by rw [hstep k hk,hp]; rfl) (by unfold ef; rw [bS]; rfl);rw [e];unfold yl;cases (List.range l[i].Asks.length).any (De (aU l) i l[i]) <;> rfl
def Df (l:List aI) (k:Nat):Bool:=match l[k]? with
 | some r=>!CL (aU l) k r
 | none=>false
def zN (l:List aI):Bool:=decide ((l.length:Int)≤24) && !((List.range l.length).any (Df l))
theorem yH {l:List aI} (hl:KI l):lD l=some (zN l):=by
 have hB:=hl.1;unfold lD zN;have hstep:∀ k,(hk:k<l.length)→fe l (k:Int)=some (cond (Df l k) (.out (.out false)) (.go ((k+1:Nat):Int))):=fun k hk=>by
  have hj:fc (k:Int) l[k]=some (cond ((cond l[k].Ring (!decide (l[k].Final<5) && !decide (5<l[k].Final) && !decide (l[k].C<0) && !decide (65535<l[k].C)) (!decide (l[k].Final<1) && !decide (4<l[k].Final) && !decide (l[k].C<0) && !decide (999<l[k].C)))) (.go ((k+1:Nat):Int)) (.out (.out false))):=by
   unfold fc cN l6;rw [cR (by omega)];cases hrg:l[k].Ring
   ·cases decide (l[k].Final<1) <;> cases decide (4<l[k].Final) <;> cases decide (l[k].C<0) <;> cases decide (999<l[k].C) <;> rfl
   ·by_cases h5:l[k].Final=5
    ·rw [show ((l[k].Final:Int) != 5)=false by simp [h5],decide_eq_false (show ¬ l[k].Final<5 by omega),decide_eq_false (show ¬ 5<l[k].Final by omega)];cases decide (l[k].C<0) <;> cases decide (65535<l[k].C) <;> rfl
    ·rw [show ((l[k].Final:Int) != 5)=true by simp [h5]];rcases (show l[k].Final<5∨5<l[k].Final by omega) with h | h
     ·rw [decide_eq_true h]; rfl
     ·rw [decide_eq_true h]; simp
  unfold Df;rw [bC hk];dsimp only;unfold fe CL CM;rw [dlt hk,cond_true,bE hk,aD,E9 hk hl,aD];have hel:∀ z:Bool,(cond z (Fl.go ()) (Fl.out false):Fl Unit Bool).el (fun s=>fc (k:Int) l[k]) (fun y=>some (.out (.out y)))=cond z (fc (k:Int) l[k]) (some (.out (.out false))):=fun z=>by cases z <;> rfl
  rw [hel,hj];generalize yl (aU l) k l[k]=z;generalize decide ((6:Int)<(l[k].Asks.length:Int))=d6;cases l[k].Ring
  ·simp only [cond_false];generalize decide (l[k].Final<1)=d1;generalize decide (4<l[k].Final)=d2;generalize decide (l[k].C<0)=d3;generalize decide (999<l[k].C)=d4;cases z <;> cases d6 <;> cases d1 <;> cases d2 <;> cases d3 <;> cases d4 <;> rfl
  ·simp only [cond_true];generalize decide (l[k].Final<5)=d1;generalize decide (5<l[k].Final)=d2;generalize decide (l[k].C<0)=d3;generalize decide (65535<l[k].C)=d4;cases z <;> cases d6 <;> cases d1 <;> cases d2 <;> cases d3 <;> cases d4 <;> rfl
 rw [w7 (B:=fun s:Int=>fe l s) l.length (Df l) (y:=Fl.out false) (r:=Fl.go ()) (fun k hk hp=>by rw [hstep k hk,hp]; rfl) (fun k hk hp=>by rw [hstep k hk,hp]; rfl) (by unfold fe; rw [bS]; rfl)];unfold l5;cases (List.range l.length).any (Df l) <;> simp [Fl.el]
theorem w8 {l:List aI} (h:a8 l):zN l=true:=by
 unfold zN;have h8:=h.high;rw [decide_eq_true (by omega),n9,sv,C2];intro i hi;have hi:=vo.1 hi;unfold Df;have hg:=bC hi;rw [hg];dsimp only;have hR:=h.each i l[i] hg;have ha:yl (aU l) i l[i]=true:=by
  unfold yl;rw [sv,C2];intro k hk;have hk:=vo.1 hk;unfold De;have hka:=bC hk;rw [hka];dsimp only;have hA:=hR.each k _ hka;generalize l[i].Asks[k]=a at hA;unfold HW BT;have hn:=hA.low;have he:=hA.low2;rw [decide_eq_true hn,decide_eq_true he,n9,n9];have c1:cond a.Cell (decide (a.N≤15)) (decide (a.N<(xX (aU l) i:Int)))=true:=by
   cases hc:a.Cell
   ·exact decide_eq_true (hA.rule hc)
   ·have:=hA.cell hc;exact decide_eq_true (by omega)
  have c2:cond a.Cell (decide (a.Else≤15)) (decide (a.Else<(xX (aU l) i:Int)))=true:=by
   cases hc:a.Cell
   ·exact decide_eq_true (hA.rule2 hc)
   ·have:=hA.cell2 hc;exact decide_eq_true (by omega)
  rw [c1,c2,n9];cases hp:a.Pick
  ·rw [hA.none hp]; simp
  ·obtain⟨p1,p2⟩:=hA.pick hp;rw [p1,show (((k:Nat):Int)==0)=false by simp; omega]; simp
 have hb:CL (aU l) i l[i]=true:=by
  have hl:=hR.asks;unfold CL CM;rw [ha,decide_eq_false (show ¬ (6:Int)<(l[i].Asks.length:Int) by omega)];cases hr:l[i].Ring
  ·obtain⟨q1,q2,q3,q4⟩:=hR.plain hr;rw [cond_false,decide_eq_false (show ¬ l[i].Final<1 by omega),decide_eq_false (show ¬ 4<l[i].Final by omega),decide_eq_false (show ¬ l[i].C<0 by omega),decide_eq_false (show ¬ 999<l[i].C by omega)]; rfl
  ·obtain⟨q1,q2,q3⟩:=hR.ring hr;rw [cond_true,decide_eq_false (show ¬ l[i].Final<5 by omega),decide_eq_false (show ¬ 5<l[i].Final by omega),decide_eq_false (show ¬ l[i].C<0 by omega),decide_eq_false (show ¬ 65535<l[i].C by omega)]; rfl
 rw [hb]; decide
theorem a8.bnd {l:List aI} (h:a8 l):KI l:=⟨by have:=h.high; omega,fun r hr=>by
 obtain⟨i,hi⟩:=gZ.1 hr;have:=(h.each i r hi).asks; omega⟩
theorem IN (n:Int) {m:Int} (hm:0<m) (hm2:m≤1000000000):Ok (oZ n m) fun r=>0≤r∧r<m:=by
 obtain⟨k,rfl⟩:∃ k:Nat,m=k:=⟨m.toNat,by omega⟩;obtain⟨r,hr,e⟩:=ET n (m:=k) (by omega) (by omega);exact⟨_,e,by omega,by omega⟩
end
end Go.Proofs.YtdcojaccpnabkaaGreatDoor
