/- Texts of the proof, joined (6). -/
import Derived.Test.YtdcojaccpnabkaaGreatDoorA1
import Derived.Test.YtdcojaccpnabkaaGreatDoorA5
import Derived.Test.YtdcojaccpnabkaaGreatDoorA2
import Derived.Test.YtdcojaccpnabkaaGreatDoorA0
import Derived.Test.YtdcojaccpnabkaaGreatDoorRows
import Derived.ProofKit
import Derived.LaidMore
import Derived.LaidLaws
import Derived.MakeChecks
import Derived.Lib.LaidTab
import Derived.SizedLaws
import Derived.Deep.Slices
import Derived.Deep.Fields
import Derived.Lib.SmallJoins
import Derived.OpenShut
import GoSem.ClaimGoes
set_option linter.unusedVariables false
set_option linter.unusedSimpArgs false
set_option linter.unusedSectionVars false
namespace Go.Proofs.YtdcojaccpnabkaaGreatDoor
section
set_option maxRecDepth 100000
set_option maxHeartbeats 4000000
open Go.RowKit
noncomputable section
def oV (b:LR):Option LR:=some (b)
def oW (b:Int) (c:LR):Option (Fl (LR×Int) (LR)):=some (.go (c,IntKind.i64.wrap (b*2)))
def mb (b:Int) (c:LR):Option (Fl (LR×Int) (LR)):=oW b c
def gI (e:Int) (f:ab→ab→Option Int) (b:Int) (d:LR) (c:Int):Option (Fl (LR×Int) (LR)):=cond (decide ((IntKind.i64.wrap (c+b):Int)<e)) ((sm f d c (IntKind.i64.wrap (c+b)) e).bind fun g=>mb b g) (mb b d)
def gJ (h:Int) (f:ab→ab→Option Int) (d:Int) (e:LR) (c:Int) (b:Int):Option (Fl (LR×Int×Int) (LR×Int)):=cond (decide (b≤h)) ((sm f e c (IntKind.i64.wrap (c+d)) b).bind fun g=>some (.go (g,b,IntKind.i64.wrap (b+(IntKind.i64.wrap (2*d)))))) (some (.out (e,c)))
def cy (e:Int) (c:ab→ab→Option Int) (d:LR) (b:Int):Option (Fl (LR×Int) (LR)):=cond (decide (b<e)) ((loop (fun s:LR×Int×Int=>gJ e c b s.1 s.2.1 s.2.2) (d,0,IntKind.i64.wrap (2*b))).bind fun r=>gI e c b r.1 r.2) (some (.out d))
def dY (c:Int) (b:ab→ab→Option Int) (e:LR) (d:Int):Option LR:=(b7 b e d c).bind fun f=>(loop (fun s:LR×Int=>cy c b s.1 s.2) (f,20)).bind fun r=>oV r
def cQ (g:Int) (e:ab→ab→Option Int) (d:LR) (c:Int) (b:Int):Option (Fl (LR×Int×Int) (LR×Int)):=cond (decide (b≤g)) ((b7 e d c b).bind fun f=>some (.go (f,b,IntKind.i64.wrap (b+20)))) (some (.out (d,c)))
def mN (b:ab→ab→Option Int) (c:LR) (d:Int):Option LR:=(loop (fun s:LR×Int×Int=>cQ d b s.1 s.2.1 s.2.2) (c,0,20)).bind fun r=>dY d b r.1 r.2
theorem xT (T:Nat→Prop) (W0:World) (hT:TW T W0) (cmp_g:Nat) (h:aU aQ cmp_g=true) (cmp_k:bh) (cmp_P:bQ) (f:ab→ab→Option Int) (l:∀ (T:Nat→Prop) (W0:World) (hT:TW T W0) (hLv:dx T W0) (hP:cmp_P.p T W0) (x0:ab) (x1:ab) (W:Value) (b3:aD ac T W0 W x0.Reads) (X:Value) (b4:aD ac T W0 X x1.Reads) (y:Int) (hM:f x0 x1=some y),bc aQ No cmp_g ([.agg (aE x0 W).toArray,.agg (aE x1 X).toArray]++cmp_k) W0 (fun v w'=>v=aj y)) (L:LR) (e:Int) (b:Value) (dR:bh) (hD:vL T W0 [ae b dR]) (ak:aB aa (dT T [ae b dR]) W0 dR L) (hLv:dx (dT T [ae b dR]) W0) (hPcmp_:cmp_P.p (dT T [ae b dR]) W0) (y:LR) (hM:mN f L e=some y):bc aQ (MD [ae b dR]) 69 [b,aj e,.func (.func cmp_g) #[] cmp_k.toArray] W0 (fun v w'=>∃ (jT:bh),v = .tuple #[]∧nO W0 w' [ae b dR] [ae b jT]∧aB aa (dT T [ae b jT]) w' jT y):=by
 refine gg (c:=_) Tryz.func69 rfl T 63 Tryz.ntmps69 hT rfl hD fun a hS=>?_;replace hS:=((hS.fact cmp_P hPcmp_).fact bu hLv).fR ak;unfold mN at hM;refine al hS fun a hS=>?_;refine aJ (J:=fun a w=>∃ (x:LR) (q:Int) (z:LV),St W0 (MD [ae b dR]) T 63 [(0,b),(1,aj e),(2,.func (.func cmp_g) #[] cmp_k.toArray),(6,aj 20),(7,aj q)] [ae b z] [ao aa z x,bu,cmp_P] a w∧dY e f x q=some y) ?_ ?_
 ·skip;refine al hS fun a hS=>?_;obtain⟨r1,Q,hMo1⟩:=bd hM;refine bB _ (fun s a w=>∃ (k:LR) (i:Int) (o:Int) (A:LV),(k,i,o)=s∧St W0 (MD [ae b dR]) T 63 [(0,b),(1,aj e),(2,.func (.func cmp_g) #[] cmp_k.toArray),(6,aj 20),(7,aj i),(8,aj o)] [ae b A] [ao aa A k,bu,cmp_P] a w) Q ⟨_,_,_,_,rfl,hS.mt [0] [0,1,2]⟩ ?_;rintro s a w K ⟨k,i,o,A,rfl,hS⟩ hM hf1;have hM:cQ e f k i o=some K:=hM;unfold cQ at hM;refine aA ?_;refine al hS fun a hS=>?_;rcases cd hM with⟨Y,hM⟩|⟨Y,hM⟩
  ·refine al hS fun a hS=>?_;obtain⟨bb,V,hM⟩:=bd hM;replace hS:=hS.re [0] [];refine wl rfl (bC hS Jz rfl rfl (sw _ _ hS.dltD cmp_g h cmp_k cmp_P f l k i o _ _ hS.dok (hS.getD 0 rfl) (hS.getD 1 rfl) (hS.getD 2 rfl) _ V) fun _ w hR a hk hA=>?_);obtain⟨an,he,Z,M⟩:=hR;obtain rfl:=he.symm;have hS:=hA _ Z;replace hS:=hS.fR (M.keep (ai _ _) (au _));exact fz
  refine al hS fun a hS=>?_;cases hM
  have hr:=hf1 _ rfl;subst hr;have hM:dY e f k i=some y:=hMo1;exact⟨_,_,_,hS.mt [0] [0,1,2],hM⟩
 rintro a w ⟨x,q,z,hS,hM⟩;unfold dY at hM;refine al hS fun a hS=>?_;obtain⟨b9,U,hM⟩:=bd hM;replace hS:=hS.re [0] [];refine wl rfl (bC hS Jz rfl rfl (sw _ _ hS.dltD cmp_g h cmp_k cmp_P f l x q e _ _ hS.dok (hS.getD 0 rfl) (hS.getD 1 rfl) (hS.getD 2 rfl) _ U) fun _ w hR a hk hA=>?_);obtain⟨av,he,a0,N⟩:=hR;obtain rfl:=he.symm;have hS:=hA _ a0;replace hS:=hS.fR (N.keep (ai _ _) (au _));refine IR hS fun a hS=>?_;refine zx (J:=fun a w=>∃ (G:LR) (r:LV),St W0 (MD [ae b dR]) T 63 [] [ae b r] [ao aa r G,bu,cmp_P] a w∧oV G=some y) ?_ ?_
 ·skip;refine al hS fun a hS=>?_;obtain⟨r1,Q,hMo1⟩:=bd hM;refine bB _ (fun s a w=>∃ (u:LR) (d:Int) (B:LV),(u,d)=s∧St W0 (MD [ae b dR]) T 63 [(0,b),(1,aj e),(2,.func (.func cmp_g) #[] cmp_k.toArray),(6,aj d)] [ae b B] [ao aa B u,bu,cmp_P] a w) Q ⟨_,_,_,rfl,hS.mt [0] [0,2,3]⟩ ?_;rintro s a w K ⟨u,d,B,rfl,hS⟩ hM hf1;have hM:cy e f u d=some K:=hM;unfold cy at hM;refine aA ?_;refine al hS fun a hS=>?_;rcases cd hM with⟨a1,hM⟩|⟨a1,hM⟩
  ·refine IR hS fun a hS=>?_;refine zx (J:=fun a w=>∃ (H:LR) (C:LV),St W0 (MD [ae b dR]) T 63 [(0,b),(1,aj e),(2,.func (.func cmp_g) #[] cmp_k.toArray),(6,aj (IntKind.i64.wrap (d*2)))] [ae b C] [ao aa C H,bu,cmp_P] a w∧oW d H=some K) ?_ ?_
   ·skip;refine al hS fun a hS=>?_;refine aJ (J:=fun a w=>∃ (t:LR) (m:Int) (D:LV),St W0 (MD [ae b dR]) T 63 [(0,b),(1,aj e),(2,.func (.func cmp_g) #[] cmp_k.toArray),(6,aj d),(7,aj m)] [ae b D] [ao aa D t,bu,cmp_P] a w∧gI e f d t m=some K) ?_ ?_
    ·skip;refine al hS fun a hS=>?_;obtain⟨r2,ag,hMo2⟩:=bd hM;refine bB _ (fun s a w=>∃ (j:LR) (g:Int) (n:Int) (E:LV),(j,g,n)=s∧St W0 (MD [ae b dR]) T 63 [(0,b),(1,aj e),(2,.func (.func cmp_g) #[] cmp_k.toArray),(6,aj d),(7,aj g),(8,aj n)] [ae b E] [ao aa E j,bu,cmp_P] a w) ag ⟨_,_,_,_,rfl,hS.mt [0] [0,1,2]⟩ ?_;rintro s a w f2 ⟨j,g,n,E,rfl,hS⟩ hM hf2;have hM:gJ e f d j g n=some f2:=hM;unfold gJ at hM;refine aA ?_;refine al hS fun a hS=>?_;rcases cd hM with⟨a2,hM⟩|⟨a2,hM⟩
     ·refine al hS fun a hS=>?_;obtain⟨b8,S,hM⟩:=bd hM;replace hS:=hS.re [0] [];refine wl rfl (bC hS En rfl rfl (NC _ _ hS.dltD cmp_g h cmp_k cmp_P f l j g (IntKind.i64.wrap (g+d)) n _ _ hS.dok (hS.getD 0 rfl) (hS.getD 1 rfl) (hS.getD 2 rfl) _ S) fun _ w hR a hk hA=>?_);obtain⟨b0,he,a3,O⟩:=hR;obtain rfl:=he.symm;have hS:=hA _ a3;replace hS:=hS.fR (O.keep (ai _ _) (au _));exact fz
     refine al hS fun a hS=>?_;cases hM
     have hr:=hf2 _ rfl;subst hr;have hM:gI e f d j g=some K:=hMo2;exact⟨_,_,_,hS.mt [0] [0,1,2],hM⟩
    rintro a w ⟨t,m,D,hS,hM⟩;unfold gI at hM;refine aJ (J:=fun a w=>∃ (I:LR) (F:LV),St W0 (MD [ae b dR]) T 63 [(0,b),(1,aj e),(2,.func (.func cmp_g) #[] cmp_k.toArray),(6,aj d)] [ae b F] [ao aa F I,bu,cmp_P] a w∧mb d I=some K) ?_ ?_
    ·skip;refine al hS fun a hS=>?_;rcases cd hM with⟨a4,hM⟩|⟨a4,hM⟩
     ·refine al hS fun a hS=>?_;obtain⟨b6,R,hM⟩:=bd hM;replace hS:=hS.re [0] [];refine wl rfl (bC hS En rfl rfl (NC _ _ hS.dltD cmp_g h cmp_k cmp_P f l t m (IntKind.i64.wrap (m+d)) e _ _ hS.dok (hS.getD 0 rfl) (hS.getD 1 rfl) (hS.getD 2 rfl) _ R) fun _ w hR a hk hA=>?_);obtain⟨b1,he,a5,P⟩:=hR;obtain rfl:=he.symm;have hS:=hA _ a5;replace hS:=hS.fR (P.keep (ai _ _) (au _));exact fz
     exact fz
    rintro a w ⟨I,F,hS,hM⟩;unfold mb at hM;exact fz
   rintro a w ⟨H,C,hS,hM⟩;unfold oW at hM;exact⟨_,(cR hM).symm,_,_,_,rfl,hS.mt [0] [0,1,2]⟩
  exact fz
 rintro a w ⟨G,r,hS,hM⟩;unfold oV at hM;refine Ab ?_;cases hM
 refine aH hS Tryz.results69 aF ?_;have hZ:=hS.sl [0] [0];exact⟨r,rfl,hZ.dnew,(hZ.get 0 rfl)⟩
def eH (c:ab→ab→Option Int) (b:LR):Option LR:=(mN c b (b.length:Int)).bind fun d=>some (d)
theorem uJ (T:Nat→Prop) (W0:World) (hT:TW T W0) (cmp_g:Nat) (g:aU aQ cmp_g=true) (cmp_k:bh) (cmp_P:bQ) (d:ab→ab→Option Int) (h:∀ (T:Nat→Prop) (W0:World) (hT:TW T W0) (hLv:dx T W0) (hP:cmp_P.p T W0) (n:ab) (o:ab) (j:Value) (r:aD ac T W0 j n.Reads) (k:Value) (s:aD ac T W0 k o.Reads) (y:Int) (hM:d n o=some y),bc aQ No cmp_g ([.agg (aE n j).toArray,.agg (aE o k).toArray]++cmp_k) W0 (fun v w'=>v=aj y)) (e:LR) (b:Value) (dR:bh) (hD:vL T W0 [ae b dR]) (q:aB aa (dT T [ae b dR]) W0 dR e) (hLv:dx (dT T [ae b dR]) W0) (hPcmp_:cmp_P.p (dT T [ae b dR]) W0) (y:LR) (hM:eH d e=some y):bc aQ (MD [ae b dR]) 41 [b,.func (.func cmp_g) #[] cmp_k.toArray] W0 (fun v w'=>∃ (jT:bh),v = .tuple #[]∧nO W0 w' [ae b dR] [ae b jT]∧aB aa (dT T [ae b jT]) w' jT y):=by
 refine gg (c:=_) Tryz.func41 rfl T 9 Tryz.ntmps41 hT rfl hD fun a hS=>?_;replace hS:=((hS.fact cmp_P hPcmp_).fact bu hLv).fR q;unfold eH at hM;refine al hS fun a hS=>?_;obtain⟨t,i,hM⟩:=bd hM;replace hS:=hS.re [0] [];refine wl rfl (bC hS N5 rfl rfl (xT _ _ hS.dltD cmp_g g cmp_k cmp_P d h e (e.length:Int) _ _ hS.dok (hS.getD 0 rfl) (hS.getD 1 rfl) (hS.getD 2 rfl) _ i) fun _ w hR a hk hA=>?_);obtain⟨l,he,m,f⟩:=hR;obtain rfl:=he.symm;have hS:=hA _ m;replace hS:=hS.fR (f.keep (ai _ _) (au _));refine al hS fun a hS=>?_;refine Ab ?_;cases hM
 refine aH hS Tryz.results41 aF ?_;have hZ:=hS.sl [0] [0];exact⟨l,rfl,hZ.dnew,(hZ.get 0 rfl)⟩
def aO (b:ab) (c:ab):Option Int:=(jO b).bind fun d=>(jO c).bind fun e=>(lc (IntKind.i64.wrap (b.Cost*e)) (IntKind.i64.wrap (c.Cost*d))).bind fun f=>(lc e d).bind fun g=>(sY b.Key c.Key).bind fun h=>(tE ([f,g,h])).bind fun i=>some (i)
theorem xL (T:Nat→Prop) (W0:World) (hT:TW T W0) (hLv:dx T W0) (e:ab) (f:ab) (q:Value) (r:Value) (o:aD ac T W0 q e.Reads) (p:aD ac T W0 r f.Reads) (y:Int) (hM:aO e f=some y):bc aQ No 42 [.agg (aE e q).toArray,.agg (aE f r).toArray] W0 (fun v w'=>v=aj y):=by
 refine en Tryz.func42 Tryz.ntmps42 hT fun a hS=>?_;replace hS:=((hS.fact bu (dx.dn hLv)).fS (aD.dn o)).fS (aD.dn p);unfold aO at hM;refine al hS fun a hS=>?_;refine kb hS fun s z a w hk hS=>?_;refine kb hS fun t A a w hk hS=>?_;refine al hS fun a hS=>?_;refine aA ?_;refine dr [] hS fun w hQ hS=>?_;refine gE [0,2] hS fun a hS=>?_;obtain⟨g,i,hM⟩:=bd hM;refine ec 1 hS Ie (pi _ _ hS.dlt e _ (hS.get 1 rfl) _ i) fun _ w hR a hk hA=>?_;obtain rfl:=hR;have hS:=bS hA;obtain⟨h,j,hM⟩:=bd hM;refine ec 3 hS Ie (pi _ _ hS.dlt f _ (hS.get 0 rfl) _ j) fun _ w hR a hk hA=>?_;obtain rfl:=hR;have hS:=bS hA;refine gE [4,5] hS fun a hS=>?_;refine eD ?_;refine al hS fun a hS=>?_;refine aA ?_;refine dr [] hS fun w hQ hS=>?_;refine gE [0,1,2,3,4,5,6,7,9,10,12,13,14,15] hS fun a hS=>?_;obtain⟨b,k,hM⟩:=bd hM;refine ec 8 hS Kn (rX _ _ hS.dlt (IntKind.i64.wrap (e.Cost*h)) (IntKind.i64.wrap (f.Cost*g)) _ k) fun _ w hR a hk hA=>?_;obtain rfl:=hR;have hS:=bS hA;obtain⟨c,l,hM⟩:=bd hM;refine ec 11 hS Kn (rX _ _ hS.dlt h g _ l) fun _ w hR a hk hA=>?_;obtain rfl:=hR;have hS:=bS hA;obtain⟨d,m,hM⟩:=bd hM;refine ec 16 hS Ko (wU _ _ hS.dlt (hS.get 2 rfl) e.Key f.Key _ m) fun _ w hR a hk hA=>?_;obtain rfl:=hR;have hS:=bS hA;refine e1 17 (bf (ps:=[(0,.tmp 19),(1,.tmp 22),(2,.tmp 27)]) hS Fs L1 (zl:=[aj 0,aj 0,aj 0]) (by kernel_rfl) rfl (us:=[[aj b],[aj c],[aj d]]) ⟨rfl,⟨rfl,⟨rfl,trivial⟩⟩⟩ (ws:=[aj b,aj c,aj d]) rfl rfl rfl rfl fun u a w hk hS=>⟨eS (hk),?_⟩);replace hS:=hS.lit (R:=(aS.int .i64)) (us:=[aj b,aj c,aj d]) (xs:=[b,c,d]) 0 rfl (by decide) ((aB.one_ (R:=(aS.int .i64)) (x:=b) rfl).append ((aB.one_ (R:=(aS.int .i64)) (x:=c) rfl).append (aB.one_ (R:=(aS.int .i64)) (x:=d) rfl))) rfl rfl;have hL:=hS;replace hL:=hL.freeze (R:=(aS.int .i64)) 0 rfl 0 rfl;obtain⟨B,n,hM⟩:=bd hM;refine ec 18 hS MH (Cr _ _ hL.dlt ([b,c,d]) _ (hL.get 0 rfl) _ n) fun _ w hR a hk hA=>?_;obtain rfl:=hR;have hS:=bS hA;refine gE [19] hS fun a hS=>?_;refine eD ?_;exact fz
def qX (b:LK):Option LK:=some (b)
def eh (e:LR) (c:LK) (b:Int):Option (Fl (LK×Int) (LK)):=cond (decide (b<(e.length:Int))) ((bg e b).bind fun d=>gd (bT (c.length+([d.Key]).length)) <| some (.go ((c++([d.Key])),IntKind.i64.wrap (b+1)))) (some (.out c))
def dS (d:LR):Option LK:=(lP d).bind fun c=>(eH aO c).bind fun b=>(loop (fun s:LK×Int=>eh b s.1 s.2) (([]:List ah),0)).bind fun r=>qX r
theorem rZ (T:Nat→Prop) (W0:World) (hT:TW T W0) (hLv:dx T W0) (q:LR) (P:Value) (O:aD aa T W0 P q) (y:LK) (hM:dS q=some y):bc aQ No 17 [P] W0 (fun v w'=>∃ (M:Value) (jT:bh),v=M∧ip ac T W0 w' [ay M jT] 31 M jT y):=by
 refine en Tryz.func17 Tryz.ntmps17 hT fun a hS=>?_;replace hS:=(hS.fact bu (dx.dn hLv)).fS (aD.dn O);unfold dS at hM;refine al hS fun a hS=>?_;obtain⟨K,z,hM⟩:=bd hM;refine kc hS MG (tD _ _ hS.dlt q _ (hS.get 0 rfl) _ z) fun _ w hR a hk hA=>?_;obtain⟨r,X,he,p⟩:=hR;obtain rfl:=he.symm;have hS:=qe hA p;refine al hS fun a hS=>?_;obtain⟨l,u,hM⟩:=bd hM;replace hS:=hS.re [0] [];refine wl rfl (bC hS NS rfl rfl (uJ _ _ hS.dltD 42 NT [] Ck aO (fun T W0 hT hLv _ x0 x1 Q H S I y hM=>xL T W0 hT hLv x0 x1 Q S H I y hM) K _ _ hS.dok (hS.getD 0 rfl) (hS.getD 2 rfl) trivial _ u) fun _ w hR a hk hA=>?_);obtain⟨n,he,B,o⟩:=hR;obtain rfl:=he.symm;have hS:=hA _ B;replace hS:=hS.fR (o.keep (ai _ _) (au _));refine al hS fun a hS=>?_;refine aJ (J:=fun a w=>∃ (j:LK) (f:Value) (d:LV),St W0 No T 24 [(4,f)] [ay f d] [ao ac d j,bu] a w∧qX j=some y) ?_ ?_
 ·skip;refine al hS fun a hS=>?_;replace hS:=hS.nilRow ac 31 (by decide);obtain⟨r1,N,hMo1⟩:=bd hM;refine bB _ (fun s a w=>∃ (c:LK) (e:Int) (m:Value) (g:LV),(c,e)=s∧St W0 No T 24 [(4,m),(11,r),(12,aj (l.length:Int)),(13,aj e)] [ay m g,ae r n] [ao ac g c,ao aa n l,bu] a w) N ⟨_,_,_,_,rfl,hS.mt [0,1] [0,1,4]⟩ ?_;rintro s a w f1 ⟨c,e,m,g,rfl,hS⟩ hM hf1;have hM:eh l c e=some f1:=hM;unfold eh at hM;refine al hS fun a hS=>?_;refine aA ?_;rcases cd hM with⟨C,hM⟩|⟨C,hM⟩
  ·refine al hS fun a hS=>?_;refine aA ?_;refine al hS fun a hS=>?_;obtain⟨b,t,hM⟩:=bd hM;refine wl rfl (cU (R:=aa) hS dM bZ rfl rfl 1 rfl 1 rfl t rfl fun U a2 a3 Y D E F a hS=>?_);obtain⟨L,rfl,A⟩:=D;replace hS:=hS.fS A;refine qy hS (bp (k:=0) hS bZ 1 rfl E F rfl id (us:=(aE b L)) rfl rfl (fun h=>by cases h)) fun a hS=>?_;refine ka hS dq fun V a1 a w hk hS=>?_;refine go hS fun a w hS=>?_;refine wl rfl (bf (ps:=[(0,.tmp 19)]) hS gf gl (zl:=[aj 0,a8 cr]) (by kernel_rfl) rfl (us:=[(aX b.Key)]) ⟨rfl,trivial⟩ (ws:=(aX b.Key)) rfl rfl rfl rfl fun W a w hk hS=>?_);replace hS:=(hS.lit (R:=ac) (us:=(aX b.Key)) (xs:=[b.Key]) 0 rfl (by decide) (aB.one_ (R:=ac) (x:=b.Key) rfl) rfl rfl).freeze (R:=ac) 0 rfl 0 rfl;obtain⟨G,hM⟩:=bo hM;refine wl rfl (bM (R:=ac) (xs:=c) (ys:=[b.Key]) hS gf (by decide) (by decide) rfl rfl 1 rfl 3 rfl 0 rfl G rfl fun a4 Z a w hk hS=>?_);exact fz
  exact fz
 rintro a w ⟨j,f,d,hS,hM⟩;unfold qX at hM;refine al hS fun a hS=>?_;cases hM
 refine aH hS rfl (az hS rfl aF) ?_;exact⟨f,d,rfl,hS.retOwn ⟨.inr (aG (i:=0) rfl),trivial⟩ 0 rfl 0 rfl⟩
def sT:Option Int:=some ((-1))
def jU (d:LK) (e:ah) (b:Int):Option (Fl (Int) (Fl (Unit) Int)):=cond (decide (b<(d.length:Int))) ((bg d b).bind fun c=>cond (e.Kind==c.Kind&&e.Text.toList==c.Text.toList) (some (.out (.out b))) (some (.go (IntKind.i64.wrap (b+1))))) (some (.out (.go ())))
def uq (b:LK) (c:ah):Option Int:=(loop (fun s:Int=>jU b c s) 0).bind fun r=>Fl.el r (fun s=>sT) (fun y=>some (y))
theorem CI (T:Nat→Prop) (W0:World) (hT:TW T W0) (d:LK) (b:ah) (h:Value) (o:aD ac T W0 h d) (y:Int) (hM:uq d b=some y):bc aQ No 78 [h,.agg (aX b).toArray] W0 (fun v w'=>v=aj y):=by
 refine en Tryz.func78 Tryz.ntmps78 hT fun a hS=>?_;replace hS:=hS.fS (aD.dn o);unfold uq at hM;refine al hS fun a hS=>?_;refine kb hS fun e r a w hk hS=>?_;refine al hS fun a hS=>?_;refine aJ (J:=fun a w=>St W0 No T 19 [] [] [] a w∧sT=some y) ?_ ?_
 ·skip;refine al hS fun a hS=>?_;obtain⟨t,n,hMo1⟩:=bd hM;refine bB _ (fun s a w=>∃ (c:Int),c=s∧St W0 No T 19 [(0,h),(3,pt e 0),(7,aj (d.length:Int)),(8,aj c)] [.box e (aX b) 31] [aK ac h d] a w) n ⟨_,rfl,hS.mt [0] [0]⟩ ?_;rintro s a w q ⟨c,rfl,hS⟩ hM hf1;have hM:jU d b c=some q:=hM;unfold jU at hM;refine al hS fun a hS=>?_;refine aA ?_;rcases cd hM with⟨j,hM⟩|⟨j,hM⟩
  ·refine al hS fun a hS=>?_;refine aA ?_;refine al hS fun a hS=>?_;refine aA ?_;refine dr [] hS fun w hQ hS=>?_;refine gE [0,1,2] hS fun a hS=>?_;obtain⟨f,g,hM⟩:=bd hM;obtain⟨i,m,p,k,l,hS⟩:=mP (R:=ac) hS mM e7 0 rfl g;obtain rfl:=k;refine dy 3 (v:=pt i m) rfl (by kernel_rfl) (by kernel_rfl) (by kernel_rfl) rfl hQ hS (l rfl rfl) rfl rfl rfl fun a hS=>?_;refine gE [4] hS fun a hS=>?_;refine dy 5 (v:=.bool (b.Kind==f.Kind&&b.Text.toList==f.Text.toList)) rfl (by kernel_rfl) (by kernel_rfl) (by kernel_rfl) rfl hQ hS (z7 hS rfl rfl) rfl rfl rfl fun a hS=>?_;refine eD ?_;exact fz
  exact fz
 rintro a w ⟨hS,hM⟩;unfold sT at hM;exact fz
def nU (c:LK) (d:ah):Option Bool:=(uq c d).bind fun b=>some (decide ((0:Int)≤b))
theorem yx (T:Nat→Prop) (W0:World) (hT:TW T W0) (b:LK) (c:ah) (f:Value) (e:aD ac T W0 f b) (y:Bool) (hM:nU b c=some y):bc aQ No 49 [f,.agg (aX c).toArray] W0 (fun v w'=>v = .bool y):=by
 refine en Tryz.func49 Tryz.ntmps49 hT fun a hS=>?_;replace hS:=hS.fS (aD.dn e);unfold nU at hM;refine al hS fun a hS=>?_;refine kb hS fun g h a w hk hS=>?_;refine al hS fun a hS=>?_;obtain⟨i,d,hM⟩:=bd hM;refine kc hS Oc (CI _ _ hS.dlt b c _ (hS.get 0 rfl) _ d) fun _ w hR a hk hA=>?_;obtain rfl:=hR;have hS:=bS hA;exact fz
def mx (c:ab) (b:ah):Option Bool:=some (c.Key.Kind==b.Kind&&c.Key.Text.toList==b.Text.toList)
theorem xO (T:Nat→Prop) (W0:World) (hT:TW T W0) (c:ab) (b:ah) (g:Value) (d:Nat) (f:aD ac T W0 g c.Reads) (e:(k9 d 0 (aX b)).p T W0) (y:Bool) (hM:mx c b=some y):bc aQ No 80 [.agg (aE c g).toArray,pt d 0] W0 (fun v w'=>v = .bool y):=by
 refine en Tryz.func80 Tryz.ntmps80 hT fun a hS=>?_;replace hS:=(hS.fact (k9 d 0 (aX b)) (bQ.dn _ e)).fS (aD.dn f);unfold mx at hM;refine al hS fun a hS=>?_;refine kb hS fun h i a w hk hS=>?_;refine al hS fun a hS=>?_;refine wl rfl (ky (v:=.bool (c.Key.Kind==b.Kind&&c.Key.Text.toList==b.Text.toList)) hS (z7 hS rfl rfl) rfl rfl fun a hS=>?_);exact fz
def pF (c:LR) (f:ah):Option (ab×Bool):=(dt (fun g=>mx g f) c).bind fun b=>cond (decide (b<0)) (some (((ab.mk (ah.mk 0 cr) cr ([]) 0 0 0 false),false))) ((bg c b).bind fun d=>(oM d).bind fun e=>some ((e,true)))
theorem Ah (T:Nat→Prop) (W0:World) (hT:TW T W0) (hLv:dx T W0) (e:LR) (c:ah) (u:Value) (t:aD aa T W0 u e) (y:ab×Bool) (hM:pF e c=some y):bc aQ No 50 [u,.agg (aX c).toArray] W0 (fun v w'=>∃ (r:Value) (jT:bh),v = .tuple #[.agg (aE y.1 r).toArray,.bool y.2]∧ip ac T W0 w' [ay r jT] 31 r jT y.1.Reads):=by
 refine en Tryz.func50 Tryz.ntmps50 hT fun a hS=>?_;replace hS:=(hS.fact bu (dx.dn hLv)).fS (aD.dn t);unfold pF at hM;refine al hS fun a hS=>?_;refine kb hS fun b C a w hk hS=>?_;refine ka hS dq fun z D a w hk hS=>?_;refine al hS fun a hS=>?_;replace hS:=hS.freezeBox 1 rfl;refine qy hS (zG (vs:=[pt b 0]) hS rfl) fun a hS=>?_;obtain⟨F,g,hM⟩:=bd hM;refine kc hS Ku (pY _ _ hS.dlt (hS.get 2 rfl) 80 Od [pt b 0] (FY (k9 b 0 (aX c)) Ck) (fun s=>mx s c) (fun T W0 hT hLv hP s x p y hM=>xO T W0 hT s c x b p hP.1 y hM) ⟨(hS.get 0 rfl),trivial⟩ e _ (hS.get 1 rfl) _ g) fun _ w hR a hk hA=>?_;obtain rfl:=hR;have hS:=bS hA;refine al hS fun a hS=>?_;refine aA ?_;refine al hS fun a hS=>?_;rcases cd hM with⟨n,hM⟩|⟨n,hM⟩
 ·refine al hS fun a hS=>?_;refine qy hS (bE (ps:=[]) hS Hd dq rfl (us:=[]) trivial (ws:=[aj 0,a8 cr,a8 cr,.slice none 0 0,aj 0,aj 0,aj 0,.bool false]) rfl) fun a hS=>?_;refine go hS fun a w hS=>?_;cases hM
  refine aH hS Tryz.results50 (bj hS rfl 0 rfl bZ rfl (fun h=>by cases h) (az hS rfl aF)) ?_;exact⟨.slice none 0 0,[],rfl,td _ _ _ _ _ _⟩
 refine al hS fun a hS=>?_;obtain⟨m,f,hM⟩:=bd hM;refine wl rfl (bD (R:=aa) hS dM bZ rfl rfl 1 rfl f rfl fun A E B o a hS=>?_);obtain⟨H,rfl,k⟩:=o;replace hS:=hS.fS k;refine al hS fun a hS=>?_;obtain⟨G,j,hM⟩:=bd hM;refine kc hS MN (wm _ _ hS.dlt m _ (hS.get 0 rfl) _ j) fun _ w hR a hk hA=>?_;obtain⟨q,l,he,d⟩:=hR;obtain rfl:=he.symm;have hS:=qe hA d;refine go hS fun a w hS=>?_;cases hM
 refine aH hS Tryz.results50 (bj hS rfl 1 rfl bZ rfl (fun h=>by cases h) (az hS rfl aF)) ?_;exact⟨q,l,rfl,hS.retOwn ⟨.inr (aG (i:=0) rfl),trivial⟩ 0 rfl 0 rfl⟩
def oG (b:LR) (c:Int):Option LR:=(qw b c b.length).bind fun e=>(qw (List.take (Int.toNat c) b++List.replicate ((Int.toNat (b.length:Int))-(Int.toNat c)) (ab.mk (ah.mk (0:Int) cr) cr [] (0:Int) (0:Int) (0:Int) false)++List.drop (Int.toNat (b.length:Int)) b) 0 c).bind fun d=>some (d)
def qV (c:Int) (d:LR) (b:Int):Option (Fl (LR×Int×Int) (LR×Int)):=some (.go (d,b,IntKind.i64.wrap (c+1)))
def qW (f:ab→Option Bool) (b:LR) (c:Int) (d:Int):Option (Fl (LR×Int×Int) (LR×Int)):=cond (decide (d<(b.length:Int))) ((bg b d).bind fun e=>(f e).bind fun g=>cond (!(g)) ((bg b c).bind fun h=>qV d (b.set (Int.toNat c) e) (IntKind.i64.wrap (c+1))) (qV d b c)) (some (.out (b,c)))
def vT (c:ab→Option Bool) (d:LR):Option LR:=(dt c d).bind fun b=>cond (b==(-1)) (some (d)) ((loop (fun s:LR×Int×Int=>qW c s.1 s.2.1 s.2.2) (d,b,IntKind.i64.wrap (b+1))).bind fun r=>oG r.1 r.2)
theorem Fp (T:Nat→Prop) (W0:World) (hT:TW T W0) (del_g:Nat) (m:aU aQ del_g=true) (del_k:bh) (del_P:bQ) (i:ab→Option Bool) (u:∀ (T:Nat→Prop) (W0:World) (hT:TW T W0) (hLv:dx T W0) (hP:del_P.p T W0) (x0:ab) (K:Value) (b4:aD ac T W0 K x0.Reads) (y:Bool) (hM:i x0=some y),bc aQ No del_g ([.agg (aE x0 K).toArray]++del_k) W0 (fun v w'=>v = .bool y)) (z:LR) (b:Value) (dR:bh) (hD:vL T W0 [ae b dR]) (a9:aB aa (dT T [ae b dR]) W0 dR z) (hLv:dx (dT T [ae b dR]) W0) (hPdel_:del_P.p (dT T [ae b dR]) W0) (y:LR) (hM:vT i z=some y):bc aQ (MD [ae b dR]) 82 [b,.func (.func del_g) #[] del_k.toArray] W0 (fun v w'=>∃ (v3:Value) (wO:bh),v=v3∧aB aa (dT T [ae v3 wO]) w' wO y∧nO W0 w' [ae b dR] [ae v3 wO]):=by
 refine gg (c:=_) Tryz.func82 rfl T 42 Tryz.ntmps82 hT rfl hD fun a hS=>?_;replace hS:=((hS.fact del_P hPdel_).fact bu hLv).fR a9;unfold vT at hM;refine al hS fun a hS=>?_;have hL:=hS;replace hL:=hL.freeze (R:=aa) 0 rfl 0 rfl;obtain⟨bs,G,hM⟩:=bd hM;refine kc hS Ku (pY _ _ hL.dlt (hL.get 2 rfl) del_g m del_k del_P i u (hL.get 3 rfl) z _ (hL.get 0 rfl) _ G) fun _ w hR a hk hA=>?_;obtain rfl:=hR;have hS:=bS hA;refine al hS fun a hS=>?_;refine aA ?_;refine al hS fun a hS=>?_;rcases cd hM with⟨N,hM⟩|⟨N,hM⟩
 ·refine al hS fun a hS=>?_;cases hM
  refine aH hS rfl (az hS rfl aF) ?_;have hZ:=hS.sl [0] [0];exact⟨b,dR,rfl,(hZ.get 0 rfl),hZ.dnew⟩
 refine al hS fun a hS=>?_;refine aJ (J:=fun a w=>∃ (e:LR) (l:Int) (n:LV),St W0 (MD [ae b dR]) T 42 [(0,b),(5,aj l)] [ae b n] [ao aa n e,bu,del_P] a w∧oG e l=some y) ?_ ?_
 ·skip;refine al hS fun a hS=>?_;obtain⟨r1,a5,hMo1⟩:=bd hM;refine bB _ (fun s a w=>∃ (g:LR) (f:Int) (d:Int) (o:LV),(g,f,d)=s∧St W0 (MD [ae b dR]) T 42 [(0,b),(1,.func (.func del_g) #[] del_k.toArray),(5,aj f),(6,aj d)] [ae b o] [ao aa o g,bu,del_P] a w) a5 ⟨_,_,_,_,rfl,hS.mt [0] [0,1,2]⟩ ?_;rintro s a w f1 ⟨g,f,d,o,rfl,hS⟩ hM hf1;have hM:qW i g f d=some f1:=hM;unfold qW at hM;refine aA ?_;refine al hS fun a hS=>?_;rcases cd hM with⟨O,hM⟩|⟨O,hM⟩
  ·refine al hS fun a hS=>?_;refine aJ (J:=fun a w=>∃ (t:LR) (r:Int) (q:LV),St W0 (MD [ae b dR]) T 42 [(0,b),(1,.func (.func del_g) #[] del_k.toArray),(5,aj r),(6,aj d)] [ae b q] [ao aa q t,bu,del_P] a w∧qV d t r=some f1) ?_ ?_
   ·skip;refine al hS fun a hS=>?_;obtain⟨j,C,hM⟩:=bd hM;refine wl rfl (cU (R:=aa) hS dM bZ rfl rfl 0 rfl 0 rfl C rfl fun af b8 bb an P Q S a hS=>?_);obtain⟨A,rfl,H⟩:=P;replace hS:=hS.fS H;refine qy hS (bp (k:=0) hS bZ 0 rfl Q S rfl id (us:=(aE j A)) rfl rfl (fun h=>by cases h)) fun a hS=>?_;refine ka hS dq fun ag b2 a w hk hS=>?_;refine go hS fun a w hS=>?_;obtain⟨bl,F,hM⟩:=bd hM;refine wl rfl (sU (cap:=del_k) hS rfl m rfl rfl (u _ _ hS.dlt (hS.get 2 rfl) (hS.get 3 rfl) j _ (hS.get 0 rfl) _ F) fun _ w hR a hk hA=>?_);obtain rfl:=hR;have hS:=bS hA;refine al hS fun a hS=>?_;rcases cd hM with⟨U,hM⟩|⟨U,hM⟩
    ·refine al hS fun a hS=>?_;obtain⟨M,x,hM⟩:=bd hM;refine wl rfl (cU (R:=aa) hS dM bZ rfl rfl 1 rfl 1 rfl x rfl fun ak b9 bi av V W X a hS=>?_);obtain⟨a0,rfl,I⟩:=V;replace hS:=hS.fS I;refine wl rfl (fW (R:=aa) (k:=0) (cs:=(aE M a0)) (us:=(aE j A)) (x':=j) hS rfl rfl rfl bZ 1 rfl 2 rfl W X x (⟨_,rfl,(hS.get 0 rfl)⟩) rfl rfl (⟨_,rfl,(hS.get 1 rfl)⟩) fun b0 w hk hS=>?_);exact fz
    exact fz
   rintro a w ⟨t,r,q,hS,hM⟩;unfold qV at hM;exact fz
  refine al hS fun a hS=>?_;cases hM
  have hr:=hf1 _ rfl;subst hr;have hM:oG g f=some y:=hMo1;exact⟨_,_,_,hS.mt [0] [0,1,2],hM⟩
 rintro a w ⟨e,l,n,hS,hM⟩;unfold oG at hM;refine al hS fun a hS=>?_;obtain⟨b5,D,hM⟩:=bd hM;obtain⟨B,b3,Y,Z⟩:=MS (R:=aa) hS dM bZ 0 rfl 0 rfl D;replace hS:=hS.fact (NL 8 b B (Int.toNat l) (Int.toNat (e.length:Int)) e.length) Y;refine wl rfl (ky (v:=B) hS (Z (k2:=.i64) rfl (.inl ⟨_,rfl,rfl⟩) (.inr ⟨rfl,rfl⟩)) rfl rfl fun a hS=>?_);refine wl rfl (IX (R:=aa) (z0:=(ab.mk (ah.mk (0:Int) cr) cr [] (0:Int) (0:Int) (0:Int) false)) (xs:=e) hS rJ dq rfl 0 rfl 1 rfl (hS.get 0 rfl) (⟨_,rfl,aD.nil_ _ _ _⟩) fun b1 w hk hS=>?_);refine al hS fun a hS=>?_;obtain⟨b6,E,hM⟩:=bd hM;refine wl rfl (GL (R:=aa) (k1:=.i64) hS dM bZ rfl (.inr ⟨rfl,rfl⟩) (.inl ⟨_,rfl,rfl⟩) 0 rfl 0 rfl E rfl fun a1 L a hS=>?_);refine al hS fun a hS=>?_;cases hM
 refine aH hS rfl (az hS rfl aF) ?_;have hZ:=hS.sl [0] [0];exact⟨a1,L,rfl,(hZ.get 0 rfl),hZ.dnew⟩
def mw (c:ab) (b:ah):Option Bool:=some (c.Key.Kind==b.Kind&&c.Key.Text.toList==b.Text.toList)
theorem xN (T:Nat→Prop) (W0:World) (hT:TW T W0) (c:ab) (b:ah) (g:Value) (d:Nat) (f:aD ac T W0 g c.Reads) (e:(k9 d 0 (aX b)).p T W0) (y:Bool) (hM:mw c b=some y):bc aQ No 83 [.agg (aE c g).toArray,pt d 0] W0 (fun v w'=>v = .bool y):=by
 refine en Tryz.func83 Tryz.ntmps83 hT fun a hS=>?_;replace hS:=(hS.fact (k9 d 0 (aX b)) (bQ.dn _ e)).fS (aD.dn f);unfold mw at hM;refine al hS fun a hS=>?_;refine kb hS fun h i a w hk hS=>?_;refine al hS fun a hS=>?_;refine wl rfl (ky (v:=.bool (c.Key.Kind==b.Kind&&c.Key.Text.toList==b.Text.toList)) hS (z7 hS rfl rfl) rfl rfl fun a hS=>?_);exact fz
def pE (e:LR) (d:ah):Option LR:=(nw e).bind fun b=>(vT (fun f=>mw f d) b).bind fun c=>some (c)
theorem Ag (T:Nat→Prop) (W0:World) (hT:TW T W0) (hLv:dx T W0) (f:LR) (c:ah) (r:Value) (q:aD aa T W0 r f) (y:LR) (hM:pE f c=some y):bc aQ No 51 [r,.agg (aX c).toArray] W0 (fun v w'=>∃ (o:Value) (jT:bh),v=o∧ip aa T W0 w' [ae o jT] 33 o jT y):=by
 refine en Tryz.func51 Tryz.ntmps51 hT fun a hS=>?_;replace hS:=(hS.fact bu (dx.dn hLv)).fS (aD.dn q);unfold pE at hM;refine al hS fun a hS=>?_;refine kb hS fun b u a w hk hS=>?_;refine al hS fun a hS=>?_;obtain⟨m,g,hM⟩:=bd hM;refine kc hS MM (uV _ _ hS.dlt f _ (hS.get 0 rfl) _ g) fun _ w hR a hk hA=>?_;obtain⟨z,t,he,d⟩:=hR;obtain rfl:=he.symm;have hS:=qe hA d;replace hS:=hS.freezeBox 1 rfl;refine qy hS (zG (vs:=[pt b 0]) hS rfl) fun a hS=>?_;obtain⟨x,h,hM⟩:=bd hM;replace hS:=hS.re [0] [];refine wl rfl (bC hS Oe rfl rfl (Fp _ _ hS.dltD 83 Of [pt b 0] (FY (k9 b 0 (aX c)) Ck) (fun p=>mw p c) (fun T W0 hT hLv hP p s l y hM=>xN T W0 hT p c s b l hP.1 y hM) m _ _ hS.dok (hS.getD 1 rfl) (hS.getD 3 rfl) ⟨(hS.getD 0 rfl),trivial⟩ _ h) fun _ w hR a hk hA=>?_);obtain⟨n,j,he,e,k⟩:=hR;obtain rfl:=he.symm;have hS:=hA _ k;replace hS:=hS.fR (e.keep (ai _ _) (au _));refine al hS fun a hS=>?_;cases hM
 refine aH hS rfl (az hS rfl aF) ?_;exact⟨n,j,rfl,hS.retOwn ⟨.inr (aG (i:=0) rfl),trivial⟩ 0 rfl 0 rfl⟩
def ld (b:am) (c:LK) (d:LR):Option (am×LK×Int):=some (((am.mk b.Revision b.Inputs d),c,0))
def jo (b:Int) (e:Int) (c:LK) (d:LR):Option (Fl (Int×LK×Int×LR) (LK×LR)):=some (.go (e,c,IntKind.i64.wrap (b+1),d))
def gO (n:am) (h:Int) (j:LK) (i:LK) (g:Int) (d:LK) (e:Int) (f:LR):Option (Fl (Int×LK×Int×LR) (LK×LR)):=cond (decide (e<(i.length:Int))) ((bg i e).bind fun c=>cond (decide (g≤h)) (some (.out (d,f))) ((nU j c).bind fun k=>cond k (jo e g d f) ((pF n.Records c).bind fun b=>(jO (ab.mk (ah.mk b.1.Key.Kind b.1.Key.Text) b.1.Value b.1.Reads b.1.Changed b.1.Verified b.1.Cost b.1.Dirty)).bind fun l=>gd (bT (d.length+([c]).length)) <| (pE f c).bind fun m=>jo e (IntKind.i64.wrap (g-l)) (d++([c])) m))) (some (.out (d,f)))
def bY (c:am) (b:Int) (e:LK):Option (am×LK×Int):=(hO c).bind fun g=>cond (!(g)) (some (((am.mk 0 ([]:List aZ) ([]:List ab)),([]:List ah),42))) (cond (decide (b<0)) (some (((am.mk 0 ([]:List aZ) ([]:List ab)),([]:List ah),2))) (cond (decide ((1073741824:Int)<b)) (some (((am.mk 0 ([]:List aZ) ([]:List ab)),([]:List ah),2))) ((iV c).bind fun d=>(dj c.Records).bind fun h=>(dS c.Records).bind fun f=>(loop (fun s:Int×LK×Int×LR=>gO c b e f s.1 s.2.1 s.2.2.1 s.2.2.2) (h,([]:List ah),0,d.Records)).bind fun r=>ld d r.1 r.2)))
theorem ef (T:Nat→Prop) (W0:World) (hT:TW T W0) (b:am) (e:Int) (i:LK) (V:Value) (W:Value) (X:Value) (hD:vL T W0 []) (c1:aD ad (dT T []) W0 V b.Inputs) (c2:aD aa (dT T []) W0 W b.Records) (c3:aD ac (dT T []) W0 X i) (hLv:dx (dT T []) W0) (y:am×LK×Int) (hM:bY b e i=some y):bc aQ (MD []) 20 [.agg (aY b V W).toArray,aj e,X] W0 (fun v w'=>∃ (v4:Value) (xJ:bh) (v6:Value) (xo:bh) (v8:Value) (Cc:bh),v = .tuple #[.agg (aY y.1 v4 v6).toArray,v8,aj y.2.2]∧aB ad (dT T [aT v4 xJ,ae v6 xo,ay v8 Cc]) w' xJ y.1.Inputs∧aB aa (dT T [aT v4 xJ,ae v6 xo,ay v8 Cc]) w' xo y.1.Records∧aB ac (dT T [aT v4 xJ,ae v6 xo,ay v8 Cc]) w' Cc y.2.1∧nO W0 w' [] [aT v4 xJ,ae v6 xo,ay v8 Cc]):=by
 refine gg (c:=_) Tryz.func20 rfl T 71 Tryz.ntmps20 hT rfl hD fun a hS=>?_;replace hS:=(((hS.fact bu hLv).fS c1).fS c2).fS c3;unfold bY at hM;refine al hS fun a hS=>?_;refine kb hS fun t cs a w hk hS=>?_;refine ka hS i8 fun o cv a w hk hS=>?_;refine al hS fun a hS=>?_;refine aA ?_;refine al hS fun a hS=>?_;obtain⟨dn,b1,hM⟩:=bd hM;refine kc hS NU (w4 _ _ hS.dlt (hS.get 3 rfl) b _ _ (hS.get 2 rfl) (hS.get 1 rfl) _ b1) fun _ w hR a hk hA=>?_;obtain rfl:=hR;have hS:=bS hA;refine al hS fun a hS=>?_;rcases cd hM with⟨b3,hM⟩|⟨b3,hM⟩
 ·refine al hS fun a hS=>?_;refine qy hS (bE (ps:=[]) hS CY i8 rfl (us:=[]) trivial (ws:=[aj 0,.slice none 0 0,.slice none 0 0]) rfl) fun a hS=>?_;refine go hS fun a w hS=>?_;replace hS:=((hS.nilRow ad 75 (by decide)).nilRow aa 33 (by decide)).nilRow ac 31 (by decide);cases hM
  refine aH hS Tryz.results20 (bj hS rfl 3 rfl gK rfl (fun h=>by cases h) (az hS rfl (az hS rfl aF))) ?_;have hZ:=hS.sl [2,1,0] [2,1,0];exact⟨(.slice none 0 0),[],(.slice none 0 0),[],(.slice none 0 0),[],rfl,(hZ.get 0 rfl),(hZ.get 1 rfl),(hZ.get 2 rfl),hZ.dnew⟩
 refine al hS fun a hS=>?_;refine i1 ?_;refine al hS fun a hS=>?_;rcases cd hM with⟨b4,hM⟩|⟨b4,hM⟩
 ·refine al hS fun a hS=>?_;refine qy hS (bE (ps:=[]) hS CY i8 rfl (us:=[]) trivial (ws:=[aj 0,.slice none 0 0,.slice none 0 0]) rfl) fun a hS=>?_;refine go hS fun a w hS=>?_;replace hS:=((hS.nilRow ad 75 (by decide)).nilRow aa 33 (by decide)).nilRow ac 31 (by decide);cases hM
  refine aH hS Tryz.results20 (bj hS rfl 3 rfl gK rfl (fun h=>by cases h) (az hS rfl (az hS rfl aF))) ?_;have hZ:=hS.sl [2,1,0] [2,1,0];exact⟨(.slice none 0 0),[],(.slice none 0 0),[],(.slice none 0 0),[],rfl,(hZ.get 0 rfl),(hZ.get 1 rfl),(hZ.get 2 rfl),hZ.dnew⟩
 refine al hS fun a hS=>?_;rcases cd hM with⟨b5,hM⟩|⟨b5,hM⟩
 ·refine al hS fun a hS=>?_;refine qy hS (bE (ps:=[]) hS CY i8 rfl (us:=[]) trivial (ws:=[aj 0,.slice none 0 0,.slice none 0 0]) rfl) fun a hS=>?_;refine go hS fun a w hS=>?_;replace hS:=((hS.nilRow ad 75 (by decide)).nilRow aa 33 (by decide)).nilRow ac 31 (by decide);cases hM
  refine aH hS Tryz.results20 (bj hS rfl 3 rfl gK rfl (fun h=>by cases h) (az hS rfl (az hS rfl aF))) ?_;have hZ:=hS.sl [2,1,0] [2,1,0];exact⟨(.slice none 0 0),[],(.slice none 0 0),[],(.slice none 0 0),[],rfl,(hZ.get 0 rfl),(hZ.get 1 rfl),(hZ.get 2 rfl),hZ.dnew⟩
 refine al hS fun a hS=>?_;obtain⟨f,af,hM⟩:=bd hM;refine kc hS NV (xQ _ _ hS.dlt b _ _ (hS.get 2 rfl) (hS.get 1 rfl) _ af) fun _ w hR a hk hA=>?_;obtain⟨n,j,e0,ca,he,Y,Z,bF⟩:=hR;obtain rfl:=he.symm;have hS:=Aw hA Y Z bF;refine ka hS i8 fun p d0 a w hk hS=>?_;refine go hS fun a w hS=>?_;obtain⟨ds,b2,hM⟩:=bd hM;refine kc hS zY (eg _ _ hS.dlt b.Records _ (hS.get 3 rfl) _ b2) fun _ w hR a hk hA=>?_;obtain rfl:=hR;have hS:=bS hA;refine al hS fun a hS=>?_;refine aJ (J:=fun a w=>∃ (K:LK) (M:LR) (C:Value) (u:LV) (D:Value) (z:LV),St W0 (MD []) T 71 [(6,pt o 0),(9,pt p 0),(11,C)] [ay C u,.box o [aj 0,.slice none 0 0,.slice none 0 0] 25,aT n j,ae D z,.box p (aY f n D) 25] [ao ac u K,ao ad j f.Inputs,ao aa z M,bu] a w∧ld f K M=some y) ?_ ?_
 ·skip;refine al hS fun a hS=>?_;obtain⟨r,ag,hM⟩:=bd hM;refine kc hS Kk (rZ _ _ hS.dlt (hS.get 5 rfl) b.Records _ (hS.get 3 rfl) _ ag) fun _ w hR a hk hA=>?_;obtain⟨E,A,he,a0⟩:=hR;obtain rfl:=he.symm;have hS:=qe hA a0;refine al hS fun a hS=>?_;replace hS:=hS.nilRow ac 31 (by decide);obtain⟨r1,c0,hMo1⟩:=bd hM;refine bB _ (fun s a w=>∃ (B:Int) (l:LK) (q:Int) (m:LR) (P:Value) (F:LV) (Q:Value) (G:LV),(B,l,q,m)=s∧St W0 (MD []) T 71 [(1,aj e),(2,X),(3,pt t 0),(6,pt o 0),(9,pt p 0),(10,aj B),(11,P),(36,E),(37,aj (r.length:Int)),(38,aj q)] [ay P F,ay E A,.box t (aY b V W) 25,.box o [aj 0,.slice none 0 0,.slice none 0 0] 25,aT n j,ae Q G,.box p (aY f n Q) 25] [aK ac X i,ao ac F l,ao ac A r,aK ad V b.Inputs,aK aa W b.Records,ao ad j f.Inputs,ao aa G m,bu] a w) c0 ⟨_,_,_,_,_,_,_,_,rfl,hS.mt [0,1,6,5,3,4,2] [4,0,1,6,5,3,2,7]⟩ ?_;rintro s a w f1 ⟨B,l,q,m,P,F,Q,G,rfl,hS⟩ hM hf1;have hM:gO b e i r B l q m=some f1:=hM;unfold gO at hM;refine al hS fun a hS=>?_;refine aA ?_;rcases cd hM with⟨b6,hM⟩|⟨b6,hM⟩
  ·refine al hS fun a hS=>?_;refine aJ (J:=fun a w=>∃ (O:Int) (L:LK) (N:LR) (S:Value) (H:LV) (U:Value) (I:LV),St W0 (MD []) T 71 [(1,aj e),(2,X),(3,pt t 0),(6,pt o 0),(9,pt p 0),(10,aj O),(11,S),(36,E),(37,aj (r.length:Int)),(38,aj q)] [ay S H,ay E A,.box t (aY b V W) 25,.box o [aj 0,.slice none 0 0,.slice none 0 0] 25,aT n j,ae U I,.box p (aY f n U) 25] [aK ac X i,ao ac H L,ao ac A r,aK ad V b.Inputs,aK aa W b.Records,ao ad j f.Inputs,ao aa I N,bu] a w∧jo q O L N=some f1) ?_ ?_
   ·skip;refine al hS fun a hS=>?_;obtain⟨d,a9,hM⟩:=bd hM;refine wl rfl (cU (R:=ac) hS mM e7 rfl rfl 1 rfl 2 rfl a9 rfl fun c4 d3 d4 ch b8 b9 bb a hS=>?_);obtain rfl:=b8;refine qy hS (bp (k:=0) hS e7 1 rfl b9 bb rfl id (us:=(aX d)) rfl rfl (fun h=>by cases h)) fun a hS=>?_;refine ka hS gl fun c5 d1 a w hk hS=>?_;refine go hS fun a w hS=>?_;refine aA ?_;refine al hS fun a hS=>?_;rcases cd hM with⟨bi,hM⟩|⟨bi,hM⟩
    ·refine al hS fun a hS=>?_;cases hM
     have hr:=hf1 _ rfl;subst hr;have hM:ld f l m=some y:=hMo1;exact⟨_,_,_,_,_,_,hS.mt [1,4,5,6,7] [1,5,6,7],hM⟩
    refine al hS fun a hS=>?_;refine aA ?_;refine al hS fun a hS=>?_;obtain⟨d5,ak,hM⟩:=bd hM;refine kc hS NW (yx _ _ hS.dlt i d _ (hS.get 0 rfl) _ ak) fun _ w hR a hk hA=>?_;obtain rfl:=hR;have hS:=bS hA;refine al hS fun a hS=>?_;rcases cd hM with⟨bl,hM⟩|⟨bl,hM⟩
    ·exact fz
    refine al hS fun a hS=>?_;obtain⟨g,an,hM⟩:=bd hM;refine kc hS NX (Ah _ _ hS.dlt (hS.get 7 rfl) b.Records d _ (hS.get 4 rfl) _ an) fun _ w hR a hk hA=>?_;obtain⟨e2,ck,he,a1⟩:=hR;obtain rfl:=he.symm;have hS:=qe hA a1;refine al hS fun a hS=>?_;refine ka hS dq fun c6 d2 a w hk hS=>?_;refine go hS fun a w hS=>?_;have hL:=hS;replace hL:=hL.freeze (R:=ac) 1 rfl 0 rfl;obtain⟨d6,av,hM⟩:=bd hM;refine kc hS Ie (pi _ _ hL.dlt (ab.mk (ah.mk g.1.Key.Kind g.1.Key.Text) g.1.Value g.1.Reads g.1.Changed g.1.Verified g.1.Cost g.1.Dirty) _ (hL.get 0 rfl) _ av) fun _ w hR a hk hA=>?_;obtain rfl:=hR;have hS:=bS hA;refine al hS fun a hS=>?_;refine wl rfl (bf (ps:=[(0,.tmp 60)]) hS gf gl (zl:=[aj 0,a8 cr]) (by kernel_rfl) rfl (us:=[(aX d)]) ⟨rfl,trivial⟩ (ws:=(aX d)) rfl rfl rfl rfl fun c9 a w hk hS=>?_);replace hS:=(hS.lit (R:=ac) (us:=(aX d)) (xs:=[d]) 0 rfl (by decide) (aB.one_ (R:=ac) (x:=d) rfl) rfl rfl).freeze (R:=ac) 0 rfl 0 rfl;obtain⟨bs,hM⟩:=bo hM;refine wl rfl (bM (R:=ac) (xs:=l) (ys:=[d]) hS gf (by decide) (by decide) rfl rfl 3 rfl 4 rfl 0 rfl bs rfl fun e3 cl a w hk hS=>?_);refine al hS fun a hS=>?_;replace hS:=hS.freeze (R:=aa) 8 rfl 10 rfl;obtain⟨dl,b0,hM⟩:=bd hM;refine kc hS NY (Ag _ _ hS.dlt (hS.get 12 rfl) m d _ (hS.get 0 rfl) _ b0) fun _ w hR a hk hA=>?_;obtain⟨e4,co,he,a2⟩:=hR;obtain rfl:=he.symm;have hS:=qe hA a2;exact fz
   rintro a w ⟨O,L,N,S,H,U,I,hS,hM⟩;unfold jo at hM;exact fz
  refine al hS fun a hS=>?_;cases hM
  have hr:=hf1 _ rfl;subst hr;have hM:ld f l m=some y:=hMo1;exact⟨_,_,_,_,_,_,hS.mt [0,3,4,5,6] [1,5,6,7],hM⟩
 rintro a w ⟨K,M,C,u,D,z,hS,hM⟩;unfold ld at hM;refine go hS fun a w hS=>?_;cases hM
 refine aH hS Tryz.results20 (bj hS rfl 1 rfl gK rfl (fun h=>by cases h) (az hS rfl (az hS rfl aF))) ?_;have hZ:=hS.sl [2,3,0] [1,2,0];exact⟨n,j,D,z,C,u,rfl,(hZ.get 0 rfl),(hZ.get 1 rfl),(hZ.get 2 rfl),hZ.dnew⟩
def gQ (b:Bool):Option Bool:=some (b)
def da:Option Bool:=(bY (am.mk 0 ([]) ([(ab.mk (ah.mk 31 (ByteArray.mk #[48])) (ByteArray.mk #[49]) ([]) 0 0 2 false),(ab.mk (ah.mk 31 (ByteArray.mk #[49])) (ByteArray.mk #[49]) ([]) 0 0 1 false)])) 20 ([])).bind fun b=>cond (b.2.2==0) ((dI b.2.1 ([(ah.mk 31 (ByteArray.mk #[49]))])).bind fun c=>cond c (cond ((b.1.Records.length:Int)==1) ((dj b.1.Records).bind fun d=>gQ (d==18)) (gQ false)) (gQ false)) (gQ false)
theorem du (T:Nat→Prop) (W0:World) (hT:TW T W0) (hLv:dx T W0) (y:Bool) (hM:da=some y):bc aQ No 9 [] W0 (fun v w'=>v = .bool y):=by
 refine en Tryz.func9 Tryz.ntmps9 hT fun a hS=>?_;replace hS:=hS.fact bu (dx.dn hLv);unfold da at hM;refine al hS fun a hS=>?_;refine qy hS (bE (ps:=[(0,.const (aj 31)),(1,.const (.string ⟨#[48]⟩))]) hS BH gl rfl (us:=[[aj 31],[a8 (ByteArray.mk #[48])]]) ⟨rfl,⟨rfl,trivial⟩⟩ (ws:=[aj 31,a8 (ByteArray.mk #[48])]) rfl) fun a hS=>?_;refine qy hS (bE (ps:=[(0,.tmp 6),(1,.const (.string ⟨#[49]⟩)),(5,.const (aj 2))]) hS Hd dq rfl (us:=[[aj 31,a8 (ByteArray.mk #[48])],[a8 (ByteArray.mk #[49])],[aj 2]]) ⟨rfl,⟨rfl,⟨rfl,trivial⟩⟩⟩ (ws:=[aj 31,a8 (ByteArray.mk #[48]),a8 (ByteArray.mk #[49]),.slice none 0 0,aj 0,aj 0,aj 2,.bool false]) rfl) fun a hS=>?_;refine ka hS dq fun p A a w hk hS=>?_;refine go hS fun a w hS=>?_;refine qy hS (bE (ps:=[(0,.const (aj 31)),(1,.const (.string ⟨#[49]⟩))]) hS BH gl rfl (us:=[[aj 31],[a8 (ByteArray.mk #[49])]]) ⟨rfl,⟨rfl,trivial⟩⟩ (ws:=[aj 31,a8 (ByteArray.mk #[49])]) rfl) fun a hS=>?_;refine qy hS (bE (ps:=[(0,.tmp 8),(1,.const (.string ⟨#[49]⟩)),(5,.const (aj 1))]) hS Hd dq rfl (us:=[[aj 31,a8 (ByteArray.mk #[49])],[a8 (ByteArray.mk #[49])],[aj 1]]) ⟨rfl,⟨rfl,⟨rfl,trivial⟩⟩⟩ (ws:=[aj 31,a8 (ByteArray.mk #[49]),a8 (ByteArray.mk #[49]),.slice none 0 0,aj 0,aj 0,aj 1,.bool false]) rfl) fun a hS=>?_;refine ka hS dq fun q B a w hk hS=>?_;refine go hS fun a w hS=>?_;refine wl rfl (bf (ps:=[(0,.tmp 11),(1,.tmp 12)]) hS rJ dq (zl:=[aj 0,a8 cr,a8 cr,.slice none 0 0,aj 0,aj 0,aj 0,.bool false,aj 0,a8 cr,a8 cr,.slice none 0 0,aj 0,aj 0,aj 0,.bool false]) (by kernel_rfl) rfl (us:=[[aj 31,a8 (ByteArray.mk #[48]),a8 (ByteArray.mk #[49]),.slice none 0 0,aj 0,aj 0,aj 2,.bool false],[aj 31,a8 (ByteArray.mk #[49]),a8 (ByteArray.mk #[49]),.slice none 0 0,aj 0,aj 0,aj 1,.bool false]]) ⟨rfl,⟨rfl,trivial⟩⟩ (ws:=[aj 31,a8 (ByteArray.mk #[48]),a8 (ByteArray.mk #[49]),.slice none 0 0,aj 0,aj 0,aj 2,.bool false,aj 31,a8 (ByteArray.mk #[49]),a8 (ByteArray.mk #[49]),.slice none 0 0,aj 0,aj 0,aj 1,.bool false]) rfl rfl rfl rfl fun d a w hk hS=>?_);replace hS:=hS.lit (R:=aa) (us:=[aj 31,a8 (ByteArray.mk #[48]),a8 (ByteArray.mk #[49]),.slice none 0 0,aj 0,aj 0,aj 2,.bool false,aj 31,a8 (ByteArray.mk #[49]),a8 (ByteArray.mk #[49]),.slice none 0 0,aj 0,aj 0,aj 1,.bool false]) (xs:=[(ab.mk (ah.mk 31 (ByteArray.mk #[48])) (ByteArray.mk #[49]) ([]) 0 0 2 false),(ab.mk (ah.mk 31 (ByteArray.mk #[49])) (ByteArray.mk #[49]) ([]) 0 0 1 false)]) 0 rfl (by decide) ((aB.one_ (R:=aa) (x:=(ab.mk (ah.mk 31 (ByteArray.mk #[48])) (ByteArray.mk #[49]) ([]) 0 0 2 false)) (⟨_,rfl,aD.nil_ _ _ _⟩)).append (aB.one_ (R:=aa) (x:=(ab.mk (ah.mk 31 (ByteArray.mk #[49])) (ByteArray.mk #[49]) ([]) 0 0 1 false)) (⟨_,rfl,aD.nil_ _ _ _⟩))) rfl rfl;skip;refine qy hS (bE (ps:=[(2,.tmp 13)]) hS CY i8 rfl (us:=[[(.slice (some ⟨d,0,none⟩) 2 2)]]) ⟨(lb (iD (hS.own _ (aG (i:=0) rfl)).1)),trivial⟩ (ws:=[aj 0,.slice none 0 0,(.slice (some ⟨d,0,none⟩) 2 2)]) rfl) fun a hS=>?_;replace hS:=((hS.fact (aK ad (.slice none 0 0) []) (aD.nil_ _ _ _)).freeze (R:=aa) 0 rfl 1 rfl).fact (aK ac (.slice none 0 0) []) (aD.nil_ _ _ _);obtain⟨j,k,hM⟩:=bd hM;replace hS:=hS.re [] [0,1];refine wl rfl (bC hS zZ rfl rfl (ef _ _ hS.dltD (am.mk 0 ([]) ([(ab.mk (ah.mk 31 (ByteArray.mk #[48])) (ByteArray.mk #[49]) ([]) 0 0 2 false),(ab.mk (ah.mk 31 (ByteArray.mk #[49])) (ByteArray.mk #[49]) ([]) 0 0 1 false)])) 20 ([]) _ _ _ hS.dok (hS.getD 2 rfl) (hS.getD 1 rfl) (hS.getD 0 rfl) (hS.getD 4 rfl) _ k) fun _ w hR a hk hA=>?_);obtain⟨F,t,G,u,H,z,he,f,g,h,n⟩:=hR;obtain rfl:=he.symm;have hS:=hA _ n;replace hS:=((hS.fR (f.keep (ai _ _) (au _))).fR (g.keep (ai _ _) (au _))).fR (h.keep (ai _ _) (au _));refine al hS fun a hS=>?_;refine ka hS i8 fun r C a w hk hS=>?_;refine go hS fun a w hS=>?_;refine aJ (J:=fun a w=>∃ (b:Bool),St W0 No T 40 [(0,.bool b)] [] [bu] a w∧gQ b=some y) ?_ ?_
 ·skip;refine al hS fun a hS=>?_;rcases cd hM with⟨c,hM⟩|⟨c,hM⟩
  ·refine al hS fun a hS=>?_;refine wg hS rfl rfl rfl c (bf (ps:=[(0,.tmp 24)]) hS gf gl (zl:=[aj 0,a8 cr]) (by kernel_rfl) rfl (us:=[[aj 31,a8 (ByteArray.mk #[49])]]) ⟨rfl,trivial⟩ (ws:=[aj 31,a8 (ByteArray.mk #[49])]) rfl rfl rfl rfl fun s a w hk hS=>?_);replace hS:=hS.lit (R:=ac) (us:=[aj 31,a8 (ByteArray.mk #[49])]) (xs:=[(ah.mk 31 (ByteArray.mk #[49]))]) 0 rfl (by decide) (aB.one_ (R:=ac) (x:=(ah.mk 31 (ByteArray.mk #[49]))) rfl) rfl rfl;have hL:=hS;replace hL:=hL.freeze (R:=ac) 4 rfl 1 rfl;replace hL:=hL.freeze (R:=ac) 0 rfl 1 rfl;obtain⟨D,l,hM⟩:=bd hM;refine wg hS rfl rfl rfl c (be hS Gl rfl rfl (jA _ _ hL.dlt j.2.1 ([(ah.mk 31 (ByteArray.mk #[49]))]) _ _ (hL.get 1 rfl) (hL.get 0 rfl) _ l) fun _ w hR a hk hA=>?_);obtain rfl:=hR;have hS:=bS hA;refine al hS fun a hS=>?_;rcases cd hM with⟨o,hM⟩|⟨o,hM⟩
   ·refine al hS fun a hS=>?_;rcases cd hM with⟨e,hM⟩|⟨e,hM⟩
    ·refine al hS fun a hS=>?_;have hL:=hS;replace hL:=hL.freeze (R:=aa) 3 rfl 2 rfl;obtain⟨E,m,hM⟩:=bd hM;refine wg hS rfl rfl rfl e (be hS zY rfl rfl (eg _ _ hL.dlt j.1.Records _ (hL.get 0 rfl) _ m) fun _ w hR a hk hA=>?_);obtain rfl:=hR;have hS:=bS hA;exact fz
    exact fz
   exact fz
  exact fz
 rintro a w ⟨b,hS,hM⟩;unfold gQ at hM;exact fz
def jr (b:(LU×am×aW)) (c:LR) (d:LN) (e:Int):Option (LU×am×aW):=some ((b.1,(am.mk b.2.1.Revision b.2.1.Inputs c),(aW.mk d e)))
def gB (e:Int) (c:LN) (d:Int) (b:LR):Option (Fl (Int×LN×Int×LR) (LR×LN×Int)):=some (.go (IntKind.i64.wrap (e+1),c,d,b))
def lU (l:(LU×am×aW)) (c:Int) (i:LN) (j:Int) (d:LR):Option (Fl (Int×LN×Int×LR) (LR×LN×Int)):=cond (decide (c<(l.2.1.Records.length:Int))) ((bJ (aW.mk i j) 4).bind fun f=>(bg d c).bind fun b=>(bJ (aW.mk f.2.L f.2.At) 3).bind fun g=>cond (g.1==0) ((bg (d.set (Int.toNat c) (ab.mk b.Key b.Value b.Reads b.Changed b.Verified (IntKind.i64.wrap (1+f.1)) b.Dirty)) c).bind fun k=>(cP k).bind fun m=>(bJ (aW.mk g.2.L g.2.At) 2).bind fun h=>(bg (d.set (Int.toNat c) (ab.mk b.Key b.Value b.Reads b.Changed b.Verified (IntKind.i64.wrap (1+f.1)) b.Dirty)) c).bind fun e=>gB c h.2.L h.2.At ((d.set (Int.toNat c) (ab.mk b.Key b.Value b.Reads b.Changed b.Verified (IntKind.i64.wrap (1+f.1)) b.Dirty)).set (Int.toNat c) (ab.mk e.Key e.Value e.Reads e.Changed e.Verified (IntKind.i64.wrap (m*(IntKind.i64.wrap (1+h.1)))) e.Dirty))) (gB c g.2.L g.2.At (d.set (Int.toNat c) (ab.mk b.Key b.Value b.Reads b.Changed b.Verified (IntKind.i64.wrap (1+f.1)) b.Dirty)))) (some (.out (d,i,j)))
def fg (c:aW):Option (LU×am×aW):=(sE c 6).bind fun b=>(loop (fun s:Int×LN×Int×LR=>lU b s.1 s.2.1 s.2.2.1 s.2.2.2) (0,b.2.2.L,b.2.2.At,b.2.1.Records)).bind fun r=>jr b r.1 r.2.1 r.2.2
theorem mR (T:Nat→Prop) (W0:World) (hT:TW T W0) (A:aW) (f:Value) (e:Nat) (d3:W0.heap[e]? = some (.cells (a6 A f).toArray 73 (0,0))) (ck:¬ T e) (d5:aD (aS.int .i64) (dT T [.box e (a6 A f) 73]) W0 f A.L) (hLv:dx (dT T [.box e (a6 A f) 73]) W0) (y:LU×am×aW) (hM:fg A=some y):bc aQ (fun k=>k=e) 11 [pt e 0] W0 (fun v w'=>∃ (v3:Value) (v4:Value) (Y:Value) (vJ:bh) (V:Value),v = .tuple #[v3,.agg (aY y.2.1 v4 Y).toArray]∧aD aw (dT T [ae Y vJ,.box e (a6 y.2.2 V) 73]) w' v3 y.1∧aD ad (dT T [ae Y vJ,.box e (a6 y.2.2 V) 73]) w' v4 y.2.1.Inputs∧ip aa T W0 w' [ae Y vJ,.box e (a6 y.2.2 V) 73] 33 Y vJ y.2.1.Records∧w'.heap[e]? = some (.cells (a6 y.2.2 V).toArray 73 (0,0))∧aD (aS.int .i64) (dT T [ae Y vJ,.box e (a6 y.2.2 V) 73]) w' V y.2.2.L∧f=V):=by
 refine rY (c:=_) Tryz.func11 rfl T 47 Tryz.ntmps11 hT rfl d3 ck fun a hS=>?_;replace hS:=(hS.fact bu hLv).fS d5;unfold fg at hM;refine al hS fun a hS=>?_;refine ka hS i8 fun g e4 a w hk hS=>?_;refine al hS fun a hS=>?_;obtain⟨d,av,hM⟩:=bd hM;refine wl rfl (lg hS NO rfl rfl 1 rfl (CS _ _ (hS.drop 1).dlt A 6 _ _ (hS.boxRow 1 rfl) (hS.notin 1 rfl) (aD.lent (i:=1) rfl (hS.get 0 rfl)) (bu.keep (hS.get 1 rfl) (ai _ _) (fun k hk=>.inl ((nV (i:=1) rfl k).1 hk))) _ av) fun _ w hR hk=>?_);obtain⟨n,o,b,x,ed,he,a1,a2,⟨a0,Z,a3⟩,hrow,a4,F⟩:=hR;obtain rfl:=he.symm;subst F;refine⟨(a6 d.2.2 f),[ae b x],hrow,fG ⟨a0,by decide⟩ Z,uz _,fun a hS=>?_⟩;replace hS:=(((hS.fR (a3.keep (ai _ _) (Nw.back2 (i:=1) rfl [ae b x] _))).fS (a1.sub (Nw.back2 (i:=1) rfl [ae b x] _))).fS (a2.sub (Nw.back2 (i:=1) rfl [ae b x] _))).fS (a4.sub (Nw.back2 (i:=1) rfl [ae b x] _));refine al hS fun a hS=>?_;refine ka hS i8 fun p e5 a w hk hS=>?_;refine go hS fun a w hS=>?_;refine aJ (J:=fun a w=>∃ (G:LR) (M:LN) (N:Int) (B:LV),St W0 (fun k=>k=e) T 47 [(3,pt g 0),(4,n),(5,pt p 0)] [.box g [aj 0,.slice none 0 0,.slice none 0 0] 25,ae b B,.box p (aY d.2.1 o b) 25,.box e [f,aj N] 73] [aK aw n d.1,aK ad o d.2.1.Inputs,ao aa B G,aK (aS.int .i64) f M,bu] a w∧jr d G M N=some y) ?_ ?_
 ·skip;refine al hS fun a hS=>?_;obtain⟨r1,d4,hMo1⟩:=bd hM;refine bB _ (fun s a w=>∃ (t:Int) (q:LN) (r:Int) (u:LR) (I:LV),(t,q,r,u)=s∧St W0 (fun k=>k=e) T 47 [(0,pt e 0),(3,pt g 0),(4,n),(5,pt p 0),(14,aj (d.2.1.Records.length:Int)),(15,aj t)] [.box e [f,aj r] 73,.box g [aj 0,.slice none 0 0,.slice none 0 0] 25,ae b I,.box p (aY d.2.1 o b) 25] [aK aw n d.1,aK (aS.int .i64) f q,aK ad o d.2.1.Inputs,ao aa I u,bu] a w) d4 ⟨_,_,_,_,_,rfl,hS.mt [3,2,1,0] [2,0,1,3,5]⟩ ?_;rintro s a w f1 ⟨t,q,r,u,I,rfl,hS⟩ hM hf1;have hM:lU d t q r u=some f1:=hM;unfold lU at hM;refine al hS fun a hS=>?_;refine aA ?_;rcases cd hM with⟨bl,hM⟩|⟨bl,hM⟩
  ·refine al hS fun a hS=>?_;refine aJ (J:=fun a w=>∃ (O:LN) (P:Int) (H:LR) (K:LV),St W0 (fun k=>k=e) T 47 [(0,pt e 0),(3,pt g 0),(4,n),(5,pt p 0),(14,aj (d.2.1.Records.length:Int)),(15,aj t)] [.box e [f,aj P] 73,.box g [aj 0,.slice none 0 0,.slice none 0 0] 25,ae b K,.box p (aY d.2.1 o b) 25] [aK aw n d.1,aK (aS.int .i64) f O,aK ad o d.2.1.Inputs,ao aa K H,bu] a w∧gB t O P H=some f1) ?_ ?_
   ·skip;refine al hS fun a hS=>?_;refine aA ?_;refine dr [(4,.blk (some e)),(8,.blk (Value.ownBlock b))] hS fun w hQ hS=>?_;refine gE [0] hS fun a hS=>?_;refine dy (l:=[.blk (some e)]) 1 (v:=b) rfl (by kernel_rfl) (by kernel_rfl) (by kernel_rfl) (by kernel_rfl) hQ hS (dQ hS rfl LP 3 rfl (iZ hS 3 rfl rfl 0 rfl rfl (by decide) br) (us:=[b]) rfl rfl (fun _=>rfl)) rfl rfl rfl fun a hS=>?_;refine gE [2,3] hS fun a hS=>?_;obtain⟨z,b0,hM⟩:=bd hM;refine e1 4 (cn hS lO rfl rfl 0 rfl (bn _ _ (hS.drop 0).dlt (aW.mk q r) 4 _ _ (hS.boxRow 0 rfl) (hS.notin 0 rfl) (aD.lent (i:=0) rfl (hS.get 1 rfl)) _ b0) fun _ w hR hk=>?_);obtain⟨ek,he,hrow,a5,C⟩:=hR;obtain rfl:=he.symm;subst C;refine⟨(a6 z.2 f),hrow,fun a hS=>⟨jl rfl hk jn,?_⟩⟩;replace hS:=hS.fS (aD.back (i:=0) rfl a5);refine gE [5] hS fun a hS=>?_;obtain⟨j,W,hM⟩:=bd hM;obtain⟨b9,cl,e6,dn,bs,bt,bF,c0⟩:=bP (R:=aa) hS dM bZ 2 rfl 4 rfl W;obtain⟨d0,rfl,b5⟩:=bs;replace hS:=hS.fS b5;refine dy 6 (v:=pt b9 cl) rfl (by kernel_rfl) (by kernel_rfl) (by kernel_rfl) rfl hQ hS (c0 rfl rfl) rfl rfl rfl fun a hS=>?_;refine gE [7] hS fun a hS=>?_;refine e1 8 (fW (R:=aa) (k:=6) (cs:=(aE j d0)) (us:=[aj (IntKind.i64.wrap (1+z.1))]) (x':=(ab.mk j.Key j.Value j.Reads j.Changed j.Verified (IntKind.i64.wrap (1+z.1)) j.Dirty)) hS rfl rfl rfl zB 2 rfl 5 rfl bt bF W (⟨_,rfl,(hS.get 0 rfl)⟩) rfl rfl (⟨_,rfl,(hS.get 0 rfl)⟩) fun ds w hk hS=>⟨jl rfl hk im,?_⟩);refine eD ?_;refine al hS fun a hS=>?_;obtain⟨S,b2,hM⟩:=bd hM;refine wl rfl (cn hS lO rfl rfl 0 rfl (bn _ _ (hS.drop 0).dlt (aW.mk z.2.L z.2.At) 3 _ _ (hS.boxRow 0 rfl) (hS.notin 0 rfl) (aD.lent (i:=0) rfl (hS.get 2 rfl)) _ b2) fun _ w hR hk=>?_);obtain⟨el,he,hrow,a9,D⟩:=hR;obtain rfl:=he.symm;subst D;refine⟨(a6 S.2 f),hrow,fun a hS=>?_⟩;replace hS:=hS.fS (aD.back (i:=0) rfl a9);refine al hS fun a hS=>?_;rcases cd hM with⟨c1,hM⟩|⟨c1,hM⟩
    ·refine al hS fun a hS=>?_;refine dr [(10,.blk (some e)),(15,.blk (Value.ownBlock b))] hS fun w hQ hS=>?_;refine gE [0] hS fun a hS=>?_;refine dy (l:=[.blk (some e)]) 1 (v:=b) rfl (by kernel_rfl) (by kernel_rfl) (by kernel_rfl) (by kernel_rfl) hQ hS (dQ hS rfl LP 3 rfl (iZ hS 3 rfl rfl 0 rfl rfl (by decide) br) (us:=[b]) rfl rfl (fun _=>rfl)) rfl rfl rfl fun a hS=>?_;refine gE [2,3,4,5] hS fun a hS=>?_;obtain⟨Q,an,hM⟩:=bd hM;obtain⟨bb,co,ea,e0,c2,c3,c4,c5⟩:=bP (R:=aa) hS dM bZ 2 rfl 1 rfl an;obtain⟨ak,rfl,b6⟩:=c2;replace hS:=hS.fS b6;refine dy 6 (v:=pt bb co) rfl (by kernel_rfl) (by kernel_rfl) (by kernel_rfl) rfl hQ hS (c5 rfl rfl) rfl rfl rfl fun a hS=>?_;refine dy (l:=[]) 7 (v:=.agg (aE Q ak).toArray) rfl (by kernel_rfl) (by kernel_rfl) (by kernel_rfl) (by kernel_rfl) hQ hS (bp (k:=0) hS bZ 2 rfl c3 c4 rfl br (us:=(aE Q ak)) rfl rfl (fun h=>by cases h)) rfl rfl rfl fun a hS=>?_;refine gE [9] hS fun a hS=>?_;obtain⟨ag,b3,hM⟩:=bd hM;refine ec 8 hS xI (dL _ _ hS.dlt Q _ (hS.get 0 rfl) _ b3) fun _ w hR a hk hA=>?_;obtain rfl:=hR;have hS:=bS hA;obtain⟨U,b4,hM⟩:=bd hM;refine e1 10 (cn hS lO rfl rfl 0 rfl (bn _ _ (hS.drop 0).dlt (aW.mk S.2.L S.2.At) 2 _ _ (hS.boxRow 0 rfl) (hS.notin 0 rfl) (aD.lent (i:=0) rfl (hS.get 1 rfl)) _ b4) fun _ w hR hk=>?_);obtain⟨em,he,hrow,af,E⟩:=hR;obtain rfl:=he.symm;subst E;refine⟨(a6 U.2 f),hrow,fun a hS=>⟨jl rfl hk jn,?_⟩⟩;replace hS:=hS.fS (aD.back (i:=0) rfl af);refine gE [11,12] hS fun a hS=>?_;obtain⟨m,X,hM⟩:=bd hM;obtain⟨bi,cv,eb,e2,c6,c9,ca,ch⟩:=bP (R:=aa) hS dM bZ 2 rfl 3 rfl X;obtain⟨d1,rfl,b8⟩:=c6;replace hS:=hS.fS b8;refine dy 13 (v:=pt bi cv) rfl (by kernel_rfl) (by kernel_rfl) (by kernel_rfl) rfl hQ hS (ch rfl rfl) rfl rfl rfl fun a hS=>?_;refine gE [14] hS fun a hS=>?_;refine e1 15 (fW (R:=aa) (k:=6) (cs:=(aE m d1)) (us:=[aj (IntKind.i64.wrap (ag*(IntKind.i64.wrap (1+U.1))))]) (x':=(ab.mk m.Key m.Value m.Reads m.Changed m.Verified (IntKind.i64.wrap (ag*(IntKind.i64.wrap (1+U.1)))) m.Dirty)) hS rfl rfl rfl zB 2 rfl 4 rfl c9 ca X (⟨_,rfl,(hS.get 0 rfl)⟩) rfl rfl (⟨_,rfl,(hS.get 0 rfl)⟩) fun e3 w hk hS=>⟨jl rfl hk im,?_⟩);refine eD ?_;exact⟨_,_,_,_,hS.mt [0,1,2,3] [8,2,10,0,12],hM⟩
    exact fz
   rintro a w ⟨O,P,H,K,hS,hM⟩;unfold gB at hM;exact fz
  refine al hS fun a hS=>?_;cases hM
  have hr:=hf1 _ rfl;subst hr;have hM:jr d u q r=some y:=hMo1;exact⟨_,_,_,_,hS.mt [1,2,3,0] [0,2,3,1,4],hM⟩
 rintro a w ⟨G,M,N,B,hS,hM⟩;unfold jr at hM;refine aA ?_;refine dr [(3,.blk (some g))] hS fun w hQ hS=>?_;refine gE [0,1,2] hS fun a hS=>?_;refine es 3 hS fun w hS=>?_;refine eD ?_;refine al hS fun a hS=>?_;cases hM
 refine aH hS Tryz.results11 (az hS rfl (bj hS rfl 0 rfl gK rfl (fun h=>by cases h) aF)) ?_;exact⟨n,o,b,B,f,rfl,(aD.up ⟨.inr (aG (i:=1) rfl),⟨.inr (aG (i:=3) rfl),trivial⟩⟩ (hS.get 0 rfl)),(aD.up ⟨.inr (aG (i:=1) rfl),⟨.inr (aG (i:=3) rfl),trivial⟩⟩ (hS.get 1 rfl)),hS.retOwnm ⟨.inr (aG (i:=1) rfl),⟨.inr (aG (i:=3) rfl),trivial⟩⟩ 1 rfl 2 rfl 3 rfl (by decide),hS.boxRow 3 rfl,(aD.up ⟨.inr (aG (i:=1) rfl),⟨.inr (aG (i:=3) rfl),trivial⟩⟩ (hS.get 3 rfl)),rfl⟩
def rA (b:LK):Option LK:=some (b)
def jI (e:LR) (c:LK) (b:Int):Option (Fl (LK×Int) (LK)):=cond (decide (b<(e.length:Int))) ((bg e b).bind fun d=>gd (bT (c.length+([d.Key]).length)) <| some (.go ((c++([d.Key])),IntKind.i64.wrap (b+1)))) (some (.out c))
def pN (c:LR):Option LK:=(iL c).bind fun b=>(loop (fun s:LK×Int=>jI b s.1 s.2) (([]:List ah),0)).bind fun r=>rA r
theorem Ao (T:Nat→Prop) (W0:World) (hT:TW T W0) (hLv:dx T W0) (p:LR) (I:Value) (H:aD aa T W0 I p) (y:LK) (hM:pN p=some y):bc aQ No 18 [I] W0 (fun v w'=>∃ (F:Value) (jT:bh),v=F∧ip ac T W0 w' [ay F jT] 31 F jT y):=by
 refine en Tryz.func18 Tryz.ntmps18 hT fun a hS=>?_;replace hS:=(hS.fact bu (dx.dn hLv)).fS (aD.dn H);unfold pN at hM;refine al hS fun a hS=>?_;refine aJ (J:=fun a w=>∃ (j:LK) (f:Value) (d:LV),St W0 No T 20 [(3,f)] [ay f d] [ao ac d j,bu] a w∧rA j=some y) ?_ ?_
 ·skip;refine al hS fun a hS=>?_;obtain⟨l,t,hM⟩:=bd hM;refine kc hS MI (u5 _ _ hS.dlt (hS.get 1 rfl) p _ (hS.get 0 rfl) _ t) fun _ w hR a hk hA=>?_;obtain⟨q,n,he,o⟩:=hR;obtain rfl:=he.symm;have hS:=qe hA o;refine al hS fun a hS=>?_;replace hS:=hS.nilRow ac 31 (by decide);obtain⟨W,G,hMo1⟩:=bd hM;refine bB _ (fun s a w=>∃ (c:LK) (e:Int) (m:Value) (g:LV),(c,e)=s∧St W0 No T 20 [(3,m),(7,q),(8,aj (l.length:Int)),(9,aj e)] [ay m g,ae q n] [ao ac g c,ao aa n l,bu] a w) G ⟨_,_,_,_,rfl,hS.mt [0,1] [0,1,3]⟩ ?_;rintro s a w P ⟨c,e,m,g,rfl,hS⟩ hM hf1;have hM:jI l c e=some P:=hM;unfold jI at hM;refine al hS fun a hS=>?_;refine aA ?_;rcases cd hM with⟨z,hM⟩|⟨z,hM⟩
  ·refine al hS fun a hS=>?_;refine aA ?_;refine al hS fun a hS=>?_;obtain⟨b,r,hM⟩:=bd hM;refine wl rfl (cU (R:=aa) hS dM bZ rfl rfl 1 rfl 1 rfl r rfl fun K S U N A B C a hS=>?_);obtain⟨E,rfl,u⟩:=A;replace hS:=hS.fS u;refine qy hS (bp (k:=0) hS bZ 1 rfl B C rfl id (us:=(aE b E)) rfl rfl (fun h=>by cases h)) fun a hS=>?_;refine ka hS dq fun L Q a w hk hS=>?_;refine go hS fun a w hS=>?_;refine wl rfl (bf (ps:=[(0,.tmp 15)]) hS gf gl (zl:=[aj 0,a8 cr]) (by kernel_rfl) rfl (us:=[(aX b.Key)]) ⟨rfl,trivial⟩ (ws:=(aX b.Key)) rfl rfl rfl rfl fun M a w hk hS=>?_);replace hS:=(hS.lit (R:=ac) (us:=(aX b.Key)) (xs:=[b.Key]) 0 rfl (by decide) (aB.one_ (R:=ac) (x:=b.Key) rfl) rfl rfl).freeze (R:=ac) 0 rfl 0 rfl;obtain⟨D,hM⟩:=bo hM;refine wl rfl (bM (R:=ac) (xs:=c) (ys:=[b.Key]) hS gf (by decide) (by decide) rfl rfl 1 rfl 3 rfl 0 rfl D rfl fun V O a w hk hS=>?_);exact fz
  exact fz
 rintro a w ⟨j,f,d,hS,hM⟩;unfold rA at hM;refine al hS fun a hS=>?_;cases hM
 refine aH hS rfl (az hS rfl aF) ?_;exact⟨f,d,rfl,hS.retOwn ⟨.inr (aG (i:=0) rfl),trivial⟩ 0 rfl 0 rfl⟩
def jf (b:Bool):Option Bool:=some (b)
def f8 (c:(LU×am×aW)) (b:Int):Option Bool:=(dj c.2.1.Records).bind fun d=>cond (b==d) ((da).bind fun e=>jf e) (jf false)
def eN (b:Int) (c:Int):Option (Fl (Int×Int) (Fl (Int) Bool)):=some (.go (c,IntKind.i64.wrap (b+1)))
def cJ (d:Int) (b:Int) (e:Int) (c:Bool):Option (Fl (Int×Int) (Fl (Int) Bool)):=cond c (some (.out (.out false))) (eN b (IntKind.i64.wrap (d+e)))
def jg (e:Int) (c:Int) (b:(ab×Bool)) (f:Int) (g:Int) (h:ByteArray) (i:ByteArray) (j:LK) (k:Int) (l:Int) (d:Int) (m:Bool):Option (Fl (Int×Int) (Fl (Int) Bool)):=(cP (ab.mk (ah.mk b.1.Key.Kind b.1.Key.Text) b.1.Value b.1.Reads b.1.Changed b.1.Verified b.1.Cost b.1.Dirty)).bind fun n=>(cP (ab.mk (ah.mk g h) i j k l d m)).bind fun o=>cond (decide ((IntKind.i64.wrap (b.1.Cost*o):Int)<(IntKind.i64.wrap (d*n)))) (cJ e c f true) (cond ((IntKind.i64.wrap (d*n):Int)==(IntKind.i64.wrap (b.1.Cost*o))) ((cP (ab.mk (ah.mk g h) i j k l d m)).bind fun p=>(cP (ab.mk (ah.mk b.1.Key.Kind b.1.Key.Text) b.1.Value b.1.Reads b.1.Changed b.1.Verified b.1.Cost b.1.Dirty)).bind fun q=>cond (decide (p<q)) (cJ e c f true) ((cP (ab.mk (ah.mk g h) i j k l d m)).bind fun r=>(cP (ab.mk (ah.mk b.1.Key.Kind b.1.Key.Text) b.1.Value b.1.Reads b.1.Changed b.1.Verified b.1.Cost b.1.Dirty)).bind fun s=>cond (r==s) ((iu (ah.mk g h) (ah.mk b.1.Key.Kind b.1.Key.Text)).bind fun t=>cJ e c f (decide ((0:Int)≤t))) (cJ e c f false))) (cJ e c f false))
def eO (g:(LU×am×aW)) (f:LK) (e:Int) (d:Int):Option (Fl (Int×Int) (Fl (Int) Bool)):=cond (decide (d<(f.length:Int))) ((bg f d).bind fun i=>(bX g.2.1.Records i).bind fun b=>cond (!(b.2)) (some (.out (.out false))) ((cP (ab.mk (ah.mk b.1.Key.Kind b.1.Key.Text) b.1.Value b.1.Reads b.1.Changed b.1.Verified b.1.Cost b.1.Dirty)).bind fun h=>cond (decide ((0:Int)<d)) ((bg f (IntKind.i64.wrap (d-1))).bind fun j=>(bX g.2.1.Records j).bind fun c=>jg e d b h c.1.Key.Kind c.1.Key.Text c.1.Value c.1.Reads c.1.Changed c.1.Verified c.1.Cost c.1.Dirty) (eN d (IntKind.i64.wrap (e+h))))) (some (.out (.go e)))
def gA (d:LN):Option Bool:=(iQ d).bind fun e=>cond (!(e)) ((da).bind fun f=>some (f)) ((qG d).bind fun g=>(fg g).bind fun b=>(dS b.2.1.Records).bind fun c=>cond ((c.length:Int) != (b.2.1.Records.length:Int)) (some (false)) ((iG c).bind fun h=>cond ((h.length:Int) != (c.length:Int)) (some (false)) ((loop (fun s:Int×Int=>eO b c s.1 s.2) (0,0)).bind fun r=>Fl.el r (fun s=>f8 b s) (fun y=>some (y)))))
theorem vo (T:Nat→Prop) (W0:World) (hT:TW T W0) (hLv:dx T W0) (W:LN) (v1:Value) (fr:aD (aS.int .i64) T W0 v1 W) (y:Bool) (hM:gA W=some y):bc aQ No 7 [v1] W0 (fun v w'=>v = .bool y):=by
 refine en Tryz.func7 Tryz.ntmps7 hT fun a hS=>?_;replace hS:=(hS.fact bu (dx.dn hLv)).fS (aD.dn fr);unfold gA at hM;refine al hS fun a hS=>?_;refine aA ?_;refine al hS fun a hS=>?_;obtain⟨h3,d2,hM⟩:=bd hM;refine kc hS NA (qp _ _ hS.dlt W _ (hS.get 0 rfl) _ d2) fun _ w hR a hk hA=>?_;obtain rfl:=hR;have hS:=bS hA;refine al hS fun a hS=>?_;rcases cd hM with⟨e5,hM⟩|⟨e5,hM⟩
 ·refine al hS fun a hS=>?_;obtain⟨h4,d3,hM⟩:=bd hM;refine kc hS FX (du _ _ hS.dlt (hS.get 1 rfl) _ d3) fun _ w hR a hk hA=>?_;obtain rfl:=hR;have hS:=bS hA;exact fz
 refine al hS fun a hS=>?_;obtain⟨bt,d4,hM⟩:=bd hM;refine kc hS Ia (rP _ _ hS.dlt W _ (hS.get 0 rfl) _ d4) fun _ w hR a hk hA=>?_;obtain⟨d6,bF,he,fl,ag,b3⟩:=hR;obtain rfl:=he.symm;have hS:=hA [.box d6 (a6 bt bF) 73] (fG ag (fun k hk=>by simp only [cz.dom,cS] at hk; omega)) (uz _);replace hS:=hS.fS (b3.sub (oE _));obtain⟨c,c4,hM⟩:=bd hM;refine wl rfl (lg hS Ib rfl rfl 0 rfl (mR _ _ (hS.drop 0).dlt bt _ _ (hS.boxRow 0 rfl) (hS.notin 0 rfl) (aD.lent (i:=0) rfl (hS.get 0 rfl)) (bu.keep (hS.get 2 rfl) (ai _ _) (fun k hk=>.inl ((nV (i:=0) rfl k).1 hk))) _ c4) fun _ w hR hk=>?_);obtain⟨h6,o,e,d,h7,he,b4,b5,⟨ak,a2,b6⟩,hrow,b8,E⟩:=hR;obtain rfl:=he.symm;subst E;refine⟨(a6 c.2.2 bF),[ae e d],hrow,fG ⟨ak,by decide⟩ a2,uz _,fun a hS=>?_⟩;replace hS:=(((hS.fR (b6.keep (ai _ _) (Nw.back2 (i:=0) rfl [ae e d] _))).fS (b4.sub (Nw.back2 (i:=0) rfl [ae e d] _))).fS (b5.sub (Nw.back2 (i:=0) rfl [ae e d] _))).fS (b8.sub (Nw.back2 (i:=0) rfl [ae e d] _));refine al hS fun a hS=>?_;refine ka hS i8 fun g g3 a w hk hS=>?_;refine go hS fun a w hS=>?_;have hL:=hS;replace hL:=hL.freeze (R:=aa) 1 rfl 3 rfl;obtain⟨n,d1,hM⟩:=bd hM;refine kc hS Kk (rZ _ _ hL.dlt (hL.get 7 rfl) c.2.1.Records _ (hL.get 0 rfl) _ d1) fun _ w hR a hk hA=>?_;obtain⟨f,p,he,⟨an,a3,b9⟩⟩:=hR;obtain rfl:=he.symm;have hS:=hA [ay f p] (fG ⟨an,by decide⟩ a3) (uz _);replace hS:=hS.fR b9;refine al hS fun a hS=>?_;refine aA ?_;refine i1 ?_;refine al hS fun a hS=>?_;rcases cd hM with⟨Z,hM⟩|⟨Z,hM⟩
 ·exact fz
 refine al hS fun a hS=>?_;have hL:=hS;replace hL:=hL.freeze (R:=ac) 0 rfl 0 rfl;obtain⟨h5,d5,hM⟩:=bd hM;refine wg hS rfl rfl rfl Z (be hS Km rfl rfl (ro _ _ hL.dlt (hL.get 8 rfl) n _ (hL.get 0 rfl) _ d5) fun _ w hR a hk hA=>?_);obtain⟨f6,e2,he,⟨av,a4,bb⟩⟩:=hR;obtain rfl:=he.symm;have hS:=hA [ay f6 e2] (fG ⟨av,by decide⟩ a4) (uz _);replace hS:=hS.fR bb;refine al hS fun a hS=>?_;rcases cd hM with⟨e6,hM⟩|⟨e6,hM⟩
 ·exact fz
 refine al hS fun a hS=>?_;refine aJ (J:=fun a w=>∃ (P:Int),St W0 No T 124 [(4,pt g 0),(6,aj P)] [ae e d,.box g (aY c.2.1 o e) 25] [aK ad o c.2.1.Inputs,ao aa d c.2.1.Records,bu] a w∧f8 c P=some y) ?_ ?_
 ·skip;refine al hS fun a hS=>?_;obtain⟨r1,fn,hMo1⟩:=bd hM;refine bB _ (fun s a w=>∃ (q:Int) (m:Int),(q,m)=s∧St W0 No T 124 [(4,pt g 0),(5,f),(6,aj q),(42,f),(43,aj (n.length:Int)),(44,aj m)] [ay f p,ae e d,.box g (aY c.2.1 o e) 25] [ao ac p n,aK ad o c.2.1.Inputs,ao aa d c.2.1.Records,bu] a w) fn ⟨_,_,rfl,hS.mt [1,3,2] [1,3,5,8]⟩ ?_;rintro s a w f1 ⟨q,m,rfl,hS⟩ hM hf1;have hM:eO c n q m=some f1:=hM;unfold eO at hM;refine al hS fun a hS=>?_;refine aA ?_;rcases cd hM with⟨ea,hM⟩|⟨ea,hM⟩
  ·refine al hS fun a hS=>?_;refine aJ (J:=fun a w=>∃ (Q:Int),St W0 No T 124 [(4,pt g 0),(5,f),(6,aj Q),(42,f),(43,aj (n.length:Int)),(44,aj m)] [ay f p,ae e d,.box g (aY c.2.1 o e) 25] [ao ac p n,aK ad o c.2.1.Inputs,ao aa d c.2.1.Records,bu] a w∧eN m Q=some f1) ?_ ?_
   ·skip;refine al hS fun a hS=>?_;obtain⟨Y,c2,hM⟩:=bd hM;refine wl rfl (cU (R:=ac) hS mM e7 rfl rfl 0 rfl 0 rfl c2 rfl fun fM g6 g7 g1 eb ed ek a hS=>?_);obtain rfl:=eb;refine qy hS (bp (k:=0) hS e7 0 rfl ed ek rfl id (us:=(aX Y)) rfl rfl (fun h=>by cases h)) fun a hS=>?_;refine ka hS gl fun g0 g4 a w hk hS=>?_;refine go hS fun a w hS=>?_;have hL:=hS;replace hL:=hL.freeze (R:=aa) 2 rfl 2 rfl;obtain⟨b,ca,hM⟩:=bd hM;refine kc hS oC (bx _ _ hL.dlt c.2.1.Records Y _ (hL.get 0 rfl) _ ca) fun _ w hR a hk hA=>?_;obtain⟨S,H,he,⟨b0,a5,bi⟩⟩:=hR;obtain rfl:=he.symm;have hS:=hA [ay S H] (fG ⟨b0,by decide⟩ a5) (uz _);replace hS:=hS.fR bi;refine al hS fun a hS=>?_;refine ka hS dq fun X g5 a w hk hS=>?_;refine go hS fun a w hS=>?_;refine aA ?_;refine al hS fun a hS=>?_;rcases cd hM with⟨el,hM⟩|⟨el,hM⟩
    ·exact fz
    refine al hS fun a hS=>?_;have hL:=hS;replace hL:=hL.freeze (R:=ac) 1 rfl 0 rfl;obtain⟨F,c9,hM⟩:=bd hM;refine kc hS xI (dL _ _ hL.dlt (ab.mk (ah.mk b.1.Key.Kind b.1.Key.Text) b.1.Value b.1.Reads b.1.Changed b.1.Verified b.1.Cost b.1.Dirty) _ (hL.get 0 rfl) _ c9) fun _ w hR a hk hA=>?_;obtain rfl:=hR;have hS:=bS hA;refine al hS fun a hS=>?_;rcases cd hM with⟨em,hM⟩|⟨em,hM⟩
    ·refine al hS fun a hS=>?_;refine aJ (J:=fun a w=>∃ (r:Int) (t:ByteArray) (u:ByteArray) (x:LK) (z:Int) (A:Int) (B:Int) (C:Bool) (G:Nat) (U:Value) (I:LV),St W0 No T 124 [(4,pt g 0),(5,f),(6,aj (IntKind.i64.wrap (q+F))),(9,pt X 0),(11,pt G 0),(42,f),(43,aj (n.length:Int)),(44,aj m)] [ay f p,ae e d,.box g (aY c.2.1 o e) 25,ay S H,.box X (aE b.1 S) 33,ay U I,.box G [aj r,a8 t,a8 u,U,aj z,aj A,aj B,.bool C] 33] [ao ac p n,aK ad o c.2.1.Inputs,ao aa d c.2.1.Records,ao ac H b.1.Reads,ao ac I x,bu] a w∧jg q m b F r t u x z A B C=some f1) ?_ ?_
     ·skip;obtain⟨N169,c1⟩:∃ N,N=w.heap.size:=⟨_,rfl⟩;replace hS:=hS.fact (Ds N169) (qh c1);refine dr [(12,.new N169)] hS fun w hQ hS=>?_;refine gE [0,1,2,3,4] hS fun a hS=>?_;obtain⟨D,c3,hM⟩:=bd hM;obtain⟨dl,f4,g8,g2,ep,eq,er,et⟩:=bP (R:=ac) hS mM e7 3 rfl 2 rfl c3;obtain rfl:=ep;refine dy 5 (v:=pt dl f4) rfl (by kernel_rfl) (by kernel_rfl) (by kernel_rfl) rfl hQ hS (et rfl rfl) rfl rfl rfl fun a hS=>?_;refine dy (l:=[]) 6 (v:=.agg (aX D).toArray) rfl (by kernel_rfl) (by kernel_rfl) (by kernel_rfl) (by kernel_rfl) hQ hS (bp (k:=0) hS e7 3 rfl eq er rfl br (us:=(aX D)) rfl rfl (fun h=>by cases h)) rfl rfl rfl fun a hS=>?_;have hL:=hS;replace hL:=hL.freeze (R:=aa) 4 rfl 4 rfl;obtain⟨h2,V,hM⟩:=bd hM;refine di (i:=7) (j:=11) rfl rfl (by kernel_rfl) rfl rfl ?_ ?_
      ·skip;skip;have hL:=hS;replace hL:=hL.freeze (R:=aa) 4 rfl 4 rfl;refine id (be hS oC rfl rfl (bx _ _ hL.dlt c.2.1.Records D _ (hL.get 0 rfl) _ V) fun _ w hR a hk hA=>⟨eS (hk),?_⟩);obtain⟨f7,e3,he,⟨b1,a9,bl⟩⟩:=hR;obtain rfl:=he.symm;have hS:=hA [ay f7 e3] (fG ⟨b1,by decide⟩ a9) (uz _);replace hS:=hS.fR bl;refine gE [8,9,10] hS fun a hS=>?_;have ew:=(hS.get 1 rfl:N169≤w.heap.size);refine e1 11 (cm hS dq rfl fun ds ex a w hk hS=>⟨eS (hk),?_⟩);refine cw 12 (.blk (some ds)) _ (by kernel_rfl) (k8 (cx ew ex)) ?_;refine es 12 hS fun w hS=>?_;refine gE [13] hS fun a hS=>?_;refine eD ?_;exact⟨_,_,_,_,_,_,_,_,_,_,_,hS.mt [5,6,7,3,2,1,0] [3,4,5,2,0,6],hM⟩
      skip;have ey:=(hS.get 0 rfl:N169≤w.heap.size);refine id (cm hS dq rfl fun e0 f2 a w hk hS=>⟨eS (hk),?_⟩);refine cw 12 (.blk (some e0)) _ (by kernel_rfl) (k8 (cx ey f2)) ?_;have hL:=hS;replace hL:=hL.freeze (R:=aa) 5 rfl 4 rfl;refine ec 7 hS oC (bx _ _ hL.dlt c.2.1.Records D _ (hL.get 0 rfl) _ V) fun _ w hR a hk hA=>?_;obtain⟨fd,e4,he,⟨b2,af,bs⟩⟩:=hR;obtain rfl:=he.symm;have hS:=hA [ay fd e4] (fG ⟨b2,by decide⟩ af) (uz _);replace hS:=hS.fR bs;refine gE [8,9,10] hS fun a hS=>?_;refine es 12 hS fun w hS=>?_;refine gE [13] hS fun a hS=>?_;refine eD ?_;exact⟨_,_,_,_,_,_,_,_,_,_,_,hS.mt [5,6,7,3,2,0,1] [3,4,5,2,0,6],hM⟩
     rintro a w ⟨r,t,u,x,z,A,B,C,G,U,I,hS,hM⟩;unfold jg at hM;refine aA ?_;refine dr [] hS fun w hQ hS=>?_;refine gE [0,1,2,5,6,7] hS fun a hS=>?_;have hL:=hS;replace hL:=hL.freeze (R:=ac) 3 rfl 3 rfl;obtain⟨gp,ch,hM⟩:=bd hM;refine ec 3 hS xI (dL _ _ hL.dlt (ab.mk (ah.mk b.1.Key.Kind b.1.Key.Text) b.1.Value b.1.Reads b.1.Changed b.1.Verified b.1.Cost b.1.Dirty) _ (hL.get 0 rfl) _ ch) fun _ w hR a hk hA=>?_;obtain rfl:=hR;have hS:=bS hA;refine gE [4] hS fun a hS=>?_;have hL:=hS;replace hL:=hL.freeze (R:=ac) 5 rfl 4 rfl;obtain⟨gs,ck,hM⟩:=bd hM;refine ec 8 hS xI (dL _ _ hL.dlt (ab.mk (ah.mk r t) u x z A B C) _ (hL.get 0 rfl) _ ck) fun _ w hR a hk hA=>?_;obtain rfl:=hR;have hS:=bS hA;refine gE [9,10,11] hS fun a hS=>?_;refine eD ?_;refine al hS fun a hS=>?_;refine aJ (J:=fun a w=>∃ (L:Bool),St W0 No T 124 [(4,pt g 0),(5,f),(6,aj (IntKind.i64.wrap (q+F))),(42,f),(43,aj (n.length:Int)),(44,aj m),(114,.bool L)] [ay f p,ae e d,.box g (aY c.2.1 o e) 25] [ao ac p n,aK ad o c.2.1.Inputs,ao aa d c.2.1.Records,bu] a w∧cJ q m F L=some f1) ?_ ?_
     ·skip;refine dr [] hS fun w hQ hS=>?_;refine gE [0,1,2,3] hS fun a hS=>?_;rcases cd hM with⟨f3,hM⟩|⟨f3,hM⟩
      ·refine gE [4,5,6,7,8,9,10,11,12,13,14,15,16,17,18,19,20,21,22,23,24,25,26,27,28,29] hS fun a hS=>?_;refine eD ?_;exact⟨_,hS.mt [0,1,2] [0,1,2,5],hM⟩
      refine gE [4,5,6,7] hS fun a hS=>?_;rcases cd hM with⟨M,hM⟩|⟨M,hM⟩
      ·refine gE [8,10] hS fun a hS=>?_;have hL:=hS;replace hL:=hL.freeze (R:=ac) 5 rfl 4 rfl;obtain⟨gu,cl,hM⟩:=bd hM;refine bV (i:=9) rfl (by kernel_rfl) hS rfl rfl rfl M (be hS xI rfl rfl (dL _ _ hL.dlt (ab.mk (ah.mk r t) u x z A B C) _ (hL.get 0 rfl) _ cl) fun _ w hR a hk hA=>⟨eS (hk),?_⟩);obtain rfl:=hR;have hS:=bS hA;have hL:=hS;replace hL:=hL.freeze (R:=ac) 3 rfl 3 rfl;obtain⟨gx,co,hM⟩:=bd hM;refine bV (i:=11) rfl (by kernel_rfl) hS rfl rfl rfl M (be hS xI rfl rfl (dL _ _ hL.dlt (ab.mk (ah.mk b.1.Key.Kind b.1.Key.Text) b.1.Value b.1.Reads b.1.Changed b.1.Verified b.1.Cost b.1.Dirty) _ (hL.get 0 rfl) _ co) fun _ w hR a hk hA=>⟨eS (hk),?_⟩);obtain rfl:=hR;have hS:=bS hA;refine gE [12,13] hS fun a hS=>?_;rcases cd hM with⟨O,hM⟩|⟨O,hM⟩
       ·refine gE [14,15,16,17,18,19,20,21,22,23,24,25,26,27,28,29] hS fun a hS=>?_;refine eD ?_;exact⟨_,hS.mt [0,1,2] [0,1,2,5],hM⟩
       refine gE [14,16] hS fun a hS=>?_;have hL:=hS;replace hL:=hL.freeze (R:=ac) 5 rfl 4 rfl;obtain⟨gy,cs,hM⟩:=bd hM;refine bV (i:=15) rfl (by kernel_rfl) hS rfl rfl rfl O (be hS xI rfl rfl (dL _ _ hL.dlt (ab.mk (ah.mk r t) u x z A B C) _ (hL.get 0 rfl) _ cs) fun _ w hR a hk hA=>⟨eS (hk),?_⟩);obtain rfl:=hR;have hS:=bS hA;have hL:=hS;replace hL:=hL.freeze (R:=ac) 3 rfl 3 rfl;obtain⟨h0,cv,hM⟩:=bd hM;refine bV (i:=17) rfl (by kernel_rfl) hS rfl rfl rfl O (be hS xI rfl rfl (dL _ _ hL.dlt (ab.mk (ah.mk b.1.Key.Kind b.1.Key.Text) b.1.Value b.1.Reads b.1.Changed b.1.Verified b.1.Cost b.1.Dirty) _ (hL.get 0 rfl) _ cv) fun _ w hR a hk hA=>⟨eS (hk),?_⟩);obtain rfl:=hR;have hS:=bS hA;refine gE [18,19] hS fun a hS=>?_;rcases cd hM with⟨a0,hM⟩|⟨a0,hM⟩
       ·refine gE [20,21,22,23] hS fun a hS=>?_;obtain⟨h1,d0,hM⟩:=bd hM;refine bV (i:=24) rfl (by kernel_rfl) hS rfl rfl rfl a0 (be hS DF rfl rfl (ln _ _ hS.dlt (hS.get 5 rfl) (ah.mk r t) (ah.mk b.1.Key.Kind b.1.Key.Text) _ d0) fun _ w hR a hk hA=>⟨eS (hk),?_⟩);obtain rfl:=hR;have hS:=bS hA;refine gE [25,26,27,28,29] hS fun a hS=>?_;refine eD ?_;exact⟨_,hS.mt [0,1,2] [0,1,2,5],hM⟩
       refine gE [20,21,22,23,24,25,26,27,28,29] hS fun a hS=>?_;refine eD ?_;exact⟨_,hS.mt [0,1,2] [0,1,2,5],hM⟩
      refine gE [8,9,10,11,12,13,14,15,16,17,18,19,20,21,22,23,24,25,26,27,28,29] hS fun a hS=>?_;refine eD ?_;exact⟨_,hS.mt [0,1,2] [0,1,2,5],hM⟩
     rintro a w ⟨L,hS,hM⟩;unfold cJ at hM;exact fz
    exact fz
   rintro a w ⟨Q,hS,hM⟩;unfold eN at hM;exact fz
  exact fz
 rintro a w ⟨P,hS,hM⟩;unfold f8 at hM;refine aJ (J:=fun a w=>∃ (K:Bool),St W0 No T 124 [(2,.bool K)] [] [bu] a w∧jf K=some y) ?_ ?_
 ·skip;refine al hS fun a hS=>?_;have hL:=hS;replace hL:=hL.freeze (R:=aa) 0 rfl 1 rfl;obtain⟨gb,c5,hM⟩:=bd hM;refine kc hS zY (eg _ _ hL.dlt c.2.1.Records _ (hL.get 0 rfl) _ c5) fun _ w hR a hk hA=>?_;obtain rfl:=hR;have hS:=bS hA;refine al hS fun a hS=>?_;rcases cd hM with⟨a1,hM⟩|⟨a1,hM⟩
  ·obtain⟨gi,c6,hM⟩:=bd hM;refine wg hS rfl rfl rfl a1 (be hS FX rfl rfl (du _ _ hS.dlt (hS.get 2 rfl) _ c6) fun _ w hR a hk hA=>?_);obtain rfl:=hR;have hS:=bS hA;exact fz
  exact fz
 rintro a w ⟨K,hS,hM⟩;unfold jf at hM;exact fz
def f0:Option Bool:=(da).bind fun b=>some (b)
def f5 (h:(LU×am×aW)) (f:LK) (g:(am×LK×Int)) (e:Int):Option (Fl (Int) (Fl (Unit) Bool)):=cond (decide (e<(f.length:Int))) ((bg f e).bind fun d=>(bX h.2.1.Records d).bind fun c=>(bX g.1.Records d).bind fun b=>cond (!(b.2)) (some (.out (.out false))) ((iT (ab.mk (ah.mk c.1.Key.Kind c.1.Key.Text) c.1.Value c.1.Reads c.1.Changed c.1.Verified c.1.Cost c.1.Dirty) (ab.mk (ah.mk b.1.Key.Kind b.1.Key.Text) b.1.Value b.1.Reads b.1.Changed b.1.Verified b.1.Cost b.1.Dirty)).bind fun i=>cond (!(i)) (some (.out (.out false))) ((nx g.2.1 d).bind fun j=>cond j (some (.out (.out false))) (some (.go (IntKind.i64.wrap (e+1))))))) (some (.out (.go ())))
def jd (b:(LU×am×aW)) (d:LK) (c:(am×LK×Int)) (f:LK) (e:Int) (h:Int) (i:LI) (j:LR):Option Bool:=cond (c.2.2 != 0) (some (false)) (cond (e != 0) (some (false)) (cond ((c.1.Records.length:Int) != (d.length:Int)) (some (false)) (cond ((IntKind.i64.wrap ((c.2.1.length:Int)+(d.length:Int)):Int) != (b.2.1.Records.length:Int)) (some (false)) (cond ((f.length:Int) != 0) (some (false)) ((ly (am.mk h i j) (am.mk b.2.1.Revision b.2.1.Inputs b.2.1.Records)).bind fun g=>cond (!(g)) (some (false)) ((loop (fun s:Int=>f5 b d c s) 0).bind fun r=>Fl.el r (fun s=>f0) (fun y=>some (y))))))))
def je (b:(LU×am×aW)) (d:LK):Option Bool:=(bY (am.mk b.2.1.Revision b.2.1.Inputs b.2.1.Records) 0 d).bind fun e=>(dj b.2.1.Records).bind fun f=>(bY (am.mk b.2.1.Revision b.2.1.Inputs b.2.1.Records) f ([])).bind fun c=>jd b d e c.2.1 c.2.2 c.1.Revision c.1.Inputs c.1.Records
def eM (b:Int) (c:LK):Option (Fl (LK×Int) (LK)):=some (.go (c,IntKind.i64.wrap (b+1)))
def dB (f:Int) (e:(LU×am×aW)) (c:LK) (b:Int):Option (Fl (LK×Int) (LK)):=cond (decide (b<(e.2.1.Records.length:Int))) ((bg e.2.1.Records b).bind fun d=>gd (decide (0≤IntKind.u64.wrap (Int.tmod b 30))) <| cond ((Ac .and .i64 (fC .i64 f (IntKind.u64.wrap (Int.tmod b 30))) 1:Int)==1) (gd (bT (c.length+([d.Key]).length)) <| eM b (c++([d.Key]))) (eM b c)) (some (.out c))
def gz (c:LN) (g:Int):Option Bool:=(iQ c).bind fun d=>cond (!(d)) ((da).bind fun e=>some (e)) ((qG c).bind fun f=>(fg f).bind fun b=>(loop (fun s:LK×Int=>dB g b s.1 s.2) (([]:List ah),0)).bind fun r=>je b r)
theorem vn (T:Nat→Prop) (W0:World) (hT:TW T W0) (hLv:dx T W0) (av:LN) (O:Int) (v1:Value) (gb:aD (aS.int .i64) T W0 v1 av) (y:Bool) (hM:gz av O=some y):bc aQ No 6 [v1,aj O] W0 (fun v w'=>v = .bool y):=by
 refine en Tryz.func6 Tryz.ntmps6 hT fun a hS=>?_;replace hS:=(hS.fact bu (dx.dn hLv)).fS (aD.dn gb);unfold gz at hM;refine al hS fun a hS=>?_;refine aA ?_;refine al hS fun a hS=>?_;obtain⟨hq,d6,hM⟩:=bd hM;refine kc hS NA (qp _ _ hS.dlt av _ (hS.get 0 rfl) _ d6) fun _ w hR a hk hA=>?_;obtain rfl:=hR;have hS:=bS hA;refine al hS fun a hS=>?_;rcases cd hM with⟨el,hM⟩|⟨el,hM⟩
 ·refine al hS fun a hS=>?_;obtain⟨hr,dl,hM⟩:=bd hM;refine kc hS FX (du _ _ hS.dlt (hS.get 1 rfl) _ dl) fun _ w hR a hk hA=>?_;obtain rfl:=hR;have hS:=bS hA;exact fz
 refine al hS fun a hS=>?_;obtain⟨c9,ds,hM⟩:=bd hM;refine kc hS Ia (rP _ _ hS.dlt av _ (hS.get 0 rfl) _ ds) fun _ w hR a hk hA=>?_;obtain⟨e3,ca,he,g8,b5,b9⟩:=hR;obtain rfl:=he.symm;have hS:=hA [.box e3 (a6 c9 ca) 73] (fG b5 (fun k hk=>by simp only [cz.dom,cS] at hk; omega)) (uz _);replace hS:=hS.fS (b9.sub (oE _));refine al hS fun a hS=>?_;obtain⟨b,cv,hM⟩:=bd hM;refine wl rfl (lg hS Ib rfl rfl 0 rfl (mR _ _ (hS.drop 0).dlt c9 _ _ (hS.boxRow 0 rfl) (hS.notin 0 rfl) (aD.lent (i:=0) rfl (hS.get 0 rfl)) (bu.keep (hS.get 2 rfl) (ai _ _) (fun k hk=>.inl ((nV (i:=0) rfl k).1 hk))) _ cv) fun _ w hR hk=>?_);obtain⟨ht,g,c,e,hu,he,bb,bi,⟨b6,b3,bl⟩,hrow,bs,M⟩:=hR;obtain rfl:=he.symm;subst M;refine⟨(a6 b.2.2 ca),[ae c e],hrow,fG ⟨b6,by decide⟩ b3,uz _,fun a hS=>?_⟩;replace hS:=(((hS.fR (bl.keep (ai _ _) (Nw.back2 (i:=0) rfl [ae c e] _))).fS (bb.sub (Nw.back2 (i:=0) rfl [ae c e] _))).fS (bi.sub (Nw.back2 (i:=0) rfl [ae c e] _))).fS (bs.sub (Nw.back2 (i:=0) rfl [ae c e] _));refine al hS fun a hS=>?_;refine ka hS i8 fun f h9 a w hk hS=>?_;refine go hS fun a w hS=>?_;refine aJ (J:=fun a w=>∃ (l:LK) (p:Value) (Q:LV),St W0 No T 142 [(7,pt f 0),(8,p)] [ay p Q,ae c e,.box f (aY b.2.1 g c) 25] [ao ac Q l,aK ad g b.2.1.Inputs,ao aa e b.2.1.Records,bu] a w∧je b l=some y) ?_ ?_
 ·skip;refine al hS fun a hS=>?_;replace hS:=hS.nilRow ac 31 (by decide);obtain⟨r1,c6,hMo1⟩:=bd hM;refine bB _ (fun s a w=>∃ (z:LK) (q:Int) (a4:Value) (S:LV),(z,q)=s∧St W0 No T 142 [(1,aj O),(7,pt f 0),(8,a4),(35,c),(36,aj (b.2.1.Records.length:Int)),(37,aj q)] [ay a4 S,ae c e,.box f (aY b.2.1 g c) 25] [ao ac S z,ao aa e b.2.1.Records,aK ad g b.2.1.Inputs,bu] a w) c6 ⟨_,_,_,_,rfl,hS.mt [0,2,1] [0,4,2,7]⟩ ?_;rintro s a w f1 ⟨z,q,a4,S,rfl,hS⟩ hM hf1;have hM:dB O b z q=some f1:=hM;unfold dB at hM;refine al hS fun a hS=>?_;refine aA ?_;rcases cd hM with⟨em,hM⟩|⟨em,hM⟩
  ·refine al hS fun a hS=>?_;refine aJ (J:=fun a w=>∃ (a1:LK) (a5:Value) (U:LV),St W0 No T 142 [(1,aj O),(7,pt f 0),(8,a5),(35,c),(36,aj (b.2.1.Records.length:Int)),(37,aj q)] [ay a5 U,ae c e,.box f (aY b.2.1 g c) 25] [ao ac U a1,ao aa e b.2.1.Records,aK ad g b.2.1.Inputs,bu] a w∧eM q a1=some f1) ?_ ?_
   ·skip;refine al hS fun a hS=>?_;obtain⟨o,co,hM⟩:=bd hM;refine wl rfl (cU (R:=aa) hS dM bZ rfl rfl 1 rfl 1 rfl co rfl fun gp hg hi h2 ep eq er a hS=>?_);obtain⟨g3,rfl,e2⟩:=ep;replace hS:=hS.fS e2;refine qy hS (bp (k:=0) hS bZ 1 rfl eq er rfl id (us:=(aE o g3)) rfl rfl (fun h=>by cases h)) fun a hS=>?_;refine ka hS dq fun gs ha a w hk hS=>?_;refine go hS fun a w hS=>?_;refine qy hS (zH hS rfl rfl (by decide)) fun a hS=>?_;refine al hS fun a hS=>?_;obtain⟨et,hM⟩:=bo hM;refine qy hS (Di hS rfl rfl et) fun a hS=>?_;refine qy hS (HQ hS rfl rfl rfl) fun a hS=>?_;refine al hS fun a hS=>?_;rcases cd hM with⟨ew,hM⟩|⟨ew,hM⟩
    ·refine al hS fun a hS=>?_;refine wl rfl (bf (ps:=[(0,.tmp 51)]) hS gf gl (zl:=[aj 0,a8 cr]) (by kernel_rfl) rfl (us:=[(aX o.Key)]) ⟨rfl,trivial⟩ (ws:=(aX o.Key)) rfl rfl rfl rfl fun gu a w hk hS=>?_);replace hS:=(hS.lit (R:=ac) (us:=(aX o.Key)) (xs:=[o.Key]) 0 rfl (by decide) (aB.one_ (R:=ac) (x:=o.Key) rfl) rfl rfl).freeze (R:=ac) 0 rfl 0 rfl;obtain⟨ex,hM⟩:=bo hM;refine wl rfl (bM (R:=ac) (xs:=z) (ys:=[o.Key]) hS gf (by decide) (by decide) rfl rfl 1 rfl 3 rfl 0 rfl ex rfl fun hv h3 a w hk hS=>?_);exact fz
    exact fz
   rintro a w ⟨a1,a5,U,hS,hM⟩;unfold eM at hM;exact fz
  exact fz
 rintro a w ⟨l,p,Q,hS,hM⟩;unfold je at hM;refine al hS fun a hS=>?_;replace hS:=(hS.freeze (R:=aa) 1 rfl 2 rfl).freeze (R:=ac) 0 rfl 1 rfl;obtain⟨d,d0,hM⟩:=bd hM;replace hS:=hS.re [] [0];refine wl rfl (bC hS zZ rfl rfl (ef _ _ hS.dltD (am.mk b.2.1.Revision b.2.1.Inputs b.2.1.Records) 0 l _ _ _ hS.dok (hS.getD 3 rfl) (hS.getD 1 rfl) (hS.getD 0 rfl) (hS.getD 5 rfl) _ d0) fun _ w hR a hk hA=>?_);obtain⟨F,B,G,C,H,D,he,bt,bF,c0,ey⟩:=hR;obtain rfl:=he.symm;have hS:=hA _ ey;replace hS:=((hS.fR (bt.keep (ai _ _) (au _))).fR (bF.keep (ai _ _) (au _))).fR (c0.keep (ai _ _) (au _));refine al hS fun a hS=>?_;refine ka hS i8 fun A hb a w hk hS=>?_;refine go hS fun a w hS=>?_;refine aJ (J:=fun a w=>∃ (a2:LK) (Z:Int) (I:Int) (K:LI) (L:LR) (P:Nat) (a9:Value) (V:LV) (af:Value) (W:LV) (ag:Value) (X:LV),St W0 No T 142 [(7,pt f 0),(8,p),(11,pt A 0),(12,H),(13,aj d.2.2),(14,pt P 0),(15,a9),(16,aj Z)] [ay H D,ay a9 V,.box f (aY b.2.1 g c) 25,aT F B,ae G C,.box A (aY d.1 F G) 25,aT af W,ae ag X,.box P [aj I,af,ag] 25] [aK ac p l,ao ac D d.2.1,ao ac V a2,aK ad g b.2.1.Inputs,aK aa c b.2.1.Records,ao ad B d.1.Inputs,ao aa C d.1.Records,ao ad W K,ao aa X L,bu] a w∧jd b l d a2 Z I K L=some y) ?_ ?_
 ·skip;obtain⟨N174,ck⟩:∃ N,N=w.heap.size:=⟨_,rfl⟩;replace hS:=hS.fact (Ds N174) (qh ck);refine dr [(4,.bks []),(10,.new N174)] hS fun w hQ hS=>?_;refine gE [0,1,2] hS fun a hS=>?_;obtain⟨a3,ak,hM⟩:=bd hM;refine di (i:=3) (j:=9) rfl rfl (by kernel_rfl) rfl rfl ?_ ?_
  ·skip;skip;refine id (be hS zY rfl rfl (eg _ _ hS.dlt b.2.1.Records _ (hS.get 5 rfl) _ ak) fun _ w hR a hk hA=>⟨eS (hk),?_⟩);obtain rfl:=hR;have hS:=bS hA;replace hS:=hS.fact (aK ac (.slice none 0 0) []) (aD.nil_ _ _ _);obtain⟨hp,an,hM⟩:=bd hM;refine di (i:=4) (j:=9) rfl rfl (by kernel_rfl) rfl rfl ?_ ?_
   ·skip;skip;replace hS:=hS.re [] [0,1,2,3,4];refine id (bC hS zZ rfl rfl (ef _ _ hS.dltD (am.mk b.2.1.Revision b.2.1.Inputs b.2.1.Records) a3 ([]) _ _ _ hS.dok (hS.getD 8 rfl) (hS.getD 6 rfl) (hS.getD 0 rfl) (hS.getD 10 rfl) _ an) fun _ w hR a hk hA=>⟨jl rfl hk pW,?_⟩);obtain⟨hw,h4,hx,h5,hy,h6,he,c1,c2,c3,f2⟩:=hR;obtain rfl:=he.symm;have hS:=hA _ f2;replace hS:=((hS.fR (c1.keep (ai _ _) (au _))).fR (c2.keep (ai _ _) (au _))).fR (c3.keep (ai _ _) (au _));refine gE [5,6,7,8] hS fun a hS=>?_;have f3:=(hS.get 4 rfl:N174≤w.heap.size);refine e1 9 (cm hS i8 rfl fun e4 f4 a w hk hS=>⟨eS (hk),?_⟩);refine cw 10 (.blk (some e4)) _ (by kernel_rfl) (k8 (cx f3 f4)) ?_;refine es 10 hS fun w hS=>?_;refine gE [11,12] hS fun a hS=>?_;refine eD ?_;exact⟨_,_,_,_,_,_,_,_,_,_,_,_,hS.mt [7,3,8,5,6,4,1,2,0] [8,5,0,11,9,7,6,2,1,13],hM⟩
   skip;have f6:=(hS.get 1 rfl:N174≤w.heap.size);refine id (cm hS i8 rfl fun e5 f7 a w hk hS=>⟨eS (hk),?_⟩);refine cw 10 (.blk (some e5)) _ (by kernel_rfl) (k8 (cx f6 f7)) ?_;replace hS:=hS.re [] [0,1,2,3,4,5];refine e1 4 (bC hS zZ rfl rfl (ef _ _ hS.dltD (am.mk b.2.1.Revision b.2.1.Inputs b.2.1.Records) a3 ([]) _ _ _ hS.dok (hS.getD 8 rfl) (hS.getD 6 rfl) (hS.getD 0 rfl) (hS.getD 10 rfl) _ an) fun _ w hR a hk hA=>⟨jl rfl hk pW,?_⟩);obtain⟨g4,ea,g5,eb,g6,ed,he,r,t,u,a0⟩:=hR;obtain rfl:=he.symm;have hS:=hA _ a0;replace hS:=((hS.fR (r.keep (ai _ _) (au _))).fR (t.keep (ai _ _) (au _))).fR (u.keep (ai _ _) (au _));refine gE [5,6,7,8] hS fun a hS=>?_;refine es 10 hS fun w hS=>?_;refine gE [11,12] hS fun a hS=>?_;refine eD ?_;exact⟨_,_,_,_,_,_,_,_,_,_,_,_,hS.mt [7,2,8,5,6,4,0,1,3] [8,5,0,11,9,7,6,2,1,13],hM⟩
  skip;have fd:=(hS.get 0 rfl:N174≤w.heap.size);refine id (cm hS i8 rfl fun e6 fl a w hk hS=>⟨eS (hk),?_⟩);refine cw 10 (.blk (some e6)) _ (by kernel_rfl) (k8 (cx fd fl)) ?_;refine ec 3 hS zY (eg _ _ hS.dlt b.2.1.Records _ (hS.get 5 rfl) _ ak) fun _ w hR a hk hA=>?_;obtain rfl:=hR;have hS:=bS hA;replace hS:=hS.fact (aK ac (.slice none 0 0) []) (aD.nil_ _ _ _);obtain⟨hs,e0,hM⟩:=bd hM;replace hS:=hS.re [] [0,1,2,3,4,5];refine e1 4 (bC hS zZ rfl rfl (ef _ _ hS.dltD (am.mk b.2.1.Revision b.2.1.Inputs b.2.1.Records) a3 ([]) _ _ _ hS.dok (hS.getD 8 rfl) (hS.getD 6 rfl) (hS.getD 0 rfl) (hS.getD 10 rfl) _ e0) fun _ w hR a hk hA=>⟨jl rfl hk pW,?_⟩);obtain⟨g4,ea,g5,eb,g6,ed,he,r,t,u,a0⟩:=hR;obtain rfl:=he.symm;have hS:=hA _ a0;replace hS:=((hS.fR (r.keep (ai _ _) (au _))).fR (t.keep (ai _ _) (au _))).fR (u.keep (ai _ _) (au _));refine gE [5,6,7,8] hS fun a hS=>?_;refine es 10 hS fun w hS=>?_;refine gE [11,12] hS fun a hS=>?_;refine eD ?_;exact⟨_,_,_,_,_,_,_,_,_,_,_,_,hS.mt [7,2,8,5,6,4,0,1,3] [8,5,0,11,9,7,6,2,1,13],hM⟩
 rintro a w ⟨a2,Z,I,K,L,P,a9,V,af,W,ag,X,hS,hM⟩;unfold jd at hM;refine aA ?_;refine i1 ?_;refine al hS fun a hS=>?_;rcases cd hM with⟨fn,hM⟩|⟨fn,hM⟩
 ·exact fz
 refine al hS fun a hS=>?_;rcases cd hM with⟨fr,hM⟩|⟨fr,hM⟩
 ·exact fz
 refine al hS fun a hS=>?_;rcases cd hM with⟨fs,hM⟩|⟨fs,hM⟩
 ·exact fz
 refine al hS fun a hS=>?_;rcases cd hM with⟨fM,hM⟩|⟨fM,hM⟩
 ·exact fz
 refine al hS fun a hS=>?_;rcases cd hM with⟨b0,hM⟩|⟨b0,hM⟩
 ·exact fz
 refine al hS fun a hS=>?_;have hL:=hS;replace hL:=hL.freeze (R:=ad) 6 rfl 7 rfl;replace hL:=hL.freeze (R:=aa) 6 rfl 9 rfl;obtain⟨ho,d5,hM⟩:=bd hM;refine wg hS rfl rfl rfl b0 (be hS MB rfl rfl (wt _ _ hL.dlt (am.mk I K L) (am.mk b.2.1.Revision b.2.1.Inputs b.2.1.Records) _ _ _ _ (hL.get 1 rfl) (hL.get 0 rfl) (hL.get 5 rfl) (hL.get 6 rfl) _ d5) fun _ w hR a hk hA=>?_);obtain rfl:=hR;have hS:=bS hA;refine al hS fun a hS=>?_;rcases cd hM with⟨g0,hM⟩|⟨g0,hM⟩
 ·exact fz
 refine al hS fun a hS=>?_;refine aJ (J:=fun a w=>St W0 No T 142 [] [] [bu] a w∧f0=some y) ?_ ?_
 ·skip;refine al hS fun a hS=>?_;obtain⟨r1,c6,hMo1⟩:=bd hM;refine bB _ (fun s a w=>∃ (E:Int),E=s∧St W0 No T 142 [(7,pt f 0),(11,pt A 0),(12,H),(107,p),(108,aj (l.length:Int)),(109,aj E)] [ay H D,.box f (aY b.2.1 g c) 25,aT F B,ae G C,.box A (aY d.1 F G) 25] [ao ac D d.2.1,aK ac p l,aK ad g b.2.1.Inputs,aK aa c b.2.1.Records,ao ad B d.1.Inputs,ao aa C d.1.Records,bu] a w) c6 ⟨_,rfl,hS.mt [0,2,3,4,5] [1,0,3,4,5,6,9]⟩ ?_;rintro s a w f1 ⟨E,rfl,hS⟩ hM hf1;have hM:f5 b l d E=some f1:=hM;unfold f5 at hM;refine al hS fun a hS=>?_;refine aA ?_;rcases cd hM with⟨g1,hM⟩|⟨g1,hM⟩
  ·refine al hS fun a hS=>?_;refine aA ?_;refine al hS fun a hS=>?_;obtain⟨Y,cl,hM⟩:=bd hM;refine wl rfl (bD (R:=ac) hS mM e7 rfl rfl 1 rfl cl rfl fun gx hh h7 g2 a hS=>?_);obtain rfl:=g2;refine al hS fun a hS=>?_;refine ka hS gl fun gy hc a w hk hS=>?_;refine go hS fun a w hS=>?_;obtain⟨m,d1,hM⟩:=bd hM;refine kc hS oC (bx _ _ hS.dlt b.2.1.Records Y _ (hS.get 4 rfl) _ d1) fun _ w hR a hk hA=>?_;obtain⟨hz,h8,he,c4⟩:=hR;obtain rfl:=he.symm;have hS:=qe hA c4;refine al hS fun a hS=>?_;refine ka hS dq fun h0 hd a w hk hS=>?_;refine go hS fun a w hS=>?_;have hL:=hS;replace hL:=hL.freeze (R:=aa) 6 rfl 7 rfl;obtain⟨n,d2,hM⟩:=bd hM;refine kc hS oC (bx _ _ hL.dlt d.1.Records Y _ (hL.get 0 rfl) _ d2) fun _ w hR a hk hA=>?_;obtain⟨g7,ek,he,⟨b8,b4,c5⟩⟩:=hR;obtain rfl:=he.symm;have hS:=hA [ay g7 ek] (fG ⟨b8,by decide⟩ b4) (uz _);replace hS:=hS.fR c5;refine al hS fun a hS=>?_;refine ka hS dq fun h1 hf a w hk hS=>?_;refine go hS fun a w hS=>?_;refine i1 ?_;refine al hS fun a hS=>?_;rcases cd hM with⟨b1,hM⟩|⟨b1,hM⟩
   ·exact fz
   refine al hS fun a hS=>?_;have hL:=hS;replace hL:=hL.freeze (R:=ac) 3 rfl 1 rfl;replace hL:=hL.freeze (R:=ac) 1 rfl 1 rfl;obtain⟨hm,d3,hM⟩:=bd hM;refine wg hS rfl rfl rfl b1 (be hS MF rfl rfl (tr _ _ hL.dlt (ab.mk (ah.mk m.1.Key.Kind m.1.Key.Text) m.1.Value m.1.Reads m.1.Changed m.1.Verified m.1.Cost m.1.Dirty) (ab.mk (ah.mk n.1.Key.Kind n.1.Key.Text) n.1.Value n.1.Reads n.1.Changed n.1.Verified n.1.Cost n.1.Dirty) _ _ (hL.get 1 rfl) (hL.get 0 rfl) _ d3) fun _ w hR a hk hA=>?_);obtain rfl:=hR;have hS:=bS hA;refine al hS fun a hS=>?_;rcases cd hM with⟨b2,hM⟩|⟨b2,hM⟩
   ·exact fz
   refine al hS fun a hS=>?_;have hL:=hS;replace hL:=hL.freeze (R:=ac) 5 rfl 3 rfl;obtain⟨hn,d4,hM⟩:=bd hM;refine wg hS rfl rfl rfl b2 (be hS Id rfl rfl (rQ _ _ hL.dlt d.2.1 Y _ (hL.get 0 rfl) _ d4) fun _ w hR a hk hA=>?_);obtain rfl:=hR;have hS:=bS hA;exact fz
  exact fz
 rintro a w ⟨hS,hM⟩;unfold f0 at hM;refine al hS fun a hS=>?_;obtain⟨hl,cs,hM⟩:=bd hM;refine kc hS FX (du _ _ hS.dlt (hS.get 0 rfl) _ cs) fun _ w hR a hk hA=>?_;obtain rfl:=hR;have hS:=bS hA;exact fz
def jX (b:Bool):Option Bool:=some (b)
def e8 (d:(am×LK×Int)) (b:LK):Option Bool:=(qw d.2.1 0 (b.length:Int)).bind fun c=>(dI b c).bind fun e=>cond e ((da).bind fun f=>jX f) (jX false)
def jY (l:Int) (b:(am×LK×Int)) (c:LK) (d:Int) (e:ByteArray) (f:ByteArray) (g:LK) (h:Int) (i:Int) (j:Int) (k:Bool):Option Bool:=(dj b.1.Records).bind fun m=>(cP (ab.mk (ah.mk d e) f g h i j k)).bind fun n=>cond (decide ((IntKind.i64.wrap (m+n):Int)≤l)) (some (false)) (e8 b c)
def gP (f:(LU×am×aW)) (e:Int) (b:(am×LK×Int)) (d:LK) (h:Int) (m:Int) (n:LI) (l:LR):Option Bool:=cond (b.2.2 != 0) (some (false)) (cond (h != 0) (some (false)) ((dj b.1.Records).bind fun i=>cond (decide (e<i)) (some (false)) (cond (decide ((b.2.1.length:Int)<(d.length:Int))) (some (false)) (cond ((IntKind.i64.wrap ((b.1.Records.length:Int)+(b.2.1.length:Int)):Int) != (f.2.1.Records.length:Int)) (some (false)) ((dj l).bind fun j=>(dj b.1.Records).bind fun k=>cond (decide (j<k)) (some (false)) (cond (decide ((0:Int)<(b.2.1.length:Int))) ((bg b.2.1 (IntKind.i64.wrap ((b.2.1.length:Int)-1))).bind fun g=>(bX f.2.1.Records g).bind fun c=>jY e b d c.1.Key.Kind c.1.Key.Text c.1.Value c.1.Reads c.1.Changed c.1.Verified c.1.Cost c.1.Dirty) (e8 b d)))))))
def ir (g:LN) (e:Int) (f:Int):Option Bool:=(iQ g).bind fun i=>cond (!(i)) ((da).bind fun j=>some (j)) ((qG g).bind fun k=>(fg k).bind fun b=>(jt e 250).bind fun d=>(bY (am.mk b.2.1.Revision b.2.1.Inputs b.2.1.Records) d ([])).bind fun h=>(jt f 100).bind fun l=>(bY (am.mk b.2.1.Revision b.2.1.Inputs b.2.1.Records) (IntKind.i64.wrap (d+l)) ([])).bind fun c=>gP b d h c.2.1 c.2.2 c.1.Revision c.1.Inputs c.1.Records)
theorem wa (T:Nat→Prop) (W0:World) (hT:TW T W0) (hLv:dx T W0) (an:LN) (n:Int) (q:Int) (v1:Value) (g7:aD (aS.int .i64) T W0 v1 an) (y:Bool) (hM:ir an n q=some y):bc aQ No 4 [v1,aj n,aj q] W0 (fun v w'=>v = .bool y):=by
 refine en Tryz.func4 Tryz.ntmps4 hT fun a hS=>?_;replace hS:=(hS.fact bu (dx.dn hLv)).fS (aD.dn g7);unfold ir at hM;refine al hS fun a hS=>?_;refine aA ?_;refine al hS fun a hS=>?_;obtain⟨hb,d5,hM⟩:=bd hM;refine kc hS NA (qp _ _ hS.dlt an _ (hS.get 0 rfl) _ d5) fun _ w hR a hk hA=>?_;obtain rfl:=hR;have hS:=bS hA;refine al hS fun a hS=>?_;rcases cd hM with⟨el,hM⟩|⟨el,hM⟩
 ·refine al hS fun a hS=>?_;obtain⟨hc,d6,hM⟩:=bd hM;refine kc hS FX (du _ _ hS.dlt (hS.get 1 rfl) _ d6) fun _ w hR a hk hA=>?_;obtain rfl:=hR;have hS:=bS hA;exact fz
 refine al hS fun a hS=>?_;obtain⟨c3,dl,hM⟩:=bd hM;refine kc hS Ia (rP _ _ hS.dlt an _ (hS.get 0 rfl) _ dl) fun _ w hR a hk hA=>?_;obtain⟨e0,c4,he,g6,b3,b5⟩:=hR;obtain rfl:=he.symm;have hS:=hA [.box e0 (a6 c3 c4) 73] (fG b3 (fun k hk=>by simp only [cz.dom,cS] at hk; omega)) (uz _);replace hS:=hS.fS (b5.sub (oE _));refine al hS fun a hS=>?_;obtain⟨b,d1,hM⟩:=bd hM;refine wl rfl (lg hS Ib rfl rfl 0 rfl (mR _ _ (hS.drop 0).dlt c3 _ _ (hS.boxRow 0 rfl) (hS.notin 0 rfl) (aD.lent (i:=0) rfl (hS.get 0 rfl)) (bu.keep (hS.get 2 rfl) (ai _ _) (fun k hk=>.inl ((nV (i:=0) rfl k).1 hk))) _ d1) fun _ w hR hk=>?_);obtain⟨hg,c5,g,r,hh,he,b6,b8,⟨b4,b2,b9⟩,hrow,bb,P⟩:=hR;obtain rfl:=he.symm;subst P;refine⟨(a6 b.2.2 c4),[ae g r],hrow,fG ⟨b4,by decide⟩ b2,uz _,fun a hS=>?_⟩;replace hS:=(((hS.fR (b9.keep (ai _ _) (Nw.back2 (i:=0) rfl [ae g r] _))).fS (b6.sub (Nw.back2 (i:=0) rfl [ae g r] _))).fS (b8.sub (Nw.back2 (i:=0) rfl [ae g r] _))).fS (bb.sub (Nw.back2 (i:=0) rfl [ae g r] _));refine al hS fun a hS=>?_;refine ka hS i8 fun av h0 a w hk hS=>?_;refine go hS fun a w hS=>?_;obtain⟨e,cs,hM⟩:=bd hM;refine kc hS Be (jZ _ _ hS.dlt n 250 _ cs) fun _ w hR a hk hA=>?_;obtain rfl:=hR;have hS:=bS hA;refine al hS fun a hS=>?_;replace hS:=(hS.freeze (R:=aa) 1 rfl 3 rfl).fact (aK ac (.slice none 0 0) []) (aD.nil_ _ _ _);obtain⟨c,ck,hM⟩:=bd hM;replace hS:=hS.re [] [0,1];refine wl rfl (bC hS zZ rfl rfl (ef _ _ hS.dltD (am.mk b.2.1.Revision b.2.1.Inputs b.2.1.Records) e ([]) _ _ _ hS.dok (hS.getD 3 rfl) (hS.getD 1 rfl) (hS.getD 0 rfl) (hS.getD 8 rfl) _ ck) fun _ w hR a hk hA=>?_);obtain⟨L,z,M,A,p,o,he,bi,bl,bs,em⟩:=hR;obtain rfl:=he.symm;have hS:=hA _ em;replace hS:=((hS.fR (bi.keep (ai _ _) (au _))).fR (bl.keep (ai _ _) (au _))).fR (bs.keep (ai _ _) (au _));refine al hS fun a hS=>?_;refine ka hS i8 fun x h1 a w hk hS=>?_;refine go hS fun a w hS=>?_;refine aJ (J:=fun a w=>∃ (d:LK) (X:Int) (a5:Int) (a9:LI) (O:LR) (Q:Nat) (m:Value) (f:LV) (a2:Value) (U:LV) (a3:Value) (V:LV),St W0 No T 122 [(9,pt av 0),(10,aj e),(11,pt x 0),(12,p),(13,aj c.2.2),(14,pt Q 0),(15,m),(16,aj X)] [ay p o,ay m f,.box av (aY b.2.1 c5 g) 25,aT L z,ae M A,.box x (aY c.1 L M) 25,aT a2 U,ae a3 V,.box Q [aj a5,a2,a3] 25] [ao ac o c.2.1,ao ac f d,aK ad c5 b.2.1.Inputs,aK aa g b.2.1.Records,ao ad z c.1.Inputs,ao aa A c.1.Records,ao ad U a9,ao aa V O,bu] a w∧gP b e c d X a5 a9 O=some y) ?_ ?_
 ·skip;obtain⟨N158,c6⟩:∃ N,N=w.heap.size:=⟨_,rfl⟩;replace hS:=hS.fact (Ds N158) (qh c6);refine dr [(5,.bks []),(11,.new N158)] hS fun w hQ hS=>?_;refine gE [0,1,2] hS fun a hS=>?_;obtain⟨a1,ag,hM⟩:=bd hM;refine di (i:=3) (j:=10) rfl rfl (by kernel_rfl) rfl rfl ?_ ?_
  ·skip;skip;refine id (be hS Be rfl rfl (jZ _ _ hS.dlt q 100 _ ag) fun _ w hR a hk hA=>⟨eS (hk),?_⟩);obtain rfl:=hR;have hS:=bS hA;refine gE [4] hS fun a hS=>?_;obtain⟨hd,ak,hM⟩:=bd hM;refine di (i:=5) (j:=10) rfl rfl (by kernel_rfl) rfl rfl ?_ ?_
   ·skip;skip;replace hS:=hS.re [] [0,1,2,3,4,5];refine id (bC hS zZ rfl rfl (ef _ _ hS.dltD (am.mk b.2.1.Revision b.2.1.Inputs b.2.1.Records) (IntKind.i64.wrap (e+a1)) ([]) _ _ _ hS.dok (hS.getD 7 rfl) (hS.getD 5 rfl) (hS.getD 4 rfl) (hS.getD 12 rfl) _ ak) fun _ w hR a hk hA=>⟨jl rfl hk pW,?_⟩);obtain⟨hi,gb,hj,gi,hl,gp,he,bt,bF,c0,ep⟩:=hR;obtain rfl:=he.symm;have hS:=hA _ ep;replace hS:=((hS.fR (bt.keep (ai _ _) (au _))).fR (bF.keep (ai _ _) (au _))).fR (c0.keep (ai _ _) (au _));refine gE [6,7,8,9] hS fun a hS=>?_;have eq:=(hS.get 3 rfl:N158≤w.heap.size);refine e1 10 (cm hS i8 rfl fun e2 er a w hk hS=>⟨eS (hk),?_⟩);refine cw 11 (.blk (some e2)) _ (by kernel_rfl) (k8 (cx eq er)) ?_;refine es 11 hS fun w hS=>?_;refine gE [12,13] hS fun a hS=>?_;refine eD ?_;exact⟨_,_,_,_,_,_,_,_,_,_,_,_,hS.mt [7,3,8,5,6,4,1,2,0] [4,0,10,8,6,5,2,1,15],hM⟩
   skip;have et:=(hS.get 0 rfl:N158≤w.heap.size);refine id (cm hS i8 rfl fun e3 ew a w hk hS=>⟨eS (hk),?_⟩);refine cw 11 (.blk (some e3)) _ (by kernel_rfl) (k8 (cx et ew)) ?_;replace hS:=hS.re [] [0,1,2,3,4,5,6];refine e1 5 (bC hS zZ rfl rfl (ef _ _ hS.dltD (am.mk b.2.1.Revision b.2.1.Inputs b.2.1.Records) (IntKind.i64.wrap (e+a1)) ([]) _ _ _ hS.dok (hS.getD 7 rfl) (hS.getD 5 rfl) (hS.getD 4 rfl) (hS.getD 12 rfl) _ ak) fun _ w hR a hk hA=>⟨jl rfl hk pW,?_⟩);obtain⟨g3,eb,g4,ed,g5,ek,he,s,t,u,Z⟩:=hR;obtain rfl:=he.symm;have hS:=hA _ Z;replace hS:=((hS.fR (s.keep (ai _ _) (au _))).fR (t.keep (ai _ _) (au _))).fR (u.keep (ai _ _) (au _));refine gE [6,7,8,9] hS fun a hS=>?_;refine es 11 hS fun w hS=>?_;refine gE [12,13] hS fun a hS=>?_;refine eD ?_;exact⟨_,_,_,_,_,_,_,_,_,_,_,_,hS.mt [7,2,8,5,6,4,0,1,3] [4,0,10,8,6,5,2,1,15],hM⟩
  skip;have ex:=(hS.get 0 rfl:N158≤w.heap.size);refine id (cm hS i8 rfl fun e4 ey a w hk hS=>⟨eS (hk),?_⟩);refine cw 11 (.blk (some e4)) _ (by kernel_rfl) (k8 (cx ex ey)) ?_;refine ec 3 hS Be (jZ _ _ hS.dlt q 100 _ ag) fun _ w hR a hk hA=>?_;obtain rfl:=hR;have hS:=bS hA;refine gE [4] hS fun a hS=>?_;obtain⟨hf,ds,hM⟩:=bd hM;replace hS:=hS.re [] [0,1,2,3,4,5,6];refine e1 5 (bC hS zZ rfl rfl (ef _ _ hS.dltD (am.mk b.2.1.Revision b.2.1.Inputs b.2.1.Records) (IntKind.i64.wrap (e+a1)) ([]) _ _ _ hS.dok (hS.getD 7 rfl) (hS.getD 5 rfl) (hS.getD 4 rfl) (hS.getD 12 rfl) _ ds) fun _ w hR a hk hA=>⟨jl rfl hk pW,?_⟩);obtain⟨g3,eb,g4,ed,g5,ek,he,s,t,u,Z⟩:=hR;obtain rfl:=he.symm;have hS:=hA _ Z;replace hS:=((hS.fR (s.keep (ai _ _) (au _))).fR (t.keep (ai _ _) (au _))).fR (u.keep (ai _ _) (au _));refine gE [6,7,8,9] hS fun a hS=>?_;refine es 11 hS fun w hS=>?_;refine gE [12,13] hS fun a hS=>?_;refine eD ?_;exact⟨_,_,_,_,_,_,_,_,_,_,_,_,hS.mt [7,2,8,5,6,4,0,1,3] [4,0,10,8,6,5,2,1,15],hM⟩
 rintro a w ⟨d,X,a5,a9,O,Q,m,f,a2,U,a3,V,hS,hM⟩;unfold gP at hM;refine aA ?_;refine aA ?_;refine dr [] hS fun w hQ hS=>?_;refine gE [0,1,2] hS fun a hS=>?_;rcases cd hM with⟨f1,hM⟩|⟨f1,hM⟩
 ·refine gE [3,4,5,6,7,8,9,10,11,12,13,14,15,16,17,18,19,20,21,22,23,24,25,26,27,28,29,30,31,32,33,34,35,36,37,38,39,40] hS fun a hS=>?_;refine eD ?_;exact fz
 refine gE [3,4,5,6] hS fun a hS=>?_;rcases cd hM with⟨b0,hM⟩|⟨b0,hM⟩
 ·refine gE [7,8,9,10,11,12,13,14,15,16,17,18,19,20,21,22,23,24,25,26,27,28,29,30,31,32,33,34,35,36,37,38,39,40] hS fun a hS=>?_;refine eD ?_;exact fz
 refine gE [7,8,10] hS fun a hS=>?_;have hL:=hS;replace hL:=hL.freeze (R:=aa) 4 rfl 5 rfl;obtain⟨h7,d2,hM⟩:=bd hM;refine bV (i:=9) rfl (by kernel_rfl) hS rfl rfl rfl b0 (be hS zY rfl rfl (eg _ _ hL.dlt c.1.Records _ (hL.get 0 rfl) _ d2) fun _ w hR a hk hA=>⟨eS (hk),?_⟩);obtain rfl:=hR;have hS:=bS hA;refine gE [11,12,13] hS fun a hS=>?_;rcases cd hM with⟨f2,hM⟩|⟨f2,hM⟩
 ·refine gE [14,15,16,17,18,19,20,21,22,23,24,25,26,27,28,29,30,31,32,33,34,35,36,37,38,39,40] hS fun a hS=>?_;refine eD ?_;exact fz
 refine gE [14,15,16,17,18,19,20] hS fun a hS=>?_;rcases cd hM with⟨f3,hM⟩|⟨f3,hM⟩
 ·refine gE [21,22,23,24,25,26,27,28,29,30,31,32,33,34,35,36,37,38,39,40] hS fun a hS=>?_;refine eD ?_;exact fz
 refine gE [21,22,23,24,25,26,27,28,29,30,31,32] hS fun a hS=>?_;rcases cd hM with⟨a0,hM⟩|⟨a0,hM⟩
 ·refine gE [33,34,35,36,37,38,39,40] hS fun a hS=>?_;refine eD ?_;exact fz
 refine gE [33,34,36,37] hS fun a hS=>?_;have hL:=hS;replace hL:=hL.freeze (R:=aa) 7 rfl 7 rfl;obtain⟨h8,d3,hM⟩:=bd hM;refine bV (i:=35) rfl (by kernel_rfl) hS rfl rfl rfl a0 (be hS zY rfl rfl (eg _ _ hL.dlt O _ (hL.get 0 rfl) _ d3) fun _ w hR a hk hA=>⟨eS (hk),?_⟩);obtain rfl:=hR;have hS:=bS hA;have hL:=hS;replace hL:=hL.freeze (R:=aa) 4 rfl 5 rfl;obtain⟨h9,d4,hM⟩:=bd hM;refine bV (i:=38) rfl (by kernel_rfl) hS rfl rfl rfl a0 (be hS zY rfl rfl (eg _ _ hL.dlt c.1.Records _ (hL.get 0 rfl) _ d4) fun _ w hR a hk hA=>⟨eS (hk),?_⟩);obtain rfl:=hR;have hS:=bS hA;refine gE [39,40] hS fun a hS=>?_;refine eD ?_;refine al hS fun a hS=>?_;rcases cd hM with⟨f4,hM⟩|⟨f4,hM⟩
 ·exact fz
 refine al hS fun a hS=>?_;refine aJ (J:=fun a w=>St W0 No T 122 [(12,p),(15,m)] [ay p o,ay m f] [ao ac o c.2.1,ao ac f d,bu] a w∧e8 c d=some y) ?_ ?_
 ·skip;refine al hS fun a hS=>?_;rcases cd hM with⟨f6,hM⟩|⟨f6,hM⟩
  ·refine al hS fun a hS=>?_;refine aJ (J:=fun a w=>∃ (C:Int) (D:ByteArray) (E:ByteArray) (F:LK) (G:Int) (H:Int) (I:Int) (K:Bool) (S:Nat) (a4:Value) (W:LV),St W0 No T 122 [(10,aj e),(11,pt x 0),(12,p),(15,m),(17,pt S 0)] [ay p o,ay m f,aT L z,ae M A,.box x (aY c.1 L M) 25,ay a4 W,.box S [aj C,a8 D,a8 E,a4,aj G,aj H,aj I,.bool K] 33] [ao ac o c.2.1,ao ac f d,ao ad z c.1.Inputs,ao aa A c.1.Records,ao ac W F,bu] a w∧jY e c d C D E F G H I K=some y) ?_ ?_
   ·skip;obtain⟨N193,c9⟩:∃ N,N=w.heap.size:=⟨_,rfl⟩;replace hS:=hS.fact (Ds N193) (qh c9);refine dr [(13,.new N193)] hS fun w hQ hS=>?_;refine gE [0,1,2,3,4,5] hS fun a hS=>?_;obtain⟨B,ca,hM⟩:=bd hM;obtain⟨e5,g2,h2,gs,f7,fd,fl,fn⟩:=bP (R:=ac) hS mM e7 0 rfl 1 rfl ca;obtain rfl:=f7;refine dy 6 (v:=pt e5 g2) rfl (by kernel_rfl) (by kernel_rfl) (by kernel_rfl) rfl hQ hS (fn rfl rfl) rfl rfl rfl fun a hS=>?_;refine dy (l:=[]) 7 (v:=.agg (aX B).toArray) rfl (by kernel_rfl) (by kernel_rfl) (by kernel_rfl) (by kernel_rfl) hQ hS (bp (k:=0) hS e7 0 rfl fd fl rfl br (us:=(aX B)) rfl rfl (fun h=>by cases h)) rfl rfl rfl fun a hS=>?_;obtain⟨ha,af,hM⟩:=bd hM;refine di (i:=8) (j:=12) rfl rfl (by kernel_rfl) rfl rfl ?_ ?_
    ·skip;skip;refine id (be hS oC rfl rfl (bx _ _ hS.dlt b.2.1.Records B _ (hS.get 4 rfl) _ af) fun _ w hR a hk hA=>⟨eS (hk),?_⟩);obtain⟨hm,gu,he,c1⟩:=hR;obtain rfl:=he.symm;have hS:=qe hA c1;refine gE [9,10,11] hS fun a hS=>?_;have fr:=(hS.get 1 rfl:N193≤w.heap.size);refine e1 12 (cm hS dq rfl fun e6 fs a w hk hS=>⟨eS (hk),?_⟩);refine cw 13 (.blk (some e6)) _ (by kernel_rfl) (k8 (cx fr fs)) ?_;refine es 13 hS fun w hS=>?_;refine gE [14] hS fun a hS=>?_;refine eD ?_;exact⟨_,_,_,_,_,_,_,_,_,_,_,hS.mt [2,3,5,6,7,1,0] [2,3,6,7,0,10],hM⟩
    skip;have fM:=(hS.get 0 rfl:N193≤w.heap.size);refine id (cm hS dq rfl fun ea g0 a w hk hS=>⟨eS (hk),?_⟩);refine cw 13 (.blk (some ea)) _ (by kernel_rfl) (k8 (cx fM g0)) ?_;refine ec 8 hS oC (bx _ _ hS.dlt b.2.1.Records B _ (hS.get 4 rfl) _ af) fun _ w hR a hk hA=>?_;obtain⟨hn,gx,he,c2⟩:=hR;obtain rfl:=he.symm;have hS:=qe hA c2;refine gE [9,10,11] hS fun a hS=>?_;refine es 13 hS fun w hS=>?_;refine gE [14] hS fun a hS=>?_;refine eD ?_;exact⟨_,_,_,_,_,_,_,_,_,_,_,hS.mt [2,3,5,6,7,0,1] [2,3,6,7,0,10],hM⟩
   rintro a w ⟨C,D,E,F,G,H,I,K,S,a4,W,hS,hM⟩;unfold jY at hM;refine aA ?_;refine dr [] hS fun w hQ hS=>?_;refine gE [0,1,3,6] hS fun a hS=>?_;have hL:=hS;replace hL:=hL.freeze (R:=aa) 3 rfl 3 rfl;obtain⟨h5,cv,hM⟩:=bd hM;refine ec 2 hS zY (eg _ _ hL.dlt c.1.Records _ (hL.get 0 rfl) _ cv) fun _ w hR a hk hA=>?_;obtain rfl:=hR;have hS:=bS hA;have hL:=hS;replace hL:=hL.freeze (R:=ac) 5 rfl 4 rfl;obtain⟨h6,d0,hM⟩:=bd hM;refine ec 4 hS xI (dL _ _ hL.dlt (ab.mk (ah.mk C D) E F G H I K) _ (hL.get 0 rfl) _ d0) fun _ w hR a hk hA=>?_;obtain rfl:=hR;have hS:=bS hA;refine gE [5,7] hS fun a hS=>?_;refine eD ?_;exact fz
  exact fz
 rintro a w ⟨hS,hM⟩;unfold e8 at hM;refine aJ (J:=fun a w=>∃ (Y:Bool),St W0 No T 122 [(6,.bool Y)] [] [bu] a w∧jX Y=some y) ?_ ?_
 ·skip;refine al hS fun a hS=>?_;obtain⟨g1,ch,hM⟩:=bd hM;refine wl rfl (GL (R:=ac) (k1:=.i64) hS mM e7 rfl (.inr ⟨rfl,rfl⟩) (.inl ⟨_,rfl,rfl⟩) 0 rfl 0 rfl ch rfl fun ho gy a hS=>?_);have hL:=hS;replace hL:=hL.freeze (R:=ac) 1 rfl 2 rfl;replace hL:=hL.freeze (R:=ac) 0 rfl 1 rfl;obtain⟨h3,cl,hM⟩:=bd hM;refine kc hS Gl (jA _ _ hL.dlt d g1 _ _ (hL.get 1 rfl) (hL.get 0 rfl) _ cl) fun _ w hR a hk hA=>?_;obtain rfl:=hR;have hS:=bS hA;refine al hS fun a hS=>?_;rcases cd hM with⟨b1,hM⟩|⟨b1,hM⟩
  ·obtain⟨h4,co,hM⟩:=bd hM;refine wg hS rfl rfl rfl b1 (be hS FX rfl rfl (du _ _ hS.dlt (hS.get 3 rfl) _ co) fun _ w hR a hk hA=>?_);obtain rfl:=hR;have hS:=bS hA;exact fz
  exact fz
 rintro a w ⟨Y,hS,hM⟩;unfold jX at hM;exact fz
def fX:Option Bool:=(da).bind fun b=>some (b)
def fY (d:LK) (b:LN) (c:Int):Option (Fl (LK×LN×Int) (Fl (Unit) Bool)):=some (.go (d,b,IntKind.i64.wrap (c+1)))
def eK (k:LK) (e:Int) (f:LI) (g:LR) (l:LK) (h:Int) (j:(List LK)) (d:Int):Option (Fl ((List LK)×Int) (Fl (Unit) Bool)):=cond (decide (d<(([[],k,l]).length:Int))) ((bg j d).bind fun i=>(bY (am.mk e f g) h i).bind fun b=>(eR (am.mk e f g) h i).bind fun c=>(ly (am.mk b.1.Revision b.1.Inputs b.1.Records) (am.mk c.1.Revision c.1.Inputs c.1.Records)).bind fun m=>cond (!(m)) (some (.out (.out false))) ((dI b.2.1 c.2.1).bind fun n=>cond (!(n)) (some (.out (.out false))) (cond (b.2.2 != c.2.2) (some (.out (.out false))) (some (.go (j,IntKind.i64.wrap (d+1))))))) (some (.out (.go ())))
def eL (e:Int) (d:LK) (g:Int) (h:LI) (i:LR) (k:Int) (l:Int) (m:Int) (c:LK) (f:LN) (b:Int):Option (Fl (LK×LN×Int) (Fl (Unit) Bool)):=cond (decide (b<(([e,k,IntKind.i64.wrap (l-1),IntKind.i64.wrap (1073741824+m)]).length:Int))) ((bg f b).bind fun j=>(loop (fun s:(List LK)×Int=>eK d g h i c j s.1 s.2) ([[],d,c],0)).bind fun r=>Fl.el r (fun s=>fY c f b) (fun y=>some (.out (.out y)))) (some (.out (.go ())))
def fZ (b:Int) (f:LK) (g:Int) (h:LI) (i:LR) (j:LK):Option Bool:=(jt b 250).bind fun c=>(jt b 3).bind fun d=>(jt b 2).bind fun e=>(loop (fun s:LK×LN×Int=>eL b f g h i c d e s.1 s.2.1 s.2.2) (j,[b,c,IntKind.i64.wrap (d-1),IntKind.i64.wrap (1073741824+e)],0)).bind fun r=>Fl.el r (fun s=>fX) (fun y=>some (y))
def eJ (b:Int) (e:LK) (c:LN) (d:Int):Option (Fl (LK×Int×LN×Int) (LK)):=some (.go (e,IntKind.i64.wrap (b+1),c,d))
def jc (e:LR) (d:LK) (c:Int) (g:LN) (h:Int):Option (Fl (LK×Int×LN×Int) (LK)):=cond (decide (c<(e.length:Int))) ((bg e c).bind fun f=>(bJ (aW.mk g h) 4).bind fun b=>cond (b.1==0) (gd (bT (d.length+([f.Key]).length)) <| eJ c (d++([f.Key])) b.2.L b.2.At) (eJ c d b.2.L b.2.At)) (some (.out d))
def dz (b:Int) (e:LK) (d:(LU×am×aW)) (f:Int) (g:LI) (c:LR) (h:Bool):Option Bool:=cond h (some (false)) ((loop (fun s:LK×Int×LN×Int=>jc c s.1 s.2.1 s.2.2.1 s.2.2.2) (([]:List ah),0,d.2.2.L,d.2.2.At)).bind fun r=>fZ b e f g c r)
def dA (c:Int) (f:LK) (g:(LU×am×aW)) (d:Int) (e:LI) (b:LR):Option Bool:=(fw (am.mk d e b)).bind fun h=>cond h ((dj b).bind fun i=>(jQ b).bind fun j=>cond (i != j) (dz c f g d e b true) ((dS b).bind fun k=>(pN b).bind fun l=>(dI k l).bind fun m=>dz c f g d e b (!(m)))) (dz c f g d e b false)
def dV (e:am) (j:LN) (c:Int) (d:LK) (f:Int):Option Bool:=(qG j).bind fun h=>(fg h).bind fun b=>(jt f 5).bind fun g=>cond (g==0) (dA c d b e.Revision e.Inputs e.Records) (cond (g==1) ((jt (IntKind.i64.wrap (Int.tdiv f 5)) 2).bind fun i=>dA c d b (IntKind.i64.wrap (b.2.1.Revision-i)) b.2.1.Inputs b.2.1.Records) (dA c d b b.2.1.Revision b.2.1.Inputs b.2.1.Records))
def dk (c:am) (b:Int):Option (Fl (Int) (Fl (Unit) Bool)):=cond (decide (b<(c.Records.length:Int))) ((bg c.Records b).bind fun d=>cond (decide ((100:Int)<(d.Reads.length:Int))) ((da).bind fun e=>some (.out (.out e))) (some (.go (IntKind.i64.wrap (b+1))))) (some (.out (.go ())))
def jq (b:am) (f:LN) (d:Int) (c:LK) (e:Int):Option Bool:=cond (decide ((40:Int)<(b.Inputs.length:Int))) ((da).bind fun g=>some (g)) (cond (decide ((40:Int)<(b.Records.length:Int))) ((da).bind fun h=>some (h)) (cond (decide ((40:Int)<(c.length:Int))) ((da).bind fun i=>some (i)) ((iQ f).bind fun j=>cond (!(j)) ((da).bind fun k=>some (k)) ((loop (fun s:Int=>dk b s) 0).bind fun r=>Fl.el r (fun s=>dV b f d c e) (fun y=>some (y))))))
theorem vm (T:Nat→Prop) (W0:World) (hT:TW T W0) (hLv:dx T W0) (l:am) (O:LN) (b:Int) (c:LK) (p:Int) (v1:Value) (v2:Value) (v3:Value) (m:Value) (h8:aD ad T W0 v1 l.Inputs) (h9:aD aa T W0 v2 l.Records) (ha:aD (aS.int .i64) T W0 v3 O) (hb:aD ac T W0 m c) (y:Bool) (hM:jq l O b c p=some y):bc aQ No 3 [.agg (aY l v1 v2).toArray,v3,aj b,m,aj p] W0 (fun v w'=>v = .bool y):=by
 refine en Tryz.func3 Tryz.ntmps3 hT fun a hS=>?_;replace hS:=((((hS.fact bu (dx.dn hLv)).fS (aD.dn h8)).fS (aD.dn h9)).fS (aD.dn ha)).fS (aD.dn hb);unfold jq at hM;refine al hS fun a hS=>?_;refine kb hS fun Q hI a w hk hS=>?_;refine al hS fun a hS=>?_;refine aA ?_;refine i1 ?_;refine al hS fun a hS=>?_;rcases cd hM with⟨f7,hM⟩|⟨f7,hM⟩
 ·refine al hS fun a hS=>?_;obtain⟨k1,er,hM⟩:=bd hM;refine kc hS FX (du _ _ hS.dlt (hS.get 4 rfl) _ er) fun _ w hR a hk hA=>?_;obtain rfl:=hR;have hS:=bS hA;exact fz
 refine al hS fun a hS=>?_;rcases cd hM with⟨fd,hM⟩|⟨fd,hM⟩
 ·refine al hS fun a hS=>?_;obtain⟨k2,et,hM⟩:=bd hM;refine kc hS FX (du _ _ hS.dlt (hS.get 4 rfl) _ et) fun _ w hR a hk hA=>?_;obtain rfl:=hR;have hS:=bS hA;exact fz
 refine al hS fun a hS=>?_;rcases cd hM with⟨bb,hM⟩|⟨bb,hM⟩
 ·refine al hS fun a hS=>?_;obtain⟨k3,ew,hM⟩:=bd hM;refine kc hS FX (du _ _ hS.dlt (hS.get 4 rfl) _ ew) fun _ w hR a hk hA=>?_;obtain rfl:=hR;have hS:=bS hA;exact fz
 refine al hS fun a hS=>?_;obtain⟨k4,ex,hM⟩:=bd hM;refine wg hS rfl rfl rfl bb (be hS NA rfl rfl (qp _ _ hS.dlt O _ (hS.get 1 rfl) _ ex) fun _ w hR a hk hA=>?_);obtain rfl:=hR;have hS:=bS hA;refine al hS fun a hS=>?_;rcases cd hM with⟨fl,hM⟩|⟨fl,hM⟩
 ·refine al hS fun a hS=>?_;obtain⟨k5,ey,hM⟩:=bd hM;refine kc hS FX (du _ _ hS.dlt (hS.get 4 rfl) _ ey) fun _ w hR a hk hA=>?_;obtain rfl:=hR;have hS:=bS hA;exact fz
 refine al hS fun a hS=>?_;refine aJ (J:=fun a w=>St W0 No T 178 [(1,v3),(2,aj b),(3,m),(4,aj p),(5,pt Q 0)] [.box Q (aY l v1 v2) 25] [aK (aS.int .i64) v3 O,aK ac m c,aK ad v1 l.Inputs,aK aa v2 l.Records,bu] a w∧dV l O b c p=some y) ?_ ?_
 ·skip;refine al hS fun a hS=>?_;obtain⟨r1,a1,hMo1⟩:=bd hM;refine bB _ (fun s a w=>∃ (V:Int),V=s∧St W0 No T 178 [(1,v3),(2,aj b),(3,m),(4,aj p),(5,pt Q 0),(51,v2),(52,aj (l.Records.length:Int)),(53,aj V)] [.box Q (aY l v1 v2) 25] [aK (aS.int .i64) v3 O,aK ac m c,aK aa v2 l.Records,aK ad v1 l.Inputs,bu] a w) a1 ⟨_,rfl,hS.mt [0] [1,0,2,3,4]⟩ ?_;rintro s a w f1 ⟨V,rfl,hS⟩ hM hf1;have hM:dk l V=some f1:=hM;unfold dk at hM;refine al hS fun a hS=>?_;refine aA ?_;rcases cd hM with⟨fn,hM⟩|⟨fn,hM⟩
  ·refine al hS fun a hS=>?_;refine aA ?_;refine al hS fun a hS=>?_;obtain⟨hF,d2,hM⟩:=bd hM;refine wl rfl (bD (R:=aa) hS dM bZ rfl rfl 2 rfl d2 rfl fun hd hX hq fr a hS=>?_);obtain⟨k6,rfl,f3⟩:=fr;replace hS:=hS.fS f3;refine al hS fun a hS=>?_;refine ka hS dq fun hf hK a w hk hS=>?_;refine go hS fun a w hS=>?_;rcases cd hM with⟨fs,hM⟩|⟨fs,hM⟩
   ·refine al hS fun a hS=>?_;obtain⟨k0,eq,hM⟩:=bd hM;refine kc hS FX (du _ _ hS.dlt (hS.get 6 rfl) _ eq) fun _ w hR a hk hA=>?_;obtain rfl:=hR;have hS:=bS hA;exact fz
   exact fz
  exact fz
 rintro a w ⟨hS,hM⟩;unfold dV at hM;refine al hS fun a hS=>?_;obtain⟨cs,el,hM⟩:=bd hM;refine kc hS Ia (rP _ _ hS.dlt O _ (hS.get 0 rfl) _ el) fun _ w hR a hk hA=>?_;obtain⟨r,o,he,h6,bs,bF⟩:=hR;obtain rfl:=he.symm;have hS:=hA [.box r (a6 cs o) 73] (fG bs (fun k hk=>by simp only [cz.dom,cS] at hk; omega)) (uz _);replace hS:=hS.fS (bF.sub (oE _));refine al hS fun a hS=>?_;obtain⟨D,e4,hM⟩:=bd hM;refine wl rfl (lg hS Ib rfl rfl 0 rfl (mR _ _ (hS.drop 0).dlt cs _ _ (hS.boxRow 0 rfl) (hS.notin 0 rfl) (aD.lent (i:=0) rfl (hS.get 0 rfl)) (bu.keep (hS.get 5 rfl) (ai _ _) (fun k hk=>.inl ((nV (i:=0) rfl k).1 hk))) _ e4) fun _ w hR hk=>?_);obtain⟨kl,ks,P,H,kt,he,c0,c1,⟨bt,bl,c2⟩,hrow,c3,X⟩:=hR;obtain rfl:=he.symm;subst X;refine⟨(a6 D.2.2 o),[ae P H],hrow,fG ⟨bt,by decide⟩ bl,uz _,fun a hS=>?_⟩;replace hS:=(((hS.fR (c2.keep (ai _ _) (Nw.back2 (i:=0) rfl [ae P H] _))).fS (c0.sub (Nw.back2 (i:=0) rfl [ae P H] _))).fS (c1.sub (Nw.back2 (i:=0) rfl [ae P H] _))).fS (c3.sub (Nw.back2 (i:=0) rfl [ae P H] _));refine al hS fun a hS=>?_;refine ka hS i8 fun h hN a w hk hS=>?_;refine go hS fun a w hS=>?_;refine aJ (J:=fun a w=>∃ (f:Int) (g:LI) (d:LR) (j:Value) (e:Value),St W0 No T 178 [(2,aj b),(3,m),(13,pt r 0),(15,pt h 0)] [.box r (a6 D.2.2 o) 73,.box h [aj f,j,e] 25] [aK ac m c,aK (aS.int .i64) o D.2.2.L,aK ad j g,aK aa e d,bu] a w∧dA b c D f g d=some y) ?_ ?_
 ·skip;refine al hS fun a hS=>?_;obtain⟨jb,em,hM⟩:=bd hM;refine kc hS Be (jZ _ _ hS.dlt p 5 _ em) fun _ w hR a hk hA=>?_;obtain rfl:=hR;have hS:=bS hA;refine al hS fun a hS=>?_;rcases cd hM with⟨fM,hM⟩|⟨fM,hM⟩
  ·exact fz
  refine al hS fun a hS=>?_;rcases cd hM with⟨g0,hM⟩|⟨g0,hM⟩
  ·refine al hS fun a hS=>?_;refine dr [(7,.blk (some h))] hS fun w hQ hS=>?_;refine gE [0,1,2] hS fun a hS=>?_;refine dy 3 (v:=aj (IntKind.i64.wrap (Int.tdiv p 5))) rfl (by kernel_rfl) (by kernel_rfl) (by kernel_rfl) rfl hQ hS (J7 hS rfl rfl (by decide)) rfl rfl rfl fun a hS=>?_;obtain⟨js,ep,hM⟩:=bd hM;refine ec 4 hS Be (jZ _ _ hS.dlt (IntKind.i64.wrap (Int.tdiv p 5)) 2 _ ep) fun _ w hR a hk hA=>?_;obtain rfl:=hR;have hS:=bS hA;refine gE [5,6] hS fun a hS=>?_;refine es 7 hS fun w hS=>?_;refine eD ?_;replace hS:=hS.freeze (R:=aa) 1 rfl 3 rfl;exact⟨_,_,_,_,_,hS.mt [1,0] [7,1,2,0,10],hM⟩
  refine al hS fun a hS=>?_;replace hS:=hS.freeze (R:=aa) 1 rfl 3 rfl;exact⟨_,_,_,_,_,hS.mt [1,0] [7,1,2,0,10],hM⟩
 rintro a w ⟨f,g,d,j,e,hS,hM⟩;unfold dA at hM;refine aA ?_;refine aJ (J:=fun a w=>∃ (ak:Bool),St W0 No T 178 [(2,aj b),(3,m),(13,pt r 0),(15,pt h 0),(104,.bool ak)] [.box r (a6 D.2.2 o) 73,.box h [aj f,j,e] 25] [aK ac m c,aK (aS.int .i64) o D.2.2.L,aK ad j g,aK aa e d,bu] a w∧dz b c D f g d ak=some y) ?_ ?_
 ·skip;refine dr [] hS fun w hQ hS=>?_;refine gE [0] hS fun a hS=>?_;obtain⟨ih,e5,hM⟩:=bd hM;refine ec 1 hS Ic (pn _ _ hS.dlt (hS.get 4 rfl) (am.mk f g d) _ _ (hS.get 2 rfl) (hS.get 3 rfl) _ e5) fun _ w hR a hk hA=>?_;obtain rfl:=hR;have hS:=bS hA;refine gE [2] hS fun a hS=>?_;rcases cd hM with⟨an,hM⟩|⟨an,hM⟩
  ·refine gE [3,4,6,7] hS fun a hS=>?_;obtain⟨ii,e6,hM⟩:=bd hM;refine bV (i:=5) rfl (by kernel_rfl) hS rfl rfl rfl an (be hS zY rfl rfl (eg _ _ hS.dlt d _ (hS.get 3 rfl) _ e6) fun _ w hR a hk hA=>⟨eS (hk),?_⟩);obtain rfl:=hR;have hS:=bS hA;obtain⟨it,ea,hM⟩:=bd hM;refine bV (i:=8) rfl (by kernel_rfl) hS rfl rfl rfl an (be hS My rfl rfl (u4 _ _ hS.dlt d _ (hS.get 3 rfl) _ ea) fun _ w hR a hk hA=>⟨eS (hk),?_⟩);obtain rfl:=hR;have hS:=bS hA;refine gE [9,10] hS fun a hS=>?_;rcases cd hM with⟨W,hM⟩|⟨W,hM⟩
   ·refine gE [11,12,13,14,15,16,17,18,19,20] hS fun a hS=>?_;refine eD ?_;exact⟨_,hS.mt [0,1] [0,1,2,3,4],hM⟩
   refine gE [11,12,14,15] hS fun a hS=>?_;obtain⟨h3,eb,hM⟩:=bd hM;refine bV (i:=13) rfl (by kernel_rfl) hS rfl rfl rfl W (be hS Kk rfl rfl (rZ _ _ hS.dlt (hS.get 4 rfl) d _ (hS.get 3 rfl) _ eb) fun _ w hR a hk hA=>⟨eS (hk),?_⟩);obtain⟨l0,hs,he,c4⟩:=hR;obtain rfl:=he.symm;have hS:=qe hA c4;obtain⟨h4,ed,hM⟩:=bd hM;refine bV (i:=16) rfl (by kernel_rfl) hS rfl rfl rfl W (be hS NN rfl rfl (Ao _ _ hS.dlt (hS.get 5 rfl) d _ (hS.get 4 rfl) _ ed) fun _ w hR a hk hA=>⟨eS (hk),?_⟩);obtain⟨l1,ht,he,c5⟩:=hR;obtain rfl:=he.symm;have hS:=qe hA c5;have hL:=hS;replace hL:=hL.freeze (R:=ac) 1 rfl 1 rfl;replace hL:=hL.freeze (R:=ac) 0 rfl 1 rfl;obtain⟨ja,ek,hM⟩:=bd hM;refine bV (i:=17) rfl (by kernel_rfl) hS rfl rfl rfl W (be hS Gl rfl rfl (jA _ _ hL.dlt h3 h4 _ _ (hL.get 1 rfl) (hL.get 0 rfl) _ ek) fun _ w hR a hk hA=>⟨eS (hk),?_⟩);obtain rfl:=hR;have hS:=bS hA;refine gE [18,19,20] hS fun a hS=>?_;refine eD ?_;exact⟨_,hS.mt [2,3] [2,3,4,5,6],hM⟩
  refine gE [3,4,5,6,7,8,9,10,11,12,13,14,15,16,17,18,19,20] hS fun a hS=>?_;refine eD ?_;exact⟨_,hS.mt [0,1] [0,1,2,3,4],hM⟩
 rintro a w ⟨ak,hS,hM⟩;unfold dz at hM;rcases cd hM with⟨g1,hM⟩|⟨g1,hM⟩
 ·exact fz
 refine al hS fun a hS=>?_;refine aJ (J:=fun a w=>∃ (av:LK) (b1:Value) (a2:LV),St W0 No T 178 [(2,aj b),(3,m),(15,pt h 0),(16,b1)] [ay b1 a2,.box h [aj f,j,e] 25] [aK ac m c,ao ac a2 av,aK ad j g,aK aa e d,bu] a w∧fZ b c f g d av=some y) ?_ ?_
 ·skip;refine al hS fun a hS=>?_;replace hS:=hS.nilRow ac 31 (by decide);obtain⟨r1,a1,hMo1⟩:=bd hM;refine bB _ (fun s a w=>∃ (N:LK) (G:Int) (K:LN) (M:Int) (b2:Value) (a3:LV),(N,G,K,M)=s∧St W0 No T 178 [(2,aj b),(3,m),(13,pt r 0),(15,pt h 0),(16,b2),(106,e),(107,aj (d.length:Int)),(108,aj G)] [ay b2 a3,.box r [o,aj M] 73,.box h [aj f,j,e] 25] [aK ac m c,ao ac a3 N,aK aa e d,aK (aS.int .i64) o K,aK ad j g,bu] a w) a1 ⟨_,_,_,_,_,_,rfl,hS.mt [0,1,2] [1,0,4,2,3,5]⟩ ?_;rintro s a w f1 ⟨N,G,K,M,b2,a3,rfl,hS⟩ hM hf1;have hM:jc d N G K M=some f1:=hM;unfold jc at hM;refine al hS fun a hS=>?_;refine aA ?_;rcases cd hM with⟨g2,hM⟩|⟨g2,hM⟩
  ·refine al hS fun a hS=>?_;refine aJ (J:=fun a w=>∃ (b0:LK) (af:LN) (ag:Int) (b3:Value) (a4:LV),St W0 No T 178 [(2,aj b),(3,m),(13,pt r 0),(15,pt h 0),(16,b3),(106,e),(107,aj (d.length:Int)),(108,aj G)] [ay b3 a4,.box r [o,aj ag] 73,.box h [aj f,j,e] 25] [aK ac m c,ao ac a4 b0,aK aa e d,aK (aS.int .i64) o af,aK ad j g,bu] a w∧eJ G b0 af ag=some f1) ?_ ?_
   ·skip;refine al hS fun a hS=>?_;obtain⟨F,d1,hM⟩:=bd hM;refine wl rfl (bD (R:=aa) hS dM bZ rfl rfl 2 rfl d1 rfl fun hg hY hu g3 a hS=>?_);obtain⟨l2,rfl,f4⟩:=g3;replace hS:=hS.fS f4;refine al hS fun a hS=>?_;refine ka hS dq fun hh hP a w hk hS=>?_;refine go hS fun a w hS=>?_;obtain⟨h2,e3,hM⟩:=bd hM;refine wl rfl (cn hS lO rfl rfl 2 rfl (bn _ _ (hS.drop 2).dlt (aW.mk K M) 4 _ _ (hS.boxRow 2 rfl) (hS.notin 2 rfl) (aD.lent (i:=2) rfl (hS.get 5 rfl)) _ e3) fun _ w hR hk=>?_);obtain⟨l3,he,hrow,c6,Y⟩:=hR;obtain rfl:=he.symm;subst Y;refine⟨(a6 h2.2 o),hrow,fun a hS=>?_⟩;replace hS:=hS.fS (aD.back (i:=2) rfl c6);refine al hS fun a hS=>?_;rcases cd hM with⟨g4,hM⟩|⟨g4,hM⟩
    ·refine al hS fun a hS=>?_;refine wl rfl (bf (ps:=[(0,.tmp 117)]) hS gf gl (zl:=[aj 0,a8 cr]) (by kernel_rfl) rfl (us:=[(aX F.Key)]) ⟨rfl,trivial⟩ (ws:=(aX F.Key)) rfl rfl rfl rfl fun hi a w hk hS=>?_);replace hS:=(hS.lit (R:=ac) (us:=(aX F.Key)) (xs:=[F.Key]) 0 rfl (by decide) (aB.one_ (R:=ac) (x:=F.Key) rfl) rfl rfl).freeze (R:=ac) 0 rfl 0 rfl;obtain⟨g5,hM⟩:=bo hM;refine wl rfl (bM (R:=ac) (xs:=N) (ys:=[F.Key]) hS gf (by decide) (by decide) rfl rfl 1 rfl 6 rfl 0 rfl g5 rfl fun la hv a w hk hS=>?_);exact fz
    exact fz
   rintro a w ⟨b0,af,ag,b3,a4,hS,hM⟩;unfold eJ at hM;exact fz
  exact fz
 rintro a w ⟨av,b1,a2,hS,hM⟩;unfold fZ at hM;refine aJ (J:=fun a w=>St W0 No T 178 [] [] [bu] a w∧fX=some y) ?_ ?_
 ·skip;refine al hS fun a hS=>?_;obtain⟨t,ds,hM⟩:=bd hM;refine kc hS Be (jZ _ _ hS.dlt b 250 _ ds) fun _ w hR a hk hA=>?_;obtain rfl:=hR;have hS:=bS hA;refine al hS fun a hS=>?_;obtain⟨u,e0,hM⟩:=bd hM;refine kc hS Be (jZ _ _ hS.dlt b 3 _ e0) fun _ w hR a hk hA=>?_;obtain rfl:=hR;have hS:=bS hA;refine al hS fun a hS=>?_;obtain⟨z,e2,hM⟩:=bd hM;refine kc hS Be (jZ _ _ hS.dlt b 2 _ e2) fun _ w hR a hk hA=>?_;obtain rfl:=hR;have hS:=bS hA;refine al hS fun a hS=>?_;refine wl rfl (bf (ps:=[(0,.tmp 121),(1,.tmp 123),(2,.tmp 126),(3,.tmp 129)]) hS Fs L1 (zl:=[aj 0,aj 0,aj 0,aj 0]) (by kernel_rfl) rfl (us:=[[aj b],[aj t],[aj (IntKind.i64.wrap (u-1))],[aj (IntKind.i64.wrap (1073741824+z))]]) ⟨rfl,⟨rfl,⟨rfl,⟨rfl,trivial⟩⟩⟩⟩ (ws:=[aj b,aj t,aj (IntKind.i64.wrap (u-1)),aj (IntKind.i64.wrap (1073741824+z))]) rfl rfl rfl rfl fun hj a w hk hS=>?_);replace hS:=hS.lit (R:=(aS.int .i64)) (us:=[aj b,aj t,aj (IntKind.i64.wrap (u-1)),aj (IntKind.i64.wrap (1073741824+z))]) (xs:=[b,t,IntKind.i64.wrap (u-1),IntKind.i64.wrap (1073741824+z)]) 0 rfl (by decide) ((aB.one_ (R:=(aS.int .i64)) (x:=b) rfl).append ((aB.one_ (R:=(aS.int .i64)) (x:=t) rfl).append ((aB.one_ (R:=(aS.int .i64)) (x:=IntKind.i64.wrap (u-1)) rfl).append (aB.one_ (R:=(aS.int .i64)) (x:=IntKind.i64.wrap (1073741824+z)) rfl)))) rfl rfl;refine al hS fun a hS=>?_;replace hS:=hS.freeze (R:=ac) 1 rfl 2 rfl;obtain⟨r1,a1,hMo1⟩:=bd hM;refine bB _ (fun s a w=>∃ (n:LK) (B:LN) (C:Int) (E:Value) (A:LV) (q:Value),(n,B,C)=s∧St W0 No T 178 [(3,m),(15,pt h 0),(16,q),(130,E),(131,aj (([b,t,IntKind.i64.wrap (u-1),IntKind.i64.wrap (1073741824+z)]).length:Int)),(132,aj C)] [.own E 3 (aS.int .i64).size A,.box h [aj f,j,e] 25] [aK ac m c,aK ac q n,ao (aS.int .i64) A B,aK ad j g,aK aa e d,bu] a w) a1 ⟨_,_,_,_,_,_,rfl,hS.mt [0,1] [2,0,1,4,5,6]⟩ ?_;rintro s a w f1 ⟨n,B,C,E,A,q,rfl,hS⟩ hM hf1;have hM:eL b c f g d t u z n B C=some f1:=hM;unfold eL at hM;refine al hS fun a hS=>?_;refine aA ?_;rcases cd hM with⟨g6,hM⟩|⟨g6,hM⟩
  ·refine al hS fun a hS=>?_;refine aJ (J:=fun a w=>St W0 No T 178 [(3,m),(15,pt h 0),(16,q),(130,E),(131,aj (([b,t,IntKind.i64.wrap (u-1),IntKind.i64.wrap (1073741824+z)]).length:Int)),(132,aj C)] [.own E 3 (aS.int .i64).size A,.box h [aj f,j,e] 25] [aK ac m c,aK ac q n,ao (aS.int .i64) A B,aK ad j g,aK aa e d,bu] a w∧fY n B C=some f1) ?_ ?_
   ·skip;refine al hS fun a hS=>?_;obtain⟨I,cv,hM⟩:=bd hM;refine wl rfl (cU (R:=(aS.int .i64)) hS DW zB rfl rfl 0 rfl 2 rfl cv rfl fun hl i0 i3 hw g7 g8 gb a hS=>?_);obtain rfl:=g7;refine qy hS (bp (k:=0) hS zB 0 rfl g8 gb rfl id (us:=[aj I]) rfl rfl (fun _=>rfl)) fun a hS=>?_;refine al hS fun a hS=>?_;refine wl rfl (bf (ps:=[(0,.const (.slice none 0 0)),(1,.tmp 136),(2,.tmp 137)]) hS Ot OR (zl:=[.slice none 0 0,.slice none 0 0,.slice none 0 0]) (by kernel_rfl) rfl (us:=[[.slice none 0 0],[m],[q]]) ⟨rfl,⟨(lb (aD.one ((hS.get 0 rfl):aD ac _ _ _ _))),⟨(lb (aD.one ((hS.get 1 rfl):aD ac _ _ _ _))),trivial⟩⟩⟩ (ws:=[.slice none 0 0,m,q]) rfl rfl rfl rfl fun hm a w hk hS=>?_);replace hS:=hS.lit (R:=(aS.slice ac)) (us:=[.slice none 0 0,m,q]) (xs:=[[],c,n]) 0 rfl (by decide) ((aB.one_ (R:=(aS.slice ac)) (x:=[]) (⟨_,rfl,aD.nil_ _ _ _⟩)).append ((aB.one_ (R:=(aS.slice ac)) (x:=c) (⟨_,rfl,(hS.get 0 rfl)⟩)).append (aB.one_ (R:=(aS.slice ac)) (x:=n) (⟨_,rfl,(hS.get 1 rfl)⟩)))) rfl rfl;refine al hS fun a hS=>?_;obtain⟨r2,h7,hMo2⟩:=bd hM;refine bB _ (fun s a w=>∃ (S:(List LK)) (U:Int) (b5:Value) (a5:LV),(S,U)=s∧St W0 No T 178 [(3,m),(15,pt h 0),(16,q),(20,aj I),(130,E),(131,aj (([b,t,IntKind.i64.wrap (u-1),IntKind.i64.wrap (1073741824+z)]).length:Int)),(132,aj C),(138,b5),(139,aj (([[],c,n]).length:Int)),(140,aj U)] [.own E 3 (aS.int .i64).size A,.own b5 27 (aS.slice ac).size a5,.box h [aj f,j,e] 25] [aK ac m c,aK ac q n,ao (aS.int .i64) A B,ao (aS.slice ac) a5 S,aK ad j g,aK aa e d,bu] a w) h7 ⟨_,_,_,_,rfl,hS.mt [1,0,2] [1,2,3,0,4,5,6]⟩ ?_;rintro s a w f2 ⟨S,U,b5,a5,rfl,hS⟩ hM hf2;have hM:eK c f g d n I S U=some f2:=hM;unfold eK at hM;refine al hS fun a hS=>?_;refine aA ?_;rcases cd hM with⟨gi,hM⟩|⟨gi,hM⟩
    ·refine al hS fun a hS=>?_;refine aA ?_;refine al hS fun a hS=>?_;obtain⟨b9,d0,hM⟩:=bd hM;refine wl rfl (cU (R:=(aS.slice ac)) hS Ng BS rfl rfl 1 rfl 3 rfl d0 rfl fun hn i2 i4 hx gp gs gu a hS=>?_);obtain⟨h5,rfl,f6⟩:=gp;replace hS:=hS.fS f6;refine qy hS (bp (k:=0) hS BS 1 rfl gs gu rfl id (us:=[h5]) rfl rfl (fun _=>rfl)) fun a hS=>?_;refine al hS fun a hS=>?_;obtain⟨Z,d4,hM⟩:=bd hM;replace hS:=hS.re [] [0,1,2];refine wl rfl (bC hS zZ rfl rfl (ef _ _ hS.dltD (am.mk f g d) I b9 _ _ _ hS.dok (hS.getD 5 rfl) (hS.getD 6 rfl) (hS.getD 0 rfl) (hS.getD 7 rfl) _ d4) fun _ w hR a hk hA=>?_);obtain⟨le,hy,ll,hz,ls,hB,he,c9,ca,ch,gx⟩:=hR;obtain rfl:=he.symm;have hS:=hA _ gx;replace hS:=((hS.fR (c9.keep (ai _ _) (au _))).fR (ca.keep (ai _ _) (au _))).fR (ch.keep (ai _ _) (au _));refine al hS fun a hS=>?_;refine ka hS i8 fun ho hV a w hk hS=>?_;refine go hS fun a w hS=>?_;obtain⟨a0,d5,hM⟩:=bd hM;replace hS:=hS.re [] [0,1,2,3,4,5,6];refine wl rfl (bC hS MA rfl rfl (u3 _ _ hS.dltD (am.mk f g d) I b9 _ _ _ hS.dok (hS.getD 8 rfl) (hS.getD 9 rfl) (hS.getD 3 rfl) (hS.getD 10 rfl) _ d5) fun _ w hR a hk hA=>?_);obtain⟨lt,hC,lv,hD,lz,hE,he,ck,cl,co,gy⟩:=hR;obtain rfl:=he.symm;have hS:=hA _ gy;replace hS:=((hS.fR (ck.keep (ai _ _) (au _))).fR (cl.keep (ai _ _) (au _))).fR (co.keep (ai _ _) (au _));refine al hS fun a hS=>?_;refine ka hS i8 fun hp hW a w hk hS=>?_;refine go hS fun a w hS=>?_;refine i1 ?_;refine al hS fun a hS=>?_;have hL:=hS;replace hL:=hL.freeze (R:=ad) 5 rfl 5 rfl;replace hL:=hL.freeze (R:=aa) 5 rfl 5 rfl;replace hL:=hL.freeze (R:=ad) 1 rfl 4 rfl;replace hL:=hL.freeze (R:=aa) 1 rfl 4 rfl;obtain⟨i9,d6,hM⟩:=bd hM;refine kc hS MB (wt _ _ hL.dlt (am.mk Z.1.Revision Z.1.Inputs Z.1.Records) (am.mk a0.1.Revision a0.1.Inputs a0.1.Records) _ _ _ _ (hL.get 3 rfl) (hL.get 2 rfl) (hL.get 1 rfl) (hL.get 0 rfl) _ d6) fun _ w hR a hk hA=>?_;obtain rfl:=hR;have hS:=bS hA;refine al hS fun a hS=>?_;rcases cd hM with⟨bi,hM⟩|⟨bi,hM⟩
     ·refine al hS fun a hS=>?_;cases hM
      have hr:=hf2 _ rfl;subst hr;replace hMo2:=iq hMo2;have hM:=hMo2;cases hM
      have hr:=hf1 _ rfl;subst hr;replace hMo1:=iq hMo1;have hM:=hMo1;cases hM
      refine aH hS rfl (az hS rfl aF) ?_;exact rfl
     refine al hS fun a hS=>?_;have hL:=hS;replace hL:=hL.freeze (R:=ac) 7 rfl 3 rfl;replace hL:=hL.freeze (R:=ac) 3 rfl 1 rfl;obtain⟨ib,dl,hM⟩:=bd hM;refine wg hS rfl rfl rfl bi (be hS Gl rfl rfl (jA _ _ hL.dlt Z.2.1 a0.2.1 _ _ (hL.get 1 rfl) (hL.get 0 rfl) _ dl) fun _ w hR a hk hA=>?_);obtain rfl:=hR;have hS:=bS hA;refine al hS fun a hS=>?_;rcases cd hM with⟨h0,hM⟩|⟨h0,hM⟩
     ·refine al hS fun a hS=>?_;cases hM
      have hr:=hf2 _ rfl;subst hr;replace hMo2:=iq hMo2;have hM:=hMo2;cases hM
      have hr:=hf1 _ rfl;subst hr;replace hMo1:=iq hMo1;have hM:=hMo1;cases hM
      refine aH hS rfl (az hS rfl aF) ?_;exact rfl
     refine al hS fun a hS=>?_;rcases cd hM with⟨h1,hM⟩|⟨h1,hM⟩
     ·refine al hS fun a hS=>?_;cases hM
      have hr:=hf2 _ rfl;subst hr;replace hMo2:=iq hMo2;have hM:=hMo2;cases hM
      have hr:=hf1 _ rfl;subst hr;replace hMo1:=iq hMo1;have hM:=hMo1;cases hM
      refine aH hS rfl (az hS rfl aF) ?_;exact rfl
     exact fz
    exact fz
   rintro a w ⟨hS,hM⟩;unfold fY at hM;exact fz
  exact fz
 rintro a w ⟨hS,hM⟩;unfold fX at hM;refine al hS fun a hS=>?_;obtain⟨i5,d3,hM⟩:=bd hM;refine kc hS FX (du _ _ hS.dlt (hS.get 0 rfl) _ d3) fun _ w hR a hk hA=>?_;obtain rfl:=hR;have hS:=bS hA;exact fz
end
end
section
open Go.RowKit
open Go.Lib hiding intOf
theorem yM {s:List ab} {f:ab→Option Bool} (p:ab→Bool) (hl:Rm s.length) (hf:∀ x∈s,f x=some (p x)) :
  (∃ (k:Nat) (x:ab),s[k]? = some x∧p x=true∧(∀ (j:Nat) (z:ab),j<k→s[j]? = some z→p z=false)∧dt f s=some (k:Int))∨(∀ z∈s,p z=false)∧dt f s=some (-1):=by
 unfold Rm at hl;have key:=iO (B:=fun t:Int=>cg s f t) (xs:=s) p (fun k=>(k:Int)) (s0:=0) rfl (y:=fun k _=>Fl.out (k:Int)) (n:=Fl.go ()) (fun k x hx hp=>by
   unfold cg;rw [cM hx,cond_true,aM,hx,aq,hf x (aG hx),aq,hp,cond_false,cc (by have:=aV hx; omega)]) (fun k x hx hp=>by
   unfold cg;rw [cM hx,cond_true,aM,hx,aq,hf x (aG hx),aq,hp,cond_true]) (by
   unfold cg;rw [bA]; rfl)
 rcases key with⟨k,x,h1,h2,h3,h4⟩|⟨h1,h2⟩
 ·refine .inl ⟨k,x,h1,h2,h3,?_⟩;unfold dt;rw [h4]; rfl
 ·refine .inr ⟨h1,?_⟩;unfold dt;rw [h2]; rfl
theorem Ip {l:List ab} (hl:Bc l) (k:ah):pF l k=some (cq l k):=by
 unfold pF cq;rcases yM (s:=l) (f:=fun x0=>mx x0 k) (fun r=>dU r.Key k) hl.1 (fun x hx=>rfl) with⟨i,x,h1,h2,h3,h4⟩|⟨h1,h2⟩
 ·rw [h4,aq,show decide ((i:Int)<0)=false from decide_eq_false (by omega),cond_false,aM,h1,aq,G9 (hl.2 x (aG h1)),Br (p:=fun r=>dU r.Key k) h1 h2 h3];rfl
 ·rw [h2,aq,show l.find? (fun r=>dU r.Key k)=none from A9.2 fun x hx=>by rw [h1 x hx]; simp];rfl
theorem DI {s:List ab} {f:ab→Option Bool} (p:ab→Bool) (hl:Rm s.length) (hf:∀ x∈s,f x=some (p x)):vT f s=some (s.filter fun x=>!p x):=by
 unfold vT;rcases yM (s:=s) p hl hf with⟨i,x,h1,h2,h3,h4⟩|⟨h1,h2⟩
 ·unfold Rm at hl;rw [h4,aq,show ((i:Int) == -1)=false from by simp,cond_false,cc (by have:=aV h1; omega)];have hi:=aV h1;have hf0:(s.take i).filter (fun x=>!p x)=s.take i:=by
   rw [u9];intro z hz;obtain⟨j,hj⟩:=gt.1 hz;rw [mO] at hj;split at hj
   ·rename_i hji;rw [h3 j z hji hj]; rfl
   ·cases hj
  have key:Ok ((loop (fun t:List ab×Int×Int=>qW f t.1 t.2.1 t.2.2) (s,(i:Int),((i+1:Nat):Int))).bind fun r=>oG r.1 r.2) fun y=>y=s.filter fun x=>!p x:=by
   refine bG (fun n t=>∃ s' i' j,t=(s',((i':Nat):Int),((j:Nat):Int))∧s'.length=s.length∧s'.take i'=(s.take j).filter (fun x=>!p x)∧s'.drop j=s.drop j∧i'<j∧j≤s.length∧i+1+n=j) (fun t=>∃ s' i',t=(s',((i':Nat):Int))∧s'.length=s.length∧i'≤s.length∧s'.take i'=s.filter fun x=>!p x) (s.length-(i+1))
    ⟨s,i,i+1,rfl,rfl,?_,rfl,Nat.lt_succ_self _,hi,rfl⟩ (fun n t hn hI=>?_) (fun t ht=>?_)
   ·rw [bw h1,kH,hf0]; simp [h2]
   ·obtain⟨s',i',j,rfl,e1,e2,e3,e4,e5,e6⟩:=hI;unfold qW;dsimp only;by_cases hj:j<s.length
    ·have hx:s[j]? = some s[j]:=bq hj;have hx':s'[j]? = some s[j]:=by
      have:=congrArg (fun l=>l[0]?) e3;rw [← hx];simpa using this
     rw [dlt (by omega),cond_true,aM,hx',aq,hf _ (ge hj),aq];unfold qV;rw [cc (by omega),aM,cc (by omega)];have hi2:i'<s'.length:=by omega
     rw [bq hi2,aq,pQ];cases hp:p s[j]
     ·simp only [nM,cond_true];refine ap ⟨by omega,_,i'+1,j+1,rfl,by simp [e1],?_,?_,by omega,by omega,by omega⟩
      ·rw [bw hx,kH,← e2];simp only [hp,nM,zN,List.filter_nil];rw [bw (x:=s[j]) (by simp [hi2]),List.take_set_of_le (ce _)]
      ·rw [List.drop_set_of_lt (by omega)];have:=congrArg (List.drop 1) e3;simpa [Nat.add_comm] using this
     ·simp only [eI,cond_false];refine ap ⟨by omega,_,i',j+1,rfl,e1,?_,?_,by omega,by omega,by omega⟩
      ·rw [bw hx,kH,← e2];simp [hp]
      ·have:=congrArg (List.drop 1) e3;simpa [Nat.add_comm] using this
    ·have hj2:j=s.length:=by omega
     rw [Gr (by omega),cond_false];exact ap ⟨s',i',rfl,e1,by omega,by rw [e2,hj2,i7]⟩
   ·obtain⟨s',i',rfl,e1,e2,e3⟩:=ht;unfold oG;dsimp only;rw [uD (by omega),aq];simp only [pQ,Dm,pT];rw [oX (by simp; omega),aq];refine ap ?_;rw [Ec (by simp; omega),List.take_take,Nat.min_self,e3]
  obtain⟨y,e,rfl⟩:=key;exact e
 ·rw [h2,aq];show some s=_;rw [u9.2 fun x hx=>by rw [h1 x hx]; rfl]
def Cz (l:List ab) (k:ah):List ab:=l.filter fun r=>!dU r.Key k
theorem Ik {l:List ab} (hl:Bc l) (k:ah):pE l k=some (Cz l k):=by
 unfold pE Cz;rw [Bj hl,aq,DI (f:=fun x0=>mw x0 k) (fun r=>dU r.Key k) hl.1 fun x hx=>rfl]; rfl
def fh (r:ab):Nat:=16+r.Key.Text.size+r.Value.size+8*r.Reads.length
structure vd (r:ab):Prop where
 txt:r.Key.Text.size≤1073741824
 val:r.Value.size≤1073741824
 rds:r.Reads.length≤4000
theorem vd.le {r:ab} (h:vd r):fh r≤2147515664:=by
 unfold fh; have:=h.txt; have:=h.val; have:=h.rds; omega
theorem wF (r:ab):16≤fh r:=by unfold fh; omega
theorem yf {r:ab} (h:vd r):jO r=some (fh r:Int):=by
 have:=h.txt; have:=h.val; have:=h.rds;unfold jO fh;have e1:=gM (z:=16+(r.Key.Text.size:Int)) (by omega) (by omega);have e2:=gM (z:=16+(r.Key.Text.size:Int)+(r.Value.size:Int)) (by omega) (by omega);have e3:=gM (z:=8*(r.Reads.length:Int)) (by omega) (by omega);have e4:=gM (z:=16+(r.Key.Text.size:Int)+(r.Value.size:Int)+8*(r.Reads.length:Int)) (by omega) (by omega);rw [e1,e2,e3,e4]
 first | rfl | (congr 1; omega)
theorem nq {r:ab} (h:vd r):cP r=some (fh r:Int):=by
 have:=h.txt; have:=h.val; have:=h.rds;unfold cP fh;have e1:=gM (z:=16+(r.Key.Text.size:Int)) (by omega) (by omega);have e2:=gM (z:=16+(r.Key.Text.size:Int)+(r.Value.size:Int)) (by omega) (by omega);have e3:=gM (z:=8*(r.Reads.length:Int)) (by omega) (by omega);have e4:=gM (z:=16+(r.Key.Text.size:Int)+(r.Value.size:Int)+8*(r.Reads.length:Int)) (by omega) (by omega);rw [e1,e2,e3,e4]
 first | rfl | (congr 1; omega)
def cF (l:List ab):Nat:=(l.map fh).sum
theorem nF (r:ab) (l:List ab):cF (r::l)=fh r+cF l:=by simp [cF]
theorem qP (l:List ab) (r:ab):cF (l++[r])=cF l+fh r:=by simp [cF]
theorem uE {l:List ab} (h:∀ r∈l,vd r):cF l≤l.length*2147515664:=by
 induction l with
 | nil=>simp [cF]
 | cons r l ih =>
  rw [nF,d8,jS];have:=(h r rH).le;have:=ih fun x hx=>h x (wJ _ hx);omega
theorem oY {a b:List ab} (h:a.Perm b):cF a=cF b:=(h.map fh).sum_nat
theorem rE {l:List ab} (h:∀ r∈l,vd r) (hl:l.length≤100000):dj l=some (cF l:Int):=by
 unfold dj;have e:loop (fun s:Int×Int=>jp l s.1 s.2) (0,0)=some (cF l:Int):=by
  refine (cG (xs:=l) (fun n=>((cF (l.take n):Int),(n:Int))) rfl (fun n r hx=>?_) ?_)
  ·dsimp only;have hn:=aV hx;have h1:=h r (aG hx);have h2:=uE (l:=l.take n) fun x hx=>h x (tx hx);have h3:=h1.le;rw [dh] at h2;have h4:min n l.length*2147515664≤100000*2147515664:=nL _ (by omega);unfold jp;rw [cM hx,cond_true,aM,hx,aq,yf h1,aq,gM (by omega) (by omega),cc (by omega),bw hx,qP];congr 3
  ·dsimp only;unfold jp;rw [bA,i7]; rfl
 rw [e]; rfl
end
section
open Go.RowKit
open Go.Lib hiding intOf
theorem G7 (a b c:Int):tE [a,b,c]=some (if a≠0 then a else if b≠0 then b else c):=by
 unfold tE;have h:=iO (B:=fun k:Int=>lQ [a,b,c] k) (xs:=[a,b,c]) (fun x=>x != 0) (fun k=>(k:Int)) (s0:=0) rfl (y:=fun _ x=>Fl.out (S:=Unit) x) (n:=Fl.go ())
  (fun k x hx hp=>by
   have:=aV hx;simp only [d8,jR] at this;unfold lQ;rw [cM hx,cond_true,aM,hx,aq,hp,cond_false,cc (by omega)])
  (fun k x hx hp=>by
   unfold lQ;rw [cM hx,cond_true,aM,hx,aq,hp,cond_true])
  (by unfold lQ; rw [bA]; rfl)
 rcases h with⟨k,x,h1,h2,h3,h4⟩|⟨h1,h2⟩
 ·rw [h4,aq];show some x=_;congr 1;have hk:=aV h1;simp only [d8,jR] at hk
  match k,hk with
  | 0,_ =>
   have e:a=x:=by simpa using h1
   subst e;have h2:¬ a=0:=by simpa using h2
   rw [if_pos h2]
  | 1,_ =>
   have e:b=x:=by simpa using h1
   subst e;have h2:¬ b=0:=by simpa using h2
   have h0:a=0:=by have:=h3 0 a (by omega) rfl; simpa using this
   rw [if_neg (by simp [h0]),if_pos h2]
  | 2,_ =>
   have e:c=x:=by simpa using h1
   subst e;have h0:a=0:=by have:=h3 0 a (by omega) rfl; simpa using this
   have h00:b=0:=by have:=h3 1 b (by omega) rfl; simpa using this
   rw [if_neg (by simp [h0]),if_neg (by simp [h00])]
 ·rw [h2];have ha:a=0:=by have:=h1 a (by simp); simpa using this
  have hb:b=0:=by have:=h1 b (by simp); simpa using this
  have hc:c=0:=by have:=h1 c (by simp); simpa using this
  subst ha hb hc;rfl
def kd (a b:ab):Int:=if a.Cost*fh b<b.Cost*fh a then -1 else if b.Cost*fh a<a.Cost*fh b then 1 else if fh b<fh a then -1 else if fh a<fh b then 1 else cu a.Key b.Key
structure kq (r:ab):Prop where
 sz:vd r
 low:0≤r.Cost
 high:r.Cost≤1073741824
theorem qJ {c:Int} {n:Nat} (h0:0≤c) (h1:c≤1073741824) (hn:n≤2147515664):0≤c*(n:Int)∧c*(n:Int)≤2305877905200000000:=by
 have h2:c*(n:Int)≤1073741824*(n:Int):=B5 h1 (by omega);have h3:=Int.mul_nonneg h0 (show (0:Int)≤(n:Int) by omega);omega
theorem qK {a b:ab} (ha:kq a) (hb:kq b):aO a b=some (kd a b):=by
 have h1:=qJ ha.low ha.high hb.sz.le;have h2:=qJ hb.low hb.high ha.sz.le;unfold aO;rw [yf ha.sz,aq,yf hb.sz,aq,gM (by omega) (by omega),gM (by omega) (by omega),Bg,Bg,aq,aq,yu,aq,G7,aq];unfold kd;congr 1;by_cases c1:a.Cost*fh b<b.Cost*fh a
 ·simp [c1]
 ·by_cases c2:b.Cost*fh a<a.Cost*fh b
  ·simp [c1,c2]
  ·have e0:(if a.Cost * ↑(fh b)<b.Cost * ↑(fh a) then (-1:Int) else if b.Cost * ↑(fh a)<a.Cost * ↑(fh b) then 1 else 0)=0:=by rw [if_neg c1,if_neg c2]
   rw [e0,if_neg (by simp),if_neg c1,if_neg c2];by_cases c3:fh b<fh a
   ·have c3':(fh b:Int)<(fh a:Int):=by omega
    simp [c3]
   ·by_cases c4:fh a<fh b
    ·simp [c3,c4]
    ·simp [c3,c4]
theorem lj (a b:ab):kd b a = - kd a b:=by
 unfold kd;by_cases c1:a.Cost*fh b<b.Cost*fh a
 ·rw [if_neg (by omega),if_pos c1,if_pos c1]; rfl
 ·by_cases c2:b.Cost*fh a<a.Cost*fh b
  ·rw [if_pos c2,if_neg c1,if_pos c2]
  ·rw [if_neg c2,if_neg c1,if_neg c1,if_neg c2];by_cases c3:fh b<fh a
   ·rw [if_neg (by omega),if_pos c3,if_pos c3]; rfl
   ·by_cases c4:fh a<fh b
    ·rw [if_pos c4,if_neg c3,if_pos c4]
    ·rw [if_neg c4,if_neg c3,if_neg c3,if_neg c4];exact sA a.Key b.Key
theorem C0 {p q r x y z:Int} (hx:0<x) (hy:0<y) (hz:0<z) (h1:p*y≤q*x) (h2:q*z≤r*y):p*z≤r*x∧(p*z=r*x→p*y=q*x∧q*z=r*y):=by
 have a1:p*y*z≤q*x*z:=B5 h1 (by omega);have a2:q*z*x≤r*y*x:=B5 h2 (by omega);have e1:p*y*z=p*z*y:=by rw [vH,Int.mul_comm y z,← vH]
 have e2:q*x*z=q*z*x:=by rw [vH,Int.mul_comm x z,← vH]
 have e3:r*y*x=r*x*y:=by rw [vH,Int.mul_comm y x,← vH]
 refine⟨Int.le_of_mul_le_mul_right (a:=y) (by omega) hy,fun h=>?_⟩;have e4:p*z*y=r*x*y:=by rw [h]
 exact⟨Int.eq_of_mul_eq_mul_right (a:=z) (by omega) (by omega),Int.eq_of_mul_eq_mul_right (a:=x) (by omega) (by omega)⟩
theorem y7 {a b:ab}:kd a b≤0↔a.Cost*fh b<b.Cost*fh a∨(a.Cost*fh b=b.Cost*fh a∧(fh b<fh a∨(fh a=fh b∧cu a.Key b.Key≤0))):=by
 unfold kd;by_cases c1:a.Cost*fh b<b.Cost*fh a
 ·rw [if_pos c1]; exact⟨fun _=>.inl c1,fun _=>by omega⟩
 ·rw [if_neg c1];by_cases c2:b.Cost*fh a<a.Cost*fh b
  ·rw [if_pos c2];exact⟨fun h=>absurd h (by omega),fun h=>by rcases h with h | ⟨h,_⟩ <;> omega⟩
  ·rw [if_neg c2];have e:a.Cost*fh b=b.Cost*fh a:=by omega
   by_cases c3:fh b<fh a
   ·rw [if_pos c3]; exact⟨fun _=>.inr ⟨e,.inl c3⟩,fun _=>by omega⟩
   ·rw [if_neg c3];by_cases c4:fh a<fh b
    ·rw [if_pos c4];exact⟨fun h=>absurd h (by omega),fun h=>by rcases h with h | ⟨_,h | ⟨h,_⟩⟩ <;> omega⟩
    ·rw [if_neg c4];exact⟨fun h=>.inr ⟨e,.inr ⟨by omega,h⟩⟩,fun h=>by rcases h with h | ⟨_,h | ⟨_,h⟩⟩; omega; omega; exact h⟩
theorem Ad {a b c:ah} (h1:cu a b≤0) (h2:cu b c≤0):cu a c≤0:=by
 rcases sC a b with h | h | h
 ·rcases sC b c with k | k | k
  ·have:=ni h k; omega
  ·rw [← k]; omega
  ·have:=sA c b; omega
 ·rw [h]; exact h2
 ·have:=sA b a; omega
theorem lY {a b c:ab} (h1:kd a b≤0) (h2:kd b c≤0):kd a c≤0:=by
 have pa:=wF a; have pb:=wF b; have pc:=wF c;rw [y7] at *;have l1:a.Cost*fh b≤b.Cost*fh a:=by rcases h1 with h | h; omega; exact Int.le_of_eq h.1
 have l2:b.Cost*fh c≤c.Cost*fh b:=by rcases h2 with h | h; omega; exact Int.le_of_eq h.1
 obtain⟨r1,r2⟩:=C0 (x:=(fh a:Int)) (y:=(fh b:Int)) (z:=(fh c:Int)) (by omega) (by omega) (by omega) l1 l2;by_cases e:a.Cost*fh c=c.Cost*fh a
 ·obtain⟨e1,e2⟩:=r2 e;refine .inr ⟨e,?_⟩;rcases h1 with h1 | ⟨_,h1⟩
  ·omega
  ·rcases h2 with h2 | ⟨_,h2⟩
   ·omega
   ·rcases h1 with h1 | ⟨h1,k1⟩
    ·rcases h2 with h2 | ⟨h2,_⟩ <;> (left; omega)
    ·rcases h2 with h2 | ⟨h2,k2⟩
     ·left; omega
     ·right; exact⟨by omega,Ad k1 k2⟩
 ·left; omega
theorem Ly {a b:ab} (h:a.Key≠b.Key):kd a b≠0:=by
 unfold kd;split
 ·omega
 ·split
  ·omega
  ·split
   ·omega
   ·split
    ·omega
    ·exact fun e=>h (By e)
structure Ma (d0:List ab) (i j:Nat) (d:List ab):Prop where
 perm:d.Perm d0
 le:j≤i
 lt:i<d.length
 rest:∀ (p q:Nat) (x y:ab),p<q→q≤i→p≠j→q≠j→d[p]? = some x→d[q]? = some y→kd x y≤0
 up:∀ (q:Nat) (x y:ab),j<q→q≤i→d[j]? = some x→d[q]? = some y→kd x y≤0
section
variable {d0:List ab} (hc:∀ r∈d0,kq r) (hl:d0.length≤1000000)
include hc hl
theorem GI {i:Nat}:∀ (j:Nat) (d:List ab),Ma d0 i j d→∃ d',loop (fun s:List ab×Int=>ci 0 aO s.1 s.2) (d,(j:Int))=some d'∧d'.Perm d0∧∀ (p q:Nat) (x y:ab),p<q→q≤i→d'[p]? = some x→d'[q]? = some y→kd x y≤0
 | 0,d,h=>⟨d,cN (by unfold ci; rfl),h.perm,fun p q x y hpq hq hx hy=>by
   rcases wK p with rfl | hp
   ·exact h.up q x y hpq hq hx hy
   ·exact h.rest p q x y hpq hq (by omega) (by omega) hx hy⟩
 | j+1,d,h=>by
  have hlen:=h.perm.length_eq;have hji:=h.le;have hi:=h.lt;have hj1:j+1<d.length:=by omega
  have hj:j<d.length:=by omega
  have g1:d[j+1]? = some d[j+1]:=bq hj1;have g0:d[j]? = some d[j]:=bq hj;have c1:kq d[j+1]:=hc _ (h.perm.mem_iff.1 (ge hj1));have c0:kq d[j]:=hc _ (h.perm.mem_iff.1 (ge hj));have ew:IntKind.i64.wrap (((j+1:Nat):Int)-1)=(j:Int):=by rw [gM (by omega) (by omega)]; omega
  have eb:ci 0 aO d ((j+1:Nat):Int)=cond (decide (kd d[j+1] d[j]<0)) (some (.go ((d.set (j+1) d[j]).set j d[j+1],(j:Int)))) (some (.out d)):=by
   unfold ci;rw [decide_eq_true (show (0:Int)<((j+1:Nat):Int) by omega),cond_true,ew,aM,aM,g1,aq,g0,aq,qK c1 c0,aq,aq,aq,aq,pQ,pQ,aM,ov (by omega),g0,aq]
  by_cases hlt:kd d[j+1] d[j]<0
  ·have hp:Ma d0 i j ((d.set (j+1) d[j]).set j d[j+1]):=by
    refine⟨(List.set_set_perm hj1 hj).trans h.perm,by omega,by simp; omega,fun p q x y hpq hq hpj hqj hx hy=>?_,fun q x y hjq hq hx hy=>?_⟩
    ·rw [ov (by omega)] at hx hy;by_cases ep:p=j+1
     ·subst ep;rw [uj hj1] at hx;rw [ov (by omega)] at hy;injection hx with hx;subst hx;exact h.rest j q _ y (by omega) hq (by omega) (by omega) g0 hy
     ·rw [ov (by omega)] at hx;by_cases eq:q=j+1
      ·subst eq;rw [uj hj1] at hy;injection hy with hy;subst hy;exact h.rest p j x _ (by omega) (by omega) (by omega) (by omega) hx g0
      ·rw [ov (by omega)] at hy;exact h.rest p q x y hpq hq (by omega) (by omega) hx hy
    ·rw [uj (by simp; omega)] at hx;injection hx with hx;subst hx;rw [ov (by omega)] at hy;by_cases eq:q=j+1
     ·subst eq;rw [uj hj1] at hy;injection hy with hy;subst hy;omega
     ·rw [ov (by omega)] at hy;exact h.up q _ y (by omega) hq g1 hy
   obtain⟨d',e1,e2,e3⟩:=GI j _ hp;exact⟨d',by rw [jh (s':=((d.set (j+1) d[j]).set j d[j+1],(j:Int))) (by rw [eb,decide_eq_true hlt]; rfl)]; exact e1,e2,e3⟩
  ·refine⟨d,cN (by rw [eb,decide_eq_false hlt]; rfl),h.perm,fun p q x y hpq hq hx hy=>?_⟩;have hle:kd d[j] d[j+1]≤0:=by rw [lj]; omega
   by_cases eq:q=j+1
   ·subst eq;rw [g1] at hy;injection hy with hy;subst hy;by_cases ep:p=j
    ·subst ep;rw [g0] at hx;injection hx with hx;subst hx;exact hle
    ·exact lY (h.rest p j x _ (by omega) (by omega) (by omega) (by omega) hx g0) hle
   ·by_cases ep:p=j+1
    ·subst ep;exact h.up q x y hpq hq hx hy
    ·exact h.rest p q x y hpq hq ep eq hx hy
theorem IW:∃ d',b7 aO d0 0 (d0.length:Int)=some d'∧d'.Perm d0∧d'.Pairwise fun a b=>kd a b≤0:=by
 have key:Ok ((loop (fun s:List ab×Int=>fJ 0 (d0.length:Int) aO s.1 s.2) (d0,IntKind.i64.wrap (0+1))).bind fun r=>kZ r) fun d'=>d'.Perm d0∧d'.Pairwise fun a b=>kd a b≤0:=by
  refine bG (fun n s=>s.2=((n+1:Nat):Int)∧s.1.Perm d0∧∀ (p q:Nat) (x y:ab),p<q→q≤n→s.1[p]? = some x→s.1[q]? = some y→kd x y≤0) (fun d'=>d'.Perm d0∧∀ (p q:Nat) (x y:ab),p<q→d'[p]? = some x→d'[q]? = some y→kd x y≤0) d0.length ⟨rfl,Dp _,fun p q x y h1 h2=>by omega⟩ (fun n s hn hI=>?_) (fun d' h=>ap ⟨h.1,?_⟩)
  ·obtain⟨d,i⟩:=s;obtain⟨h1,h2,h3⟩:=hI;dsimp only at h1 h2 h3;subst h1;have hlen:=h2.length_eq;dsimp only;unfold fJ;by_cases hlt:n+1<d0.length
   ·rw [decide_eq_true (show ((n+1:Nat):Int)<(d0.length:Int) by omega),cond_true];obtain⟨d',e1,e2,e3⟩:=GI hc hl (n+1) d (i:=n+1) ⟨h2,ce _,by omega,fun p q x y a1 a2 a3 a4 hx hy=>h3 p q x y a1 (by omega) hx hy,fun q x y a1 a2=>by omega⟩;rw [e1,aq];unfold iB;exact ap ⟨by omega,cc (by omega),e2,e3⟩
   ·rw [decide_eq_false (show ¬ ((n+1:Nat):Int)<(d0.length:Int) by omega),cond_false];exact ap ⟨h2,fun p q x y a1 hx hy=>h3 p q x y a1 (by have:=aV hy; omega) hx hy⟩
  ·rw [gv];exact fun p q hp hq hpq=>h.2 p q _ _ hpq (bq hp) (bq hq)
 obtain⟨d',e,h⟩:=key;exact⟨d',e,h⟩
end
end
section
open Go.RowKit
open Go.Lib hiding intOf
theorem uS {α:Type} {c:Bool} {x:Option α} (h:c=true):gd c x=x:=by rw [h]; rfl
theorem A5 {d0:List ab} (hc:∀ r∈d0,kq r) (hl:d0.length<20):∃ d',eH aO d0=some d'∧d'.Perm d0∧d'.Pairwise fun a b=>kd a b≤0:=by
 obtain⟨d',h1,h2,h3⟩:=IW hc (by omega);refine⟨d',?_,h2,h3⟩;have e1:loop (fun s:(List ab)×Int×Int=>cQ (d0.length:Int) aO s.1 s.2.1 s.2.2) (d0,0,20)=some (d0,0):=cN (by
  dsimp only;unfold cQ;rw [decide_eq_false (show ¬ (20:Int)≤(d0.length:Int) by omega),cond_false])
 have e2:loop (fun s:(List ab)×Int=>cy (d0.length:Int) aO s.1 s.2) (d',20)=some d':=cN (by
  dsimp only;unfold cy;rw [decide_eq_false (show ¬ (20:Int)<(d0.length:Int) by omega),cond_false])
 unfold eH mN;rw [e1,aq];unfold dY;rw [h1,aq,e2];rfl
theorem CW {l:List ab} (hc:∀ r∈l,kq r) (hl:l.length<20):∃ s:List ab,dS l=some (s.map ab.Key)∧s.Perm l∧s.Pairwise fun a b=>kd a b≤0:=by
 obtain⟨s,h1,h2,h3⟩:=A5 hc hl;refine⟨s,?_,h2,h3⟩;have hlen:=h2.length_eq;unfold dS;rw [wP (by unfold Rm; omega),aq,h1,aq];rw [show loop (fun t:(List ah)×Int=>eh s t.1 t.2) (([]:List ah),0)=some (s.map ab.Key) from cG (xs:=s) (fun n=>((s.take n).map ab.Key,(n:Int))) rfl (fun n r hx=>by
  have hn:=aV hx;dsimp only;unfold eh;rw [cM hx,cond_true,aM,hx,aq,uS (dX (by simp; omega)),cc (by omega),bw hx,sK];rfl) (by
  dsimp only;unfold eh;rw [bA,i7]; rfl)]
 rfl
def vp (l:List ah) (k:ah):Bool:=l.any fun x=>dU k x
theorem GV {l:List ah} {k:ah}:vp l k=true↔k∈l:=by
 unfold vp;rw [sh];constructor
 ·rintro⟨x,hx,e⟩;rw [(kv).1 e]; exact hx
 ·exact fun h=>⟨k,h,(kv).2 rfl⟩
theorem Cu {l:List ah} (hl:Rm l.length) (k:ah):nU l k=some (vp l k):=by
 unfold Rm at hl;have key:=iO (B:=fun t:Int=>jU l k t) (xs:=l) (fun x=>dU k x) (fun k=>(k:Int)) (s0:=0) rfl (y:=fun k _=>Fl.out (k:Int)) (n:=Fl.go ()) (fun j x hx hp=>by
   unfold jU;unfold dU at hp;rw [cM hx,cond_true,aM,hx,aq,hp,cond_false,cc (by have:=aV hx; omega)]) (fun j x hx hp=>by
   unfold jU;unfold dU at hp;rw [cM hx,cond_true,aM,hx,aq,hp,cond_true]) (by
   unfold jU;rw [bA]; rfl)
 unfold nU uq vp;rcases key with⟨j,x,h1,h2,h3,h4⟩|⟨h1,h2⟩
 ·rw [h4,sh.2 ⟨x,aG h1,h2⟩];show some (decide ((0:Int)≤(j:Int)))=_;rw [decide_eq_true (by omega)]
 ·rw [h2,show (l.any fun x=>dU k x)=false from by
   rw [zP]; intro x hx; rw [h1 x hx]; simp]
  rfl
def a7 (keep:List ah) (s:List ab):List ab:=s.filter fun r=>!vp keep r.Key
def dg (l:List ab) (gone:List ah):List ab:=l.filter fun r=>!vp gone r.Key
theorem yT (l:List ab) (g:List ah) (k:ah):Cz (dg l g) k=dg l (g++[k]):=by
 unfold Cz dg vp;rw [List.filter_filter];apply List.filter_congr;intro r hr;rw [List.any_append,List.any_cons,List.any_nil,Bool.or_false];simp [Bool.and_comm]
theorem ut (l:List ab):dg l []=l:=by
 unfold dg vp;simp
theorem uw {l:List ab} (h:Bc l) (g:List ah):Bc (dg l g):=by
 refine⟨?_,fun r hr=>h.2 r (iN.1 hr).1⟩;have:=h.1;have h2:(dg l g).length≤l.length:=Dn _ _;unfold Rm at *; omega
theorem qD {l:List ab} (h:xV l) {r:ab} (hr:r∈l):cq l r.Key=(r,true):=vW h hr rfl
theorem yI {b:am} {s:List ab} {keep:List ah} {n:Int} (hb:Bc b.Records) (ha:xV b.Records) (hz:∀ r∈b.Records,vd r) (h20:b.Records.length<100) (hk:Rm keep.length) (hp:s.Perm b.Records) :
  ∃ m,m≤(a7 keep s).length∧(m=(a7 keep s).length∨(cF s:Int)-cF ((a7 keep s).take m)≤n)∧(∀ j,j<m→n<(cF s:Int)-cF ((a7 keep s).take j)) ∧
   loop (fun t:Int×(List ah)×Int×(List ab)=>gO b n keep (s.map ab.Key) t.1 t.2.1 t.2.2.1 t.2.2.2) ((cF s:Int),([]:List ah),0,b.Records)=some (((a7 keep s).take m).map ab.Key,dg b.Records (((a7 keep s).take m).map ab.Key)):=by
 have hlen:=hp.length_eq;have hzs:∀ r∈s,vd r:=fun r hr=>hz r (hp.mem_iff.1 hr);have hs1:=uE hzs;have key:Ok ((loop (fun t:Int×(List ah)×Int×(List ab)=>gO b n keep (s.map ab.Key) t.1 t.2.1 t.2.2.1 t.2.2.2) ((cF s:Int),([]:List ah),0,b.Records)).bind fun r=>some r) fun r=>∃ m,m≤(a7 keep s).length∧(m=(a7 keep s).length∨(cF s:Int)-cF ((a7 keep s).take m)≤n)∧(∀ j,j<m→n<(cF s:Int)-cF ((a7 keep s).take j))∧r=(((a7 keep s).take m).map ab.Key,dg b.Records (((a7 keep s).take m).map ab.Key)):=by
  refine bG (fun i t=>∃ m,m=(a7 keep (s.take i)).length∧t=((cF s:Int)-cF (a7 keep (s.take i)),(a7 keep (s.take i)).map ab.Key,(i:Int),dg b.Records ((a7 keep (s.take i)).map ab.Key))∧∀ j,j<m→n<(cF s:Int)-cF ((a7 keep s).take j)) (fun r=>∃ m,m≤(a7 keep s).length∧(m=(a7 keep s).length∨(cF s:Int)-cF ((a7 keep s).take m)≤n)∧(∀ j,j<m→n<(cF s:Int)-cF ((a7 keep s).take j))∧r=(((a7 keep s).take m).map ab.Key,dg b.Records (((a7 keep s).take m).map ab.Key))) s.length
   ⟨0,rfl,?_,fun j h=>by omega⟩ (fun i t hi hI=>?_) (fun r hr=>ap hr)
  ·rw [Dj];show _=((cF s:Int)-cF (a7 keep []),([]:List ab).map ab.Key,((0:Nat):Int),dg b.Records (([]:List ab).map ab.Key));rw [ug,ut];simp [cF,a7]
  ·obtain⟨m,rfl,rfl,hj⟩:=hI;have hsplit:a7 keep s=a7 keep (s.take i)++a7 keep (s.drop i):=by
    unfold a7;rw [← kH,qi]
   have htake:(a7 keep s).take (a7 keep (s.take i)).length=a7 keep (s.take i):=by rw [hsplit,List.take_left]
   have hle:(a7 keep (s.take i)).length≤(a7 keep s).length:=by rw [hsplit,bL]; omega
   have hfl:(a7 keep (s.take i)).length≤s.length:=cx (Dn _ _) (by rw [dh]; omega);dsimp only;unfold gO;rw [gc];by_cases hlt:i<s.length
   ·have hx:s[i]? = some s[i]:=bq hlt;have hm:s[i]∈s:=ge hlt;have hmr:s[i]∈b.Records:=hp.mem_iff.1 hm;rw [decide_eq_true (show (i:Int)<(s.length:Int) by omega),cond_true,aM,qf,hx,iY,aq];by_cases hn:(cF s:Int)-cF (a7 keep (s.take i))≤n
    ·rw [decide_eq_true hn,cond_true];exact ap ⟨_,hle,.inr (by rw [htake]; exact hn),hj,by rw [htake]⟩
    ·rw [decide_eq_false hn,cond_false,Cu hk,aq];cases hkk:vp keep s[i].Key with
     | true =>
      have e:a7 keep (s.take (i+1))=a7 keep (s.take i):=by
       rw [bw hx];unfold a7;rw [kH];simp [hkk]
      rw [cond_true];unfold jo;exact ap ⟨hlt,_,rfl,by rw [e,cc (by omega)],by rw [e]; exact hj⟩
     | false =>
      have e:a7 keep (s.take (i+1))=a7 keep (s.take i)++[s[i]]:=by
       rw [bw hx];unfold a7;rw [kH];simp [hkk]
      have h1:=(hzs _ hm).le;have h2:=uE (l:=a7 keep (s.take i)) fun r hr=>hzs r (tx (iN.1 hr).1);rw [cond_false,Ip hb,aq,qD ha hmr];dsimp only;rw [yf (hzs _ hm),aq,uS (dX (by simp; omega)),Ik (uw hb _),aq,yT];unfold jo;refine ap ⟨hlt,_,rfl,?_,?_⟩
      ·rw [e,cc (by omega),sK,qP,gM (by omega) (by omega)];congr 1;omega
      ·rw [e];intro j hjj;rw [bL,nN] at hjj;by_cases hje:j=(a7 keep (s.take i)).length
       ·rw [hje,htake]; omega
       ·exact hj j (by omega)
   ·rw [decide_eq_false (show ¬ (i:Int)<(s.length:Int) by omega),cond_false];have e:s.take i=s:=xD (by omega);rw [e] at hj ⊢;exact ap ⟨_,ce _,.inl rfl,hj,by rw [i7]⟩
 obtain⟨r,e,m,h1,h2,h3,rfl⟩:=key;refine⟨m,h1,h2,h3,?_⟩;cases hL:loop (fun t:Int×(List ah)×Int×(List ab)=>gO b n keep (s.map ab.Key) t.1 t.2.1 t.2.2.1 t.2.2.2) ((cF s:Int),([]:List ah),0,b.Records) with
 | none=>rw [hL] at e; cases e
 | some q=>rw [hL] at e; exact e
end
section
open Go.RowKit
open Go.Lib hiding intOf
theorem y8 {m:Option Bool} (h:Ok m fun r=>r=true):m=some true:=by obtain⟨v,e,rfl⟩:=h; exact e
section
variable {l:List aR} {b:am}
theorem zp {r:ab} (h:Rm r.Reads.length):iT r r=some true:=by
 unfold iT c8;rw [mK h];simp
theorem FM {recs:List ab} (h:Bc recs):rr recs recs=some true:=by
 have hl:=h.1;unfold Rm at hl;unfold rr;rw [show (((recs.length:Int):Int) != (recs.length:Int))=false by simp,cond_false];refine d7 (fK (r:=Fl.go ()) recs.length (fun k hk=>?_) ?_) rfl
 ·unfold mC;rw [dlt hk,cond_true,bN hk,aq,aq,zp (h.2 _ (ge hk)),cc (by omega)]; rfl
 ·unfold mC;rw [bA]; rfl
theorem A4 (h:Bc b.Records) (hi:Rm b.Inputs.length):ly b b=some true:=by
 unfold Rm at hi;unfold ly;rw [show ((b.Revision:Int) != b.Revision)=false by simp,cond_false,show (((b.Inputs.length:Int):Int) != (b.Inputs.length:Int))=false by simp,cond_false,FM h];simp only [aq,eI,cond_false];refine d7 (fK (r:=Fl.go ()) b.Inputs.length (fun k hk=>?_) ?_) rfl
 ·unfold mD;rw [dlt hk,cond_true,bN hk,aq,aq,cc (by omega)];simp
 ·unfold mD;rw [bA]; rfl
end
theorem rO {t:List Int} (h:¬ t.length≤400):iQ t=some false:=by
 unfold iQ;rw [decide_eq_false (by omega)]
theorem sZ {t:List Int} (h:t.length≤400):iQ t=some true:=by
 unfold iQ;rw [decide_eq_true (by omega)]
end
section
open Go.RowKit
open Go.Lib hiding intOf
theorem ur {n:Nat} (h:n<100):(cj n).size≤4:=by
 have h1:(cj n).size=(itoa n).length:=by simp [cj,ByteArray.size]
 have:=vS n 3 (by omega);rw [h1,lf]; omega
theorem ku.sz {l:List aR} {rev:Int} {r:ab} (h:ku l rev r) (hl:l.length≤8):vd r:=by
 obtain⟨n,hn,e⟩:=h.key;refine⟨?_,by have:=h.value; omega,by have:=h.reads; omega⟩;rw [e];have:=ur (n:=n) (by omega);show (cj n).size≤1073741824;omega
theorem ku.sm {l:List aR} {rev:Int} {r:ab} (h:ku l rev r) (hl:l.length≤8):fh r≤10016:=by
 obtain⟨n,hn,e⟩:=h.key;have h1:=ur (n:=n) (by omega);have h2:r.Key.Text.size≤4:=by rw [e]; exact h1
 have h3:=h.value;have h4:=h.reads;unfold fh; omega
theorem Jb {l:List ab} (h:∀ r∈l,fh r≤10016):cF l≤l.length*10016:=by
 induction l with
 | nil=>simp [cF]
 | cons r l ih =>
  rw [nF,d8,jS];have:=h r rH;have:=ih fun x hx=>h x (wJ _ hx);omega
theorem ku.co {l:List aR} {rev:Int} {r:ab} (h:ku l rev r) (hl:l.length≤8):kq r:=⟨h.sz hl,by have:=h.cost; omega,by have:=h.cost; omega⟩
theorem jm.sz {l:List aR} {b:am} (h:jm l b) (hl:l.length≤8):∀ r∈b.Records,vd r:=fun r hr=>(h.recs r hr).sz hl
theorem jm.co {l:List aR} {b:am} (h:jm l b) (hl:l.length≤8):∀ r∈b.Records,kq r:=fun r hr=>(h.recs r hr).co hl
theorem ku.cost' {l:List aR} {rev:Int} {r:ab} (h:ku l rev r) {c:Int} (h1:1≤c) (h2:c≤30000):ku l rev (ab.mk r.Key r.Value r.Reads r.Changed r.Verified c r.Dirty):=⟨h.key,h.value,h.reads,h.good,h.low,h.mid,h.high,⟨h1,h2⟩,h.dirty⟩
theorem Ei {l:List ab} (h:xV l) {i:Nat} {r x:ab} (hx:l[i]? = some x) (hk:r.Key=x.Key):xV (l.set i r):=by
 have e:(l.set i r).map ab.Key=l.map ab.Key:=by
  rw [List.map_set];refine B4 fun j=>?_;rw [qd];split
  ·subst i;rw [qf,hx];have:=aV hx;simp [hk,this]
  ·rfl
 unfold xV at *;have h1:(l.map ab.Key).Pairwise fun a b=>cu a b<0:=xi.2 h;rw [← e] at h1;exact xi.1 h1
theorem xB {d:List Int} {i:Int} (hd:bO d i):Ok (fg ⟨d,i⟩) fun y=>bI y.1∧jm y.1 y.2.1∧bO y.2.2.L y.2.2.At:=by
 unfold fg;refine aL (H6 hd (by omega) (by omega)) fun u ⟨hR,hB,_,d1⟩=>?_;have hl:=hR.high;have hn:=hB.nrec;refine bG (fun (k:Nat) (s:Int×(List Int)×Int×(List ab))=>s.1=(k:Int)∧bO s.2.1 s.2.2.1∧s.2.2.2.length=u.2.1.Records.length∧xV s.2.2.2∧∀ r∈s.2.2.2,ku u.1 u.2.1.Revision r) (fun r=>bO r.2.1 r.2.2∧xV r.1∧∀ x∈r.1,ku u.1 u.2.1.Revision x) u.2.1.Records.length ⟨rfl,d1,rfl,hB.recsA,hB.recs⟩ (fun k s hk hI=>?_) (fun r hr=>?_)
 ·obtain⟨g,d,j,bs⟩:=s;obtain⟨h1,h2,h3,h4,h5⟩:=hI;dsimp only at h1 h2 h3 h4 h5 ⊢;subst h1;unfold lU;by_cases hlt:k<u.2.1.Records.length
  ·rw [decide_eq_true (show (k:Int)<(u.2.1.Records.length:Int) by omega),cond_true];have hx:bs[k]? = some bs[k]:=bq (by omega);have hr:=h5 _ (aG hx);refine aL (cZ h2 (by omega) (by omega)) fun y ⟨y1,y2,d2⟩=>?_;rw [aM,hx,aq];refine aL (cZ d2 (by omega) (by omega)) fun z ⟨z1,z2,d3⟩=>?_;have ew:IntKind.i64.wrap (1+y.1)=1+y.1:=gM (by omega) (by omega);rw [ew,pQ];have hr1:ku u.1 u.2.1.Revision (ab.mk bs[k].Key bs[k].Value bs[k].Reads bs[k].Changed bs[k].Verified (1+y.1) bs[k].Dirty):=hr.cost' (by omega) (by omega);have a1:=Ei (r:=ab.mk bs[k].Key bs[k].Value bs[k].Reads bs[k].Changed bs[k].Verified (1+y.1) bs[k].Dirty) h4 hx rfl;have m1:∀ r∈bs.set k (ab.mk bs[k].Key bs[k].Value bs[k].Reads bs[k].Changed bs[k].Verified (1+y.1) bs[k].Dirty),ku u.1 u.2.1.Revision r:=fun r hm=>by
    rcases B9 hm with h | rfl
    ·exact h5 r h
    ·exact hr1
   have g1:(bs.set k (ab.mk bs[k].Key bs[k].Value bs[k].Reads bs[k].Changed bs[k].Verified (1+y.1) bs[k].Dirty))[k]? = some (ab.mk bs[k].Key bs[k].Value bs[k].Reads bs[k].Changed bs[k].Verified (1+y.1) bs[k].Dirty):=uj (by omega);cases hc:((z.1:Int)==0) with
   | false =>
    rw [cond_false];unfold gB;exact ap ⟨hlt,cc (by omega),d3,by rw [rG]; exact h3,a1,m1⟩
   | true =>
    rw [cond_true,aM,g1,aq,nq (hr1.sz hl),aq];refine aL (cZ d3 (by omega) (by omega)) fun v ⟨v1,v2,d4⟩=>?_;rw [aq];have s1:=hr1.sm hl;have s2:=wF (ab.mk bs[k].Key bs[k].Value bs[k].Reads bs[k].Changed bs[k].Verified (1+y.1) bs[k].Dirty);generalize hq:fh (ab.mk bs[k].Key bs[k].Value bs[k].Reads bs[k].Changed bs[k].Verified (1+y.1) bs[k].Dirty)=q at s1 s2;have hv:v.1=0∨v.1=1:=by omega
    have ec:∃ c:Int,IntKind.i64.wrap ((q:Int)*(IntKind.i64.wrap (1+v.1)))=c∧1≤c∧c≤30000:=by
     rcases hv with hv | hv
     ·rw [hv];exact⟨q,by rw [show IntKind.i64.wrap (1+0)=1 by decide,Int.mul_one,gM (by omega) (by omega)],by omega,by omega⟩
     ·rw [hv];exact⟨(q:Int)*2,by rw [show IntKind.i64.wrap (1+1)=2 by decide,gM (by omega) (by omega)],by omega,by omega⟩
    obtain⟨c,e,c1,c2⟩:=ec;rw [e];unfold gB;refine ap ⟨hlt,cc (by omega),d4,by rw [rG,rG]; exact h3,Ei a1 g1 rfl,fun r hm=>?_⟩;rcases B9 hm with h | rfl
    ·exact m1 r h
    ·exact hr1.cost' c1 c2
  ·rw [decide_eq_false (show ¬ (k:Int)<(u.2.1.Records.length:Int) by omega),cond_false];exact ap ⟨h2,h4,h5⟩
 ·obtain⟨h1,h2,h3⟩:=hr;unfold jr;exact ap ⟨hR,⟨hB.rev,hB.ins,hB.insA,h3,h2⟩,h1⟩
theorem vF {d:List Int} {i:Int} (hd:bO d i):Ok (fg ⟨d,i⟩) fun y=>bI y.1∧jm y.1 y.2.1:=(xB hd).mono fun _ h=>⟨h.1,h.2.1⟩
structure L5 (b:am) (n:Int) (keep:List ah) (s:List ab) (m:Nat):Prop where
 le:m≤(a7 keep s).length
 fit:m=(a7 keep s).length∨(cF s:Int)-cF ((a7 keep s).take m)≤n
 need:∀ j,j<m→n<(cF s:Int)-cF ((a7 keep s).take j)
 is:bY b n keep=some (am.mk b.Revision b.Inputs (dg b.Records (((a7 keep s).take m).map ab.Key)),((a7 keep s).take m).map ab.Key,0)
theorem tH {l:List aR} {b:am} (h:jm l b) (hl:l.length≤8) {n:Int} (h0:0≤n) (h1:n≤1073741824) {keep:List ah} (hk:Rm keep.length) {s:List ab} (ho:dS b.Records=some (s.map ab.Key)) (hp:s.Perm b.Records):∃ m,L5 b n keep s m:=by
 have hn:=h.nrec;obtain⟨m,m1,m2,m3,m4⟩:=yI (n:=n) (keep:=keep) (h.rm hl).1 h.recsA (h.sz hl) (by omega) hk hp;refine⟨m,m1,m2,m3,?_⟩;have et:=rE (h.sz hl) (by omega);rw [← oY hp] at et;unfold bY;rw [Hl h hl,aq,decide_eq_false (by omega),decide_eq_false (by omega),I6 h hl];simp only [eI,cond_false];rw [aq,et,aq,ho,aq,m4,aq];rfl
end
section
open Go.RowKit
open Go.Lib hiding intOf
theorem K0:cj ((0:Nat):Int)=ByteArray.mk #[48]:=by
 unfold cj;rw [lf,(DH (l:=[48]) (n:=0) (by decide)).1]
theorem K1:cj ((1:Nat):Int)=ByteArray.mk #[49]:=by
 unfold cj;rw [lf,(DH (l:=[49]) (n:=1) (by decide)).1]
theorem EC:cu (ah.mk 31 (ByteArray.mk #[48])) (ah.mk 31 (ByteArray.mk #[49]))<0:=by
 unfold cu;rw [if_neg (Int.lt_irrefl _),if_neg (Int.lt_irrefl _)];show compareBytes (ByteArray.mk #[48]).toList (ByteArray.mk #[49]).toList<0;rw [ByteArray.toList_eq,ByteArray.toList_eq];decide
theorem qo:da=some true:=by
 let a:ab:=ab.mk (ah.mk 31 (ByteArray.mk #[48])) (ByteArray.mk #[49]) ([]) 0 0 2 false
 let b:ab:=ab.mk (ah.mk 31 (ByteArray.mk #[49])) (ByteArray.mk #[49]) ([]) 0 0 1 false
 let r:aR:=⟨false,[],0,0⟩
 have k0:a.Key=rk [r,r] 0:=by
  show (ah.mk 31 (ByteArray.mk #[48]))=_;unfold rk bz;rw [K0];rfl
 have k1:b.Key=rk [r,r] 1:=by
  show (ah.mk 31 (ByteArray.mk #[49]))=_;unfold rk bz;rw [K1];rfl
 have hB:jm [r,r] (am.mk 0 [] [a,b]):=by
  refine⟨⟨uK _,by show (0:Int)≤1000000; omega⟩,fun x hx=>absurd hx ou,uL,?_,?_⟩
  ·intro x hx;rcases ee.1 hx with rfl | hx
   ·exact⟨⟨0,by decide,k0⟩,by show (ByteArray.mk #[49]).size≤1000; decide,fE _,fun k hk=>absurd hk ou,uK _,uK _,uK _,⟨by show (1:Int)≤2; omega,by show (2:Int)≤30000; omega⟩,fun h=>by cases h⟩
   ·rw [kG.1 hx];exact⟨⟨1,by decide,k1⟩,by show (ByteArray.mk #[49]).size≤1000; decide,fE _,fun k hk=>absurd hk ou,uK _,uK _,uK _,⟨by show (1:Int)≤1; omega,by show (1:Int)≤30000; omega⟩,fun h=>by cases h⟩
  ·refine List.Pairwise.cons (fun x hx=>?_) (HW _ _);rw [kG.1 hx];exact EC
 have za:fh a=18:=by decide
 have zb:fh b=18:=by decide
 obtain⟨s,o1,o2,o3⟩:=CW (hB.co (by decide)) (by show [a,b].length<20; decide);have hab:¬ kd a b≤0:=by
  rw [y7,za,zb];show ¬ ((2:Int)*((18:Nat):Int)<1*((18:Nat):Int)∨(2:Int)*((18:Nat):Int)=1*((18:Nat):Int)∧_);omega
 have hs:s=[b,a]:=by
  have hlen:s.length=2:=o2.length_eq
  match s,hlen with
  | [x,y],_ =>
   have hx:x∈[a,b]:=o2.mem_iff.1 rH;have hy:y∈[a,b]:=o2.mem_iff.1 (wJ _ rH);have ha:a∈[x,y]:=o2.mem_iff.2 rH;have hb:b∈[x,y]:=o2.mem_iff.2 (wJ _ rH);have hne:a≠b:=by intro h; rw [h] at hab; exact hab (by rw [y7]; exact .inr ⟨rfl,.inr ⟨rfl,Int.le_of_eq (sB _)⟩⟩)
   have hxy:kd x y≤0:=(si.1 o3).1 y rH;simp only [ee,ou,or_false] at hx hy ha hb;rcases hx with rfl | rfl
   ·rcases hy with rfl | rfl
    ·rcases hb with h | h <;> exact absurd h.symm hne
    ·exact absurd hxy hab
   ·rcases hy with rfl | rfl
    ·rfl
    ·rcases ha with h | h <;> exact absurd h hne
 subst hs;obtain⟨m,e⟩:=tH hB (by decide) (n:=20) (by omega) (by omega) (keep:=[]) (by unfold Rm; simp) o1 o2;have hf:a7 [] [b,a]=[b,a]:=by unfold a7 vp; simp
 have hle:=e.le;have hfit:=e.fit;have hneed:=e.need;have his:=e.is;rw [hf] at hle hfit hneed his;have t0:cF [b,a]=36:=by simp only [nF,za,zb]; rfl
 have t1:cF ([b,a].take 1)=18:=by show cF [b]=18; simp only [nF,zb]; rfl
 have m1:m=1:=by
  match m,hle with
  | 0,_ =>
   rcases hfit with h | h
   ·cases h
   ·rw [t0,Dj] at h;exact absurd h (by show ¬ ((36:Nat):Int)-((0:Nat):Int)≤20; omega)
  | 1,_=>rfl
  | 2,_=>have:=hneed 1 (by omega); rw [t0,t1] at this; omega
  | n+3,h=>exact absurd h (by simp)
 subst m1;have hleft:dg [a,b] [b.Key]=[a]:=by
  unfold dg vp;have h1:dU a.Key b.Key=false:=sX.2 (sW EC);have h2:dU b.Key b.Key=true:=sD _;simp [List.filter_cons,h1,h2]
 unfold da;show ((bY (am.mk 0 [] [a,b]) 20 []).bind _)=_;rw [his,aq];show (cond ((0:Int)==0) ((dI [b.Key] [b.Key]).bind _) _)=_;rw [mK (by unfold Rm; simp)];show cond (((((dg [a,b] [b.Key]).length:Int):Int)==1)) ((dj (dg [a,b] [b.Key])).bind _) _=_;rw [hleft,rE (l:=[a]) (fun x hx=>by rw [kG.1 hx]; exact hB.sz (by decide) a rH) (by simp)];show cond (((([a]:List ab).length:Int)==1)) (gQ (((cF [a]:Int))==18)) _=_;rw [show cF [a]=18 by simp only [nF,za]; rfl];rfl
end
section
open Go.RowKit
open Go.Lib hiding intOf
theorem BP {l:List aR} {b:am} (hl:l.length≤8) (h:jm l b):∃ s:List ab,dS b.Records=some (s.map ab.Key)∧s.Perm b.Records∧s.Pairwise (fun a b=>kd a b≤0)∧s.length≤8∧(s.map ab.Key).Nodup:=by
 have hn:=h.nrec;obtain⟨s,h1,h2,h3⟩:=CW (h.co hl) (by omega);refine⟨s,h1,h2,h3,by have:=h2.length_eq; omega,?_⟩;have:(b.Records.map ab.Key).Nodup:=lV (f:=ab.Key) h.recsA;exact ((h2.map ab.Key).nodup_iff).2 this
theorem Aa (t:List Int):gA t=some true:=by
 rcases i6 400 t.length with ht | ht
 ·unfold gA;rw [rO (by omega),aq,qo]; rfl
 refine y8 ?_;unfold gA;refine aN (sZ ht) ?_;simp only [eI,cond_false];refine aN (v:=aW.mk t 0) rfl (aL (vF (d:=t) (i:=0) ⟨by omega,by omega,ht⟩) fun u ⟨hR,hB⟩=>?_);have hl:=hR.high;obtain⟨s,h1,h2,h3,h4,h5⟩:=BP hl hB;have hlen:=h2.length_eq;have hco:∀ r∈s,kq r:=fun r hr=>hB.co hl r (h2.mem_iff.1 hr);have hrm:=(hB.rm hl).1;rw [h1,aq,gc];rw [show (((s.length:Int):Int) != (u.2.1.Records.length:Int))=false by rw [hlen]; simp,cond_false];obtain⟨m,e1,e2⟩:=sf (l:=s.map ab.Key) (by unfold Rm; rw [gc]; omega);have hm:m.length=s.length:=by
  have n1:m.Nodup:=by
   have:=lV (f:=id) (xs:=m) e2.asc;rwa [List.map_id] at this
  have a1:=lX n1 (m:=s.map ab.Key) fun k hk=>(e2.mem k).1 hk;have a2:=lX h5 (m:=m) fun k hk=>(e2.mem k).2 hk;rw [gc] at a1 a2;omega
 rw [e1,aq];rw [show (((m.length:Int):Int) != (s.length:Int))=false by rw [hm]; simp,cond_false];have key:loop (fun t:Int×Int=>eO u (s.map ab.Key) t.1 t.2) (0,0)=some (Fl.go ((cF s:Int))):=by
  refine cG (xs:=s) (fun n=>((cF (s.take n):Int),(n:Int))) rfl (fun n r hx=>?_) ?_
  ·dsimp only;have hn:=aV hx;have hm:=aG hx;have hc:=hco r hm;have hs:=hc.sz.le;have hs2:=uE (l:=s.take n) fun x hx=>(hco x (tx hx)).sz;rw [dh] at hs2;have hs3:min n s.length*2147515664≤8*2147515664:=nL _ (by omega);have go:eN (n:Int) (IntKind.i64.wrap ((cF (s.take n):Int)+(fh r:Int)))=some (.go ((cF (s.take (n+1)):Int),((n+1:Nat):Int))):=by
    unfold eN;rw [gM (by omega) (by omega),cc (by omega),bw hx,qP];congr 3
   unfold eO;rw [gc,cM hx,cond_true,aM,qf,hx,iY,aq,kj hrm,qD hB.recsA (h2.mem_iff.1 hm),aq];simp only [eI,cond_false];have hsz:cP (ab.mk (ah.mk r.Key.Kind r.Key.Text) r.Value r.Reads r.Changed r.Verified r.Cost r.Dirty)=some (fh r:Int):=nq hc.sz;rw [hsz,aq];cases n with
   | zero =>
    rw [decide_eq_false (by omega),cond_false];exact go
   | succ k =>
    rw [decide_eq_true (by omega),cond_true];have hp:s[k]? = some s[k]:=bq (by omega);have hpm:s[k]∈s:=ge _;have hcp:=hco _ hpm;have hsp:=hcp.sz.le;have hr:r=s[k+1]:=by
     rw [bq hn] at hx;exact (cR hx).symm
    have hle:kd s[k] r≤0:=by
     rw [hr];exact gv.1 h3 k (k+1) (by omega) hn (by omega)
    have hkne:s[k].Key≠r.Key:=by
     intro hk;have:=(List.nodup_iff_pairwise_ne.1 h5);rw [xi] at this;have:=gv.1 this k (k+1) (by omega) hn (by omega);rw [← hr] at this;exact this hk
    have ek:IntKind.i64.wrap (((k+1:Nat):Int)-1)=(k:Int):=by rw [gM (by omega) (by omega)]; omega
    have hszp:cP (ab.mk (ah.mk s[k].Key.Kind s[k].Key.Text) s[k].Value s[k].Reads s[k].Changed s[k].Verified s[k].Cost s[k].Dirty)=some (fh s[k]:Int):=nq hcp.sz;rw [ek,aM,qf,hp,iY,aq,kj hrm,qD hB.recsA (h2.mem_iff.1 hpm),aq];dsimp only;unfold jg;rw [hsz,aq,hszp,aq];dsimp only;have m1:=qJ hcp.low hcp.high hs;have m2:=qJ hc.low hc.high hsp;rw [gM (by omega) (by omega),gM (by omega) (by omega)];have nxt:cJ (cF (s.take (k+1)):Int) ((k+1:Nat):Int) (fh r:Int) false=some (.go ((cF (s.take (k+1+1)):Int),((k+1+1:Nat):Int))):=by
     unfold cJ;rw [cond_false]; exact go
    rw [y7] at hle;rw [decide_eq_false (by omega),cond_false];by_cases heq:s[k].Cost*(fh r:Int)=r.Cost*(fh s[k]:Int)
    ·rw [heq,show ((r.Cost*(fh s[k]:Int):Int)==r.Cost*(fh s[k]:Int))=true by simp,cond_true];simp only [aq];rw [decide_eq_false (by omega),cond_false];by_cases hq:(fh s[k]:Int)=fh r
     ·rw [hq,show (((fh r:Int):Int)==(fh r:Int))=true by simp,cond_true];have hk:cu s[k].Key r.Key≤0:=by omega
      have hk2:cu s[k].Key r.Key≠0:=fun h=>hkne (By h);show (iu s[k].Key r.Key).bind _=_;rw [jK,aq,decide_eq_false (by omega)];exact nxt
     ·rw [show (((fh s[k]:Int):Int)==(fh r:Int))=false by simpa using hq,cond_false];exact nxt
    ·rw [show ((s[k].Cost*(fh r:Int):Int)==r.Cost*(fh s[k]:Int))=false by simpa using heq,cond_false];exact nxt
  ·dsimp only;unfold eO;rw [show ((s.length:Int))=(((s.map ab.Key).length:Nat):Int) by rw [gc],bA,gc,i7]; rfl
 refine aN key ?_;show Ok (f8 u (cF s:Int)) _;unfold f8;rw [rE (hB.sz hl) (by have:=hB.nrec; omega),← oY h2,aq,show (((cF s:Int):Int)==(cF s:Int))=true by simp,cond_true,qo];exact ap rfl
end
section
open Go.RowKit Go.ChangeShapes Go.WideShapes Go.ChangeAt
open Go.Lib hiding intOf
theorem I3:ownKnob Tryz.prog.godebug=none:=by kernel_rfl
theorem LaidVars.mem {P:Program} {w:World} {nm:String} {d:DataW Unit}:∀ {l:List (String×DataW Unit)} {ps:List MemPlace},DataW.LaidVars P w l ps→(nm,d)∈l →
  ∃ g t cs fuel p,P.globalNamed nm=some g∧(P.globals[g]?).map (·.type)=some t∧w.var? P nm=some cs∧DataW.trod (fun _=>()) P w 0 (fun _=>true) false fuel t cs.toList=some (d,p)
 | [],_,_,hm=>by cases hm
 | (n1,d1)::l,ps,h,hm=>by
  obtain⟨g,t,cs,f,p,q,hg,ht,hv,hd,hq,_⟩:=h;rcases ee.1 hm with he | hm
  ·injection he with h1 h2;subst h1 h2;exact⟨g,t,cs,f,p,hg,ht,hv,hd⟩
  ·exact LaidVars.mem hq hm
theorem GP {W : World} {l : List (String × DataW Unit)} (h : laidMet aQ l W) (hm : ("internal/strconv.uint64pow10", Lib.tabData .u64 pow10Tab) ∈ l) : TabIs aQ W "internal/strconv.uint64pow10" .u64 pow10Tab := by
 obtain⟨ps, hl, _⟩ := h;obtain⟨g, t, cs, f, p, hg, ht, hv, hd⟩ := LaidVars.mem hl hm;obtain rfl := cR ((show Tryz.prog.globalNamed "internal/strconv.uint64pow10" = some 1 by kernel_rfl).symm.trans hg)
 obtain rfl:=cR ((show (Tryz.prog.globals[1]?).map (·.type)=some 366 by kernel_rfl).symm.trans ht);unfold TabIs;rw [hv,← cells_of_tab Tryz.underlying366 Tryz.underlying228 (by kernel_rfl) (by kernel_rfl) hd]
theorem CN {W:World} {l:List (String×DataW Unit)} (h:laidMet aQ l W) {nm:String} {d:DataW Unit} {s:String} {g0:Nat} (hm:(nm,DataW.iface s d)∈l) (hg0:Tryz.prog.globalNamed nm=some g0) (ht0:(Tryz.prog.globals[g0]?).map (·.type)=some 180) :
  ∃ ev,W.cell? ⟨g0,0,none⟩=some ev∧(ev = .nilIface∨∃ te pe,ev = .iface te pe):=by
 obtain⟨ps,hl,_⟩:=h;obtain⟨g,t,cs,f,p,hg,ht,hv,hd⟩:=LaidVars.mem hl hm;obtain rfl:=cR (hg0.symm.trans hg);obtain rfl:=cR (ht0.symm.trans ht);obtain⟨_,u,v,hcs,_,_⟩:=iface_of_trod Tryz.underlying180 hd;refine⟨.iface u v,?_,.inr ⟨u,v,rfl⟩⟩;have:=World.var?_cell hg0 hv 0;rw [Array.eq_one_of_toList hcs] at this;simpa using this
theorem EG {W:World} {l:List (String×DataW Unit)} (h:laidMetH aQ l W) (hp:(l.all fun x=>x.2.handleName?.isNone)=true)
  (h1 : ("internal/strconv.uint64pow10", Lib.tabData .u64 pow10Tab) ∈ l) (h2 : ("strconv.ErrSyntax", Rows.laid_strconv_ErrSyntax) ∈ l) (h3 : ("strconv.ErrRange", Rows.laid_strconv_ErrRange) ∈ l) : Lv W := by
 rw [MakeChecks.laidMetH_plain _ _ _ hp] at h;exact⟨CN h h2 (by kernel_rfl) (by kernel_rfl),CN h h3 (by kernel_rfl) (by kernel_rfl),GP h h1⟩
end
section
open Go.ChangeShapes Go.WideShapes Go.ChangeAt Go.RowKit Go.Deep Go.Joins
theorem ED {α:Type} {Q:Nat→α→Prop}:∀ (n:Nat),(∀ i,i<n→∃ x,Q i x)→∃ xs:List α,xs.length=n∧∀ i x,xs[i]? = some x→Q i x
 | 0,_=>⟨[],rfl,fun i x h=>by simp at h⟩
 | n+1,h=>by
  obtain⟨xs,h1,h2⟩:=ED n fun i hi=>h i (by omega);obtain⟨y,hy⟩:=h n (by omega);refine⟨xs++[y],by simp [h1],fun i x hx=>?_⟩;by_cases hi:i<xs.length
  ·rw [lM hi] at hx; exact h2 i x hx
  ·have hl:=(bH.1 hx).1;simp only [bL,d8,jR] at hl;have:i=xs.length:=by omega
   subst this;rw [lN (ce _),ui] at hx;simp only [Dk,cS] at hx;subst hx;rw [h1]; exact hy
def nS {α:Type} (P:Program) (t:TypeId) (R:aS α) (Q:α→Prop):Prop :=
 ∀ {H:Type} {enc:TypeId×Value→H} {w:World} {base n:Nat} {sp:Nat→Bool} {held:Bool} {cs:bh} {d:DataW H} {p:List MemPlace},DataW.trod enc P w base sp held n t cs=some (d,p)→(∀ m∈d.weights P t,m≤reachBytes)→∃ x,R.rel No w cs x∧Q x
section
variable {P:Program} {t e:TypeId}
theorem nS.int {k:IntKind} (ht:P.underlying t=some (.int k)):nS P t (aS.int k) (fun n=>(Lit.int k n).wf=true):=fun h _=>by
 obtain⟨n,rfl,_,hw⟩:=DataW.trod_int ht h;exact⟨n,rfl,hw⟩
theorem nS.bool (ht:P.underlying t=some .bool):nS P t aS.bool (fun _=>True):=fun h _=>by
 obtain⟨b,rfl,_⟩:=DataW.trod_bool ht h;exact⟨b,rfl,trivial⟩
theorem nS.str (ht:P.underlying t=some .string):nS P t aS.str (fun s=>s.size≤140737488355328):=fun h hw=>by
 obtain⟨s,rfl,hx,_⟩:=DataW.trod_string ht h;simp only [zL] at hx;obtain⟨rfl,rfl⟩:=hx;refine⟨s,rfl,?_⟩;have:=hw s.data.toList.length (by simp [DataW.weights]);have hr:reachBytes≤140737488355328:=by decide
 have hz:s.size=s.data.toList.length:=by rw [Array.length_toList]; rfl
 omega
theorem zF {H:Type}:∀ {ds:List (DataW H)} {i:Nat} {d:DataW H},ds[i]? = some d→∀ n∈d.weights P e,n∈DataW.weightsAll P e ds
 | [],_,_,h,_,_=>by simp at h
 | d0::r,0,d,h,n,hn=>by
  simp only [Dk,cS] at h;subst h;simp only [DataW.weightsAll,dc];exact .inl hn
 | d0::r,i+1,d,h,n,hn=>by
  simp only [zM] at h;simp only [DataW.weightsAll,dc];exact .inr (zF h n hn)
theorem nS.slice {α:Type} {R:aS α} {Q:α→Prop} (ht:P.underlying t=some (.slice e)) (hc:P.cellsOf e=R.size) (hs:0<R.size) (ho:nS P e R Q):nS P t (aS.slice R) (fun xs=>(∀ x∈xs,Q x)∧xs.length*P.bytesOf e≤reachBytes∧xs.length≤maxLen):=fun {H enc w base n sp held cs d p} h hw=>by
 rcases open_slice ht h with⟨rfl,hx⟩|⟨a,len,cap,m,n,D,Pl,rfl,hb,hl,hm,hmm,hx,hi⟩
 ·exact⟨[],⟨_,rfl,aD.nil_ _ _ _⟩,fun x hx=>by simp at hx,by simp,by simp⟩
 ·simp only [zL] at hx;obtain⟨rfl,rfl⟩:=hx;have hlm:len≤m:=by rw [hmm]; split <;> omega
  obtain⟨xs,h1,h2⟩:=ED (α:=α) (Q:=fun i x=>Q x∧∃ cs,R.rel No w cs x∧∀ j u,cs[j]? = some u→w.cell? (a.add (i*R.size+j))=some u) len (fun i hil=>by
   obtain⟨cs',hcc,ht'⟩:=hi i (by omega);rw [hc] at hcc;obtain⟨x,hx,hq⟩:=ho ht' (fun k hk=>hw k (by
    simp only [DataW.weights,ht,ee,dc];exact .inr (.inl (zF (i:=i) (d:=D i) (by rw [qf,List.getElem?_range hil]; rfl) k hk))))
   obtain⟨_,hcl,hat⟩:=World.cells?_some hcc;refine⟨x,hq,cs',hx,fun j u hu=>?_⟩;have hj:j<R.size:=by rw [← hcl]; exact (bH.1 hu).1
   rw [← Go.Deep.add_add,hat j hj,hu])
  subst h1;refine⟨xs,⟨_,rfl,some a,cap,rfl,hl,hm,?_⟩,fun x hx=>?_,?_,cx hl hm⟩
  ·cases xs with
   | nil=>exact .inl rfl
   | cons x0 xs =>
    right;obtain⟨_,cs0,hr0,hc0⟩:=h2 0 x0 rfl;have hl0:=R.len hr0;have hu:=hc0 0 _ (bq (show 0<cs0.length by omega));obtain⟨b,off,spot⟩:=a;have hsp:spot=none:=by
     unfold World.cell? at hu;split at hu
     ·cases spot with
      | none=>rfl
      | some q=>simp [Addr.add] at hu
     ·simp at hu
    subst hsp;refine⟨b,off,rfl,fun k x hx=>?_⟩;obtain⟨_,cs,hr,hcs⟩:=h2 k x hx;refine⟨cs,hr,fun h=>h,?_,fun j u hu=>?_⟩
    ·rw [Addr.add_lit] at hu; exact World.block_lt_of_cell? _ _ hu
    ·have:=hcs j u hu;rwa [Addr.add_lit,← sJ] at this
  ·obtain⟨i,hi',e⟩:=E3 hx;exact (h2 i x (by rw [← e]; exact bq hi')).1
  ·have:=hw ((xs.length+(m-xs.length))*P.bytesOf e) (by
    simp only [DataW.weights,ht,ee,gc,xF]
    first | exact .inl trivial | exact .inl rfl | trivial)
   exact cx (nL _ (by omega)) this
theorem nS.arg {α:Type} {R:aS α} {Q:List α→Prop} {H:Type} {enc:TypeId×Value→H} {w:World} {base:Nat} {sp:Nat→Bool} {held:Bool} {v:Value} {d:DataW H} {p:List MemPlace} {ts:List TypeId} {ds:List (DataW H)} {j0:Nat}
  (ho:nS P t (aS.slice R) Q) (ht:P.underlying t=some (.slice e)) (hsz:(DataW.weightsEach P ts ds).all (·≤reachBytes)=true) (htj:ts[j0]? = some t) (hdj:ds[j0]? = some d)
  {r:Reach} {b0:Nat} (hv:Value.okWide P w r b0 t v) (h:DataW.Trod enc P w base sp held t v d p):∃ xs,aD R No w v xs∧Q xs:=by
 obtain⟨A,len,cap,rfl⟩:=okWide_slice ht hv;obtain⟨fuel,hf⟩:=h;obtain⟨xs,⟨v',he,hs⟩,hq⟩:=ho hf (fun m hm=>by
  have:=List.all_eq_true.1 hsz m (DataW.weights_mem_each htj hdj m hm);simpa using this)
 simp only [Value.cells,List.cons.injEq,and_true] at he;subst he;exact⟨xs,hs,hq⟩
end
end
section
open Go.ChangeShapes Go.WideShapes Go.ChangeAt Go.RowKit Go.Deep Go.Joins
def aS.unit:aS Unit where
 size:=0
 rel:=fun _ _ cs _=>cs=[]
 len:=by rintro _ _ _ _ rfl; rfl
 one:=by rintro _ _ _ _ rfl u hu; cases hu
 keep:=fun h _ _=>h
def pV {α:Type} (P:Program) (fs:List Field) (off:Nat) (R:aS α) (Q:α→Prop):Prop :=
 (∀ f∈fs,off≤f.offset) ∧
 ∀ {H:Type} {enc:TypeId×Value→H} {w:World} {base n:Nat} {sp:Nat→Bool} {held:Bool} {cs:bh} {xs:List (DataW H×List MemPlace)},cs.length=R.size→xs.length=fs.length →
  (∀ (i:Nat) (f:Field),fs[i]? = some f→DataW.trod enc P w base sp held n f.type ((cs.drop (f.offset-off)).take (P.cellsOf f.type))=xs[i]?) →
  (∀ m∈DataW.weightsEach P (fs.map (·.type)) (xs.map (·.1)),m≤reachBytes)→∃ x,R.rel No w cs x∧Q x
section
variable {P:Program} {t:TypeId}
theorem pV.nil (off:Nat):pV P [] off aS.unit (fun _=>True) :=
 ⟨fun f hf=>(by cases hf),fun {H enc w base n sp held cs xs} hl _ _ _=>⟨(),xd hl,trivial⟩⟩
theorem pV.cons {α β:Type} {R:aS α} {S:aS β} {Q:α→Prop} {Q2:β→Prop} {f:Field} {fs:List Field} {off:Nat} (ho:nS P f.type R Q) (hf:f.offset=off) (hc:P.cellsOf f.type=R.size) (h:pV P fs (off+R.size) S Q2):pV P (f::fs) off (R.prod S) (fun x=>Q x.1∧Q2 x.2):=by
 refine⟨fun g hg=>?_,fun {H enc w base n sp held cs xs} hl hx ht hw=>?_⟩
 ·rcases ee.1 hg with rfl | hg
  ·omega
  ·have:=h.1 g hg; omega
 ·cases xs with
  | nil=>simp at hx
  | cons y xs =>
   have hl:cs.length=R.size+S.size:=hl;have h0:=ht 0 f rfl;rw [hf,ui,List.drop_zero,hc] at h0;obtain⟨x1,k1,k2⟩:=ho h0 (fun m hm=>hw m (by simp only [ow,DataW.weightsEach,dc]; exact .inl hm));obtain⟨x2,k3,k4⟩:=h.2 (H:=H) (enc:=enc) (w:=w) (base:=base) (n:=n) (sp:=sp) (held:=held) (cs:=cs.drop R.size) (xs:=xs) (by rw [pS]; omega) (by simpa using hx) (fun i g hg=>by
    have h1:=ht (i+1) g (by simpa using hg);have h2:=h.1 g (aG hg);rw [List.drop_drop,show R.size+(g.offset-(off+R.size))=g.offset-off by omega];simpa using h1) (fun m hm=>hw m (by simp only [ow,DataW.weightsEach,dc]; exact .inr hm))
   exact⟨(x1,x2),⟨cs.take R.size,cs.drop R.size,(qi _ _).symm,k1,k3⟩,k2,k4⟩
theorem nS.struct {α:Type} {R:aS α} {Q:α→Prop} {fs:Array Field} (ht:P.underlying t=some (.struct fs)) (hc:P.cellsOf t=R.size) (h:pV P fs.toList 0 R Q):nS P t R Q:=fun {H enc w base n sp held cs d p} h0 hw=>by
 obtain⟨xs,m,_,hx,hl,hlen,hf⟩:=DataW.trod_struct ht h0;simp only [zL] at hx;obtain⟨rfl,rfl⟩:=hx;refine h.2 (H:=H) (enc:=enc) (w:=w) (base:=base) (n:=m) (sp:=sp) (held:=held) (xs:=xs) (hl.trans hc) (by simpa using hlen) (fun i f hi=>?_) (fun k hk=>hw k ?_)
 ·have:=hf i f (by simpa using hi);simpa using this
 ·simp only [DataW.weights,ht];exact hk
theorem nS.via {α β:Type} {R:aS α} {S:aS β} {Q:α→Prop} {Q2:β→Prop} (ho:nS P t R Q) (g:α→β) (hr:∀ (T:Nat→Prop) (w:World) (cs:bh) (x:α),R.rel T w cs x→S.rel T w cs (g x)) (hq:∀ x,Q x→Q2 (g x)):nS P t S Q2:=fun h hw=>by
 obtain⟨x,h1,h2⟩:=ho h hw;exact⟨g x,hr _ _ _ _ h1,hq _ h2⟩
theorem nS.argS {α:Type} {R:aS α} {Q:α→Prop} {H:Type} {enc:TypeId×Value→H} {w:World} {base:Nat} {sp:Nat→Bool} {held:Bool} {v:Value} {d:DataW H} {p:List MemPlace} {ts:List TypeId} {ds:List (DataW H)} {j0:Nat} {fs:Array Field}
  (ho:nS P t R Q) (ht:P.underlying t=some (.struct fs)) (hsz:(DataW.weightsEach P ts ds).all (·≤reachBytes)=true) (htj:ts[j0]? = some t) (hdj:ds[j0]? = some d)
  {r:Reach} {b0:Nat} (hv:Value.okWide P w r b0 t v) (h:DataW.Trod enc P w base sp held t v d p):∃ (cs:bh) (x:α),v = .agg cs.toArray∧R.rel No w cs x∧Q x:=by
 obtain⟨cs,rfl,hcs⟩:=okWide_struct ht hv;obtain⟨fuel,hf⟩:=h;obtain⟨x,hs,hq⟩:=ho hf (fun m hm=>by
  have:=List.all_eq_true.1 hsz m (DataW.weights_mem_each htj hdj m hm);simpa using this)
 exact⟨cs.toList,x,by simp,hs,hq⟩
end
end
section
open Go
theorem AI {P:Program} (h:P.funcs.any Func.goes=false) (f:FuncId):P.goes f=false:=by
 unfold Program.goes;rw [h,Bool.and_false,Bool.or_false];rw [Bool.eq_false_iff];intro hc;rw [sh] at hc;obtain⟨g,_,hg⟩:=hc;cases hf:P.funcs[g]? with
 | none=>rw [hf] at hg; cases hg
 | some fn =>
  rw [hf] at hg;have:P.funcs.any Func.goes=true:=(E9).2 ⟨fn,Array.mem_of_getElem? hf,by simpa using hg⟩;rw [h] at this;cases this
theorem rM {P:Program} (h:P.funcs.any Func.goes=false) (st:Start) (func:String):P.goesAt st func=false:=by
 have hf:P.goesFrom func=false:=by
  unfold Program.goesFrom;cases P.funcNamed func with
  | none=>rfl
  | some f=>exact AI h f
 have hi:P.inits.toList.any P.goes=false:=by
  rw [Bool.eq_false_iff];intro hc;obtain⟨g,_,hg⟩:=sh.1 hc;rw [AI h g] at hg;cases hg
 unfold Program.goesAt;rw [hf,Bool.false_or];cases st <;> first | rfl | exact hi
end
section
open Go.RowKit
open Go.Lib hiding intOf
theorem IY {l:List ab} (h:(l.map ab.Key).Nodup) {x y:ab} (hx:x∈l) (hy:y∈l) (e:x.Key=y.Key):x=y:=by
 induction l with
 | nil=>cases hx
 | cons a l ih =>
  rw [ow,vb] at h;rcases ee.1 hx with hx | hx <;> rcases ee.1 hy with hy | hy
  ·rw [hx,hy]
  ·exact (h.1 (io.2 ⟨y,hy,by rw [← hx,e]⟩)).elim
  ·exact (h.1 (io.2 ⟨x,hx,by rw [← hy,e]⟩)).elim
  ·exact ih h.2 hx hy
theorem ye {l:List ah} {k:ah}:vp l k=false↔k ∉ l:=by rw [← E6,GV]
theorem AP {l:List ab} (hn:(l.map ab.Key).Nodup):∀ {d:List ab},(d.map ab.Key).Nodup→(∀ x∈d,x∈l)→(d++dg l (d.map ab.Key)).Perm l
 | [],_,_=>by rw [ug,ut]; exact Dp _
 | x::d,h,hd=>by
  rw [ow,vb] at h;have ih:=AP hn h.2 fun y hy=>hd y (wJ _ hy);refine List.Perm.trans ?_ ih;have hx:=hd x rH;have e:dg l ((x::d).map ab.Key)=(dg l (d.map ab.Key)).filter fun r=>!dU r.Key x.Key:=by
   unfold dg;rw [List.filter_filter];apply List.filter_congr;intro r hr;unfold vp;rw [ow,List.any_cons];simp [Bool.and_comm]
  have hm:x∈dg l (d.map ab.Key):=iN.2 ⟨hx,by rw [ye.2 h.1]; rfl⟩;rw [e];obtain⟨a,b,eab⟩:=List.append_of_mem hm;have nd:((dg l (d.map ab.Key)).map ab.Key).Nodup:=(List.filter_sublist.map ab.Key).nodup hn;rw [eab] at nd ⊢;rw [sK,ow] at nd;have n1:=List.nodup_append.1 nd;have na:∀ r∈a,dU r.Key x.Key=false:=fun r hr=>sX.2 (n1.2.2 r.Key (Bb hr) x.Key rH);have nb:∀ r∈b,dU r.Key x.Key=false:=fun r hr=>sX.2 fun e=>(vb.1 n1.2.1).1 (io.2 ⟨r,hr,e⟩);rw [kH,List.filter_cons,sD];rw [u9.2 fun r hr=>by rw [na r hr]; rfl];simp only [eI,Dq,if_false];rw [u9.2 fun r hr=>by rw [nb r hr]; rfl];show (x::d++(a++b)).Perm (d++(a++x::b));rw [← eT,← eT];exact (List.perm_middle (l₁:=d++a)).symm
theorem xA (a b:List ab):cF (a++b)=cF a+cF b:=by simp [cF]
theorem wb {l d:List ab} (hn:(l.map ab.Key).Nodup) (h:(d.map ab.Key).Nodup) (hd:∀ x∈d,x∈l):cF d+cF (dg l (d.map ab.Key))=cF l∧d.length+(dg l (d.map ab.Key)).length=l.length:=by
 have p:=AP hn h hd;exact⟨by rw [← oY p,xA],by rw [← p.length_eq,bL]⟩
theorem AH (s:List ab):a7 [] s=s:=by unfold a7 vp; simp
theorem zv (s:List ab) {i j:Nat} (h:i≤j):cF (s.take i)≤cF (s.take j):=by
 have:s.take j=s.take i++(s.drop i).take (j-i):=by
  rw [← List.take_add];congr 1; omega
 rw [this,xA]; omega
theorem Iq {l:List aR} {b:am} (hl:l.length≤8) (hB:jm l b) {s:List ab} (h1:dS b.Records=some (s.map ab.Key)) (h2:s.Perm b.Records) (h4:s.length≤8) (h5:(s.map ab.Key).Nodup) {n k:Int} (n0:0≤n) (n1:n<250) (k0:0≤k) (k1:k<100) {m m':Nat} (e:L5 b n [] s m) (e':L5 b (n+k) [] s m') (u:(List aR)×am×aW) (hu:u.2.1=b) :
  gP u n (am.mk b.Revision b.Inputs (dg b.Records ((s.take m).map ab.Key)),(s.take m).map ab.Key,0) ((s.take m').map ab.Key) 0 b.Revision b.Inputs (dg b.Records ((s.take m').map ab.Key))=some true:=by
 have hle:=e.le;have hfit:=e.fit;have hneed:=e.need;have hle':=e'.le;have hfit':=e'.fit;have hneed':=e'.need;rw [AH] at hle hfit hneed hle' hfit' hneed';have hlen:=h2.length_eq;have hrm:=(hB.rm hl).1;have hsz:=hB.sz hl;have hn:(b.Records.map ab.Key).Nodup:=lV (f:=ab.Key) hB.recsA;have hss:=uE (l:=s) fun r hr=>hsz r (h2.mem_iff.1 hr);have hsub:∀ j,((s.take j).map ab.Key).Nodup∧∀ x∈s.take j,x∈b.Records:=fun j=>⟨((Dl j s).map ab.Key).nodup h5,fun x hx=>h2.mem_iff.1 (tx hx)⟩;have hsum:∀ j,cF (s.take j)+cF (dg b.Records ((s.take j).map ab.Key))=cF s∧(s.take j).length+(dg b.Records ((s.take j).map ab.Key)).length=s.length:=fun j=>by
  have:=wb hn (hsub j).1 (hsub j).2;rw [oY h2,hlen]; exact this
 have htot:∀ j,dj (dg b.Records ((s.take j).map ab.Key))=some (cF (dg b.Records ((s.take j).map ab.Key)):Int):=fun j=>rE (fun r hr=>hsz r (iN.1 hr).1) (by have:=(hsum j).2; omega);have hmm:m'≤m:=by
  refine Nat.le_of_not_lt fun h=>?_;have:=hneed' m h;rcases hfit with hf | hf
  ·omega
  ·omega
 have hall:cF (s.take s.length)=cF s:=by rw [i7]
 have hT:(cF (dg b.Records ((s.take m).map ab.Key)):Int)≤n:=by
  have:=(hsum m).1;rcases hfit with hf | hf
  ·rw [hf] at this ⊢; rw [hall] at this; omega
  ·omega
 have hlm:((s.take m).map ab.Key).length=m:=by rw [gc,dh]; omega
 have hlm':((s.take m').map ab.Key).length=m':=by rw [gc,dh]; omega
 unfold gP;rw [hu];dsimp only;rw [show ((0:Int) != 0)=false by decide,cond_false,cond_false,htot,aq,decide_eq_false (by omega),cond_false,hlm,hlm',decide_eq_false (by omega),cond_false];have hl2:=(hsum m).2;rw [dh] at hl2;rw [show ((IntKind.i64.wrap (((dg b.Records ((s.take m).map ab.Key)).length:Int)+(m:Int)):Int) != (b.Records.length:Int))=false by rw [gM (by omega) (by omega),show ((dg b.Records ((s.take m).map ab.Key)).length:Int)+(m:Int)=(b.Records.length:Int) by omega]; simp,cond_false,htot,aq,aq];have hts:=zv s hmm;have s1:=(hsum m).1;have s2:=(hsum m').1;rw [decide_eq_false (by omega),cond_false];have hend:e8 (am.mk b.Revision b.Inputs (dg b.Records ((s.take m).map ab.Key)),(s.take m).map ab.Key,0) ((s.take m').map ab.Key)=some true:=by
  unfold e8;dsimp only;rw [hlm',oX (by rw [hlm]; exact hmm),aq,← List.map_take,List.take_take,zJ hmm,mK (by rw [hlm']; unfold Rm; omega),aq,cond_true,qo];rfl
 by_cases hm:0<m
 ·rw [decide_eq_true (by omega),cond_true];have ek:IntKind.i64.wrap ((m:Int)-1)=((m-1:Nat):Int):=by rw [gM (by omega) (by omega)]; omega
  have hx:s[m-1]? = some s[m-1]:=bq (by omega);have hxm:s[m-1]∈b.Records:=h2.mem_iff.1 (ge _);rw [ek,aM,qf,mO,if_pos (by omega),hx,iY,aq,kj hrm,qD hB.recsA hxm,aq];dsimp only;unfold jY;have hz:cP (ab.mk (ah.mk s[m-1].Key.Kind s[m-1].Key.Text) s[m-1].Value s[m-1].Reads s[m-1].Changed s[m-1].Verified s[m-1].Cost s[m-1].Dirty)=some (fh s[m-1]:Int):=nq (hsz _ hxm);dsimp only;rw [htot,aq,hz,aq];have hq:=hneed (m-1) (by omega);have hz2:=(hsz _ hxm).le;have et:cF (s.take m)=cF (s.take (m-1))+fh s[m-1]:=by
   have:=bw hx;rw [show m-1+1=m by omega] at this;rw [this,qP]
  rw [gM (by omega) (by omega),decide_eq_false (by omega),cond_false];exact hend
 ·rw [decide_eq_false (by omega),cond_false];exact hend
theorem Bp (t:List Int) (budget more:Int):ir t budget more=some true:=by
 rcases i6 400 t.length with ht | ht
 ·unfold ir;rw [rO (by omega),aq,qo]; rfl
 refine y8 ?_;unfold ir;refine aN (sZ ht) ?_;simp only [eI,cond_false];refine aN (v:=aW.mk t 0) rfl (aL (vF (d:=t) (i:=0) ⟨by omega,by omega,ht⟩) fun u ⟨hR,hB⟩=>?_);have hl:=hR.high;obtain⟨s,h1,h2,h3,h4,h5⟩:=BP hl hB;refine aL (BF budget (m:=250) (by omega) (by omega)) fun n ⟨n0,n1⟩=>?_;obtain⟨m,e⟩:=tH hB hl (n:=n) n0 (by omega) (keep:=[]) (by unfold Rm; simp) h1 h2;show Ok ((bY u.2.1 n []).bind _) _;refine aN e.is (aL (BF more (m:=100) (by omega) (by omega)) fun k ⟨k0,k1⟩=>?_);obtain⟨m',e'⟩:=tH hB hl (n:=n+k) (by omega) (by omega) (keep:=[]) (by unfold Rm; simp) h1 h2;rw [gM (by omega) (by omega)];show Ok ((bY u.2.1 (n+k) []).bind _) _;refine aN e'.is ?_;have:=Iq hl hB h1 h2 h4 h5 n0 n1 k0 k1 e e' u rfl;rw [AH];exact⟨true,this,rfl⟩
end
section
open Go.RowKit
open Go.Lib hiding intOf
theorem Fz {u:(List aR)×am×aW} (n:Int) (h20:u.2.1.Records.length<20):∃ ks:List ab,ks.Sublist u.2.1.Records∧loop (fun s:(List ah)×Int=>dB n u s.1 s.2) (([]:List ah),0)=some (ks.map ab.Key):=by
 have key:Ok ((loop (fun s:(List ah)×Int=>dB n u s.1 s.2) (([]:List ah),0)).bind fun r=>some r) fun r=>∃ ks:List ab,ks.Sublist u.2.1.Records∧r=ks.map ab.Key:=by
  refine bG (fun i t=>∃ ks:List ab,ks.Sublist (u.2.1.Records.take i)∧t=(ks.map ab.Key,(i:Int))) (fun r=>∃ ks:List ab,ks.Sublist u.2.1.Records∧r=ks.map ab.Key) u.2.1.Records.length ⟨[],List.nil_sublist _,rfl⟩ (fun i t hi hI=>?_) (fun r hr=>ap hr);obtain⟨ks,h1,rfl⟩:=hI;dsimp only;unfold dB;by_cases hlt:i<u.2.1.Records.length
  ·have hx:u.2.1.Records[i]? = some u.2.1.Records[i]:=bq hlt;have hk:=h1.length_le;rw [dh] at hk;rw [decide_eq_true (show (i:Int)<(u.2.1.Records.length:Int) by omega),cond_true,aM,hx,aq];have hm:Int.tmod (i:Int) 30=i:=by
    rw [Int.tmod_eq_of_lt (by omega) (by omega)]
   have hw:IntKind.u64.wrap (i:Int)=i:=by
    have:=IntKind.wrap_u64 (i:Int);rw [this]; omega
   rw [hm,hw,uS (decide_eq_true (by omega))];refine aC (fun _=>?_) (fun _=>?_)
   ·rw [uS (dX (by simp; omega))];unfold eM;exact ap ⟨hlt,ks++[u.2.1.Records[i]],by rw [bw hx]; exact h1.append (List.Sublist.refl _),by rw [sK,cc (by omega)]; rfl⟩
   ·unfold eM;exact ap ⟨hlt,ks,by rw [bw hx]; exact h1.trans (List.sublist_append_left _ _),by rw [cc (by omega)]⟩
  ·rw [decide_eq_false (show ¬ (i:Int)<(u.2.1.Records.length:Int) by omega),cond_false];exact ap ⟨ks,h1.trans (Dl _ _),rfl⟩
 obtain⟨r,e,ks,h1,rfl⟩:=key;refine⟨ks,h1,?_⟩;cases hL:loop (fun s:(List ah)×Int=>dB n u s.1 s.2) (([]:List ah),0) with
 | none=>rw [hL] at e; cases e
 | some q=>rw [hL] at e; exact e
theorem HF {a b:List ab} (h:a.Sublist b):cF a≤cF b:=by
 induction h with
 | slnil=>exact ce _
 | cons x _ ih=>rw [nF]; omega
 | cons_cons x _ ih=>rw [nF,nF]; omega
theorem In {b:am} {keep:List ah} {s:List ab} {m:Nat} (e:L5 b 0 keep s m):m=(a7 keep s).length:=by
 rcases e.fit with h | h
 ·exact h
 ·refine u6 fun hn=>?_;have hlt:m<(a7 keep s).length:=by have:=e.le; omega
  have h1:=zv (a7 keep s) (i:=m+1) (j:=(a7 keep s).length) hlt;rw [i7] at h1;have hx:(a7 keep s)[m]? = some (a7 keep s)[m]:=bq hlt;rw [bw hx,qP] at h1;have h2:=wF (a7 keep s)[m];have h3:cF (a7 keep s)≤cF s:=HF E7;omega
theorem z8 (t:List Int) (n:Int):gz t n=some true:=by
 rcases i6 400 t.length with ht | ht
 ·unfold gz;rw [rO (by omega),aq,qo]; rfl
 refine y8 ?_;unfold gz;refine aN (sZ ht) ?_;simp only [eI,cond_false];refine aN (v:=aW.mk t 0) rfl (aL (vF (d:=t) (i:=0) ⟨by omega,by omega,ht⟩) fun u ⟨hR,hB⟩=>?_);have hl:=hR.high;have hnr:=hB.nrec;obtain⟨s,h1,h2,h3,h4,h5⟩:=BP hl hB;obtain⟨ks,k1,k2⟩:=Fz (u:=u) n (by omega);refine aN k2 ?_;have hlen:=h2.length_eq;have hrm:=(hB.rm hl).1;have hsz:=hB.sz hl;have hn:(u.2.1.Records.map ab.Key).Nodup:=lV (f:=ab.Key) hB.recsA;have hkl:=k1.length_le;have hkr:Rm (ks.map ab.Key).length:=by rw [gc]; unfold Rm; omega
 have hkn:(ks.map ab.Key).Nodup:=(k1.map ab.Key).nodup hn;have hkm:∀ x∈ks,x∈u.2.1.Records:=fun x hx=>k1.subset hx;obtain⟨m,e⟩:=tH hB hl (n:=0) (uK _) (by omega) hkr h1 h2;have em:=In e;have his:=e.is;rw [em,i7] at his;have hss:=Jb (l:=s) fun r hr=>(hB.recs r (h2.mem_iff.1 hr)).sm hl;obtain⟨m',e'⟩:=tH hB hl (n:=(cF s:Int)) (by omega) (by omega) (keep:=[]) (by unfold Rm; simp) h1 h2;have em':m'=0:=by
  refine u6 fun h=>?_;have:=e'.need 0 (by omega);rw [Dj] at this;have h0:cF ([]:List ab)=0:=rfl;rw [h0] at this;omega
 have his':=e'.is;rw [em',Dj,ug,ut] at his';refine⟨true,?_,rfl⟩;unfold je;show ((bY u.2.1 0 (ks.map ab.Key)).bind _)=_;rw [his,aq,rE hsz (by omega),← oY h2,aq];show ((bY u.2.1 (cF s:Int) []).bind _)=_;rw [his',aq];dsimp only
 have fsub:∀ x∈a7 (ks.map ab.Key) s,x∈u.2.1.Records:=fun x hx=>h2.mem_iff.1 (iN.1 hx).1;have fnod:((a7 (ks.map ab.Key) s).map ab.Key).Nodup:=(List.filter_sublist.map ab.Key).nodup h5;have fnot:∀ k∈(a7 (ks.map ab.Key) s).map ab.Key,k ∉ ks.map ab.Key:=fun k hk=>by
  obtain⟨x,hx,rfl⟩:=io.1 hk;have:=(iN.1 hx).2;exact ye.1 (by simpa using this)
 have fl:=(wb hn fnod fsub).2;have kl:=(wb hn hkn hkm).2;have efl:(a7 (ks.map ab.Key) s).length=(dg u.2.1.Records (ks.map ab.Key)).length:=(h2.filter _).length_eq;have hgl:((a7 (ks.map ab.Key) s).map ab.Key).length=(a7 (ks.map ab.Key) s).length:=gc ..;unfold jd;dsimp only;rw [show ((0:Int) != 0)=false by decide,cond_false,cond_false,gc,gc];rw [show (((dg u.2.1.Records ((a7 (ks.map ab.Key) s).map ab.Key)).length:Int) != (ks.length:Int))=false by rw [show (dg u.2.1.Records ((a7 (ks.map ab.Key) s).map ab.Key)).length=ks.length by omega]; simp,cond_false];rw [show ((IntKind.i64.wrap (((a7 (ks.map ab.Key) s).length:Int)+(ks.length:Int)):Int) != (u.2.1.Records.length:Int))=false by rw [gM (by omega) (by omega),show ((a7 (ks.map ab.Key) s).length:Int)+(ks.length:Int)=(u.2.1.Records.length:Int) by omega]; simp,cond_false];rw [show (((([]:List ah).length:Int)) != 0)=false by decide,cond_false];show ((ly u.2.1 u.2.1).bind _)=_;rw [A4 hrm (hB.rm hl).2.1,aq];simp only [eI,cond_false];refine d7 (fK (r:=Fl.go ()) (ks.map ab.Key).length (fun k hk=>?_) ?_) (by
  show f0=some true;unfold f0;rw [qo]; rfl)
 ·rw [gc] at hk;have hx:ks[k]? = some ks[k]:=bq hk;have hxm:=hkm _ (ge hk);have hxk:ks[k].Key∈ks.map ab.Key:=Bb (ge hk);have hng:ks[k].Key ∉ (a7 (ks.map ab.Key) s).map ab.Key:=fun h=>fnot _ h hxk;have hxl:ks[k]∈dg u.2.1.Records ((a7 (ks.map ab.Key) s).map ab.Key):=iN.2 ⟨hxm,by rw [ye.2 hng]; rfl⟩;have hal:xV (dg u.2.1.Records ((a7 (ks.map ab.Key) s).map ab.Key)):=List.Pairwise.sublist E7 hB.recsA;unfold f5;rw [gc,dlt hk,cond_true,aM,qf,hx,iY,aq,kj hrm,qD hB.recsA hxm,aq,kj (uw hrm _),qD hal hxl,aq];simp only [eI,cond_false];show ((iT ks[k] ks[k]).bind _)=_;rw [zp (hrm.2 _ hxm),aq];simp only [eI,cond_false];rw [qM (by rw [hgl]; unfold Rm; omega),aq];rw [show (((a7 (ks.map ab.Key) s).map ab.Key).any fun x=>dU ks[k].Key x)=false from ye.2 hng,cond_false,cc (by omega)]
 ·unfold f5;rw [bA]; rfl
end
section
open Go.RowKit
open Go.Lib hiding intOf
theorem HG {d:List ab} {a b n:Nat} (h1:a+n≤b) (h2:b+n≤d.length) (hl:d.length≤1000000) (c:ab→ab→Option Int) :
  ∃ r,mc c d (a:Int) (b:Int) (n:Int)=some r∧r.length=d.length∧∀ j,r[j]? = if a≤j∧j<a+n then d[b+(j-a)]? else if b≤j∧j<b+n then d[a+(j-b)]? else d[j]?:=by
 have key:Ok (mc c d (a:Int) (b:Int) (n:Int)) fun r=>r.length=d.length∧∀ j,r[j]? = if a≤j∧j<a+n then d[b+(j-a)]? else if b≤j∧j<b+n then d[a+(j-b)]? else d[j]?:=by
  unfold mc;refine bG (fun k s=>s.2=(k:Int)∧k≤n∧s.1.length=d.length∧∀ j,s.1[j]? = if a≤j∧j<a+k then d[b+(j-a)]? else if b≤j∧j<b+k then d[a+(j-b)]? else d[j]?) (fun r=>r.length=d.length∧∀ j,r[j]? = if a≤j∧j<a+n then d[b+(j-a)]? else if b≤j∧j<b+n then d[a+(j-b)]? else d[j]?) n ⟨rfl,fE _,rfl,fun j=>by rw [if_neg (by omega),if_neg (by omega)]⟩ (fun k s hk hI=>?_) (fun r hr=>ap hr);obtain⟨e,i⟩:=s;obtain⟨g1,g2,g3,g4⟩:=hI;dsimp only at g1 g2 g3 g4 ⊢;subst g1;unfold qx;by_cases hlt:k<n
  ·rw [decide_eq_true (show (k:Int)<(n:Int) by omega),cond_true];have eb:IntKind.i64.wrap ((b:Int)+(k:Int))=((b+k:Nat):Int):=by rw [gM (by omega) (by omega)]; omega
   have ea:IntKind.i64.wrap ((a:Int)+(k:Int))=((a+k:Nat):Int):=by rw [gM (by omega) (by omega)]; omega
   have xb:e[b+k]? = d[b+k]?:=by rw [g4,if_neg (by omega),if_neg (by omega)]
   have xa:e[a+k]? = d[a+k]?:=by rw [g4,if_neg (by omega),if_neg (by omega)]
   have yb:d[b+k]? = some (d[b+k]'(by omega)):=bq (by omega);have ya:d[a+k]? = some (d[a+k]'(by omega)):=bq (by omega);rw [eb,ea,aM,aM,xb,xa,yb,ya,aq,aq,aq,pQ,pQ,aM,ov (by omega),xb,yb,aq,cc (by omega)];refine ap ⟨hlt,rfl,hlt,by rw [rG,rG]; exact g3,fun j=>?_⟩;rw [qd];by_cases jb:b+k=j
   ·subst jb;rw [if_pos rfl,if_pos (by rw [rG]; omega),if_neg (by omega),if_pos (by omega),← ya];congr 1; omega
   ·rw [if_neg jb,qd];by_cases ja:a+k=j
    ·subst ja;rw [if_pos rfl,if_pos (by omega),if_pos (by omega),← yb];congr 1; omega
    ·rw [if_neg ja,g4];by_cases q1:a≤j∧j<a+k
     ·rw [if_pos q1,if_pos (show a≤j∧j<a+(k+1) by omega)]
     ·by_cases q2:b≤j∧j<b+k
      ·rw [if_neg q1,if_pos q2,if_neg (show ¬ (a≤j∧j<a+(k+1)) by omega),if_pos (show b≤j∧j<b+(k+1) by omega)]
      ·rw [if_neg q1,if_neg q2,if_neg (show ¬ (a≤j∧j<a+(k+1)) by omega),if_neg (show ¬ (b≤j∧j<b+(k+1)) by omega)]
  ·have:k=n:=by omega
   subst this;rw [decide_eq_false (show ¬ (k:Int)<(k:Int) by omega),cond_false];exact ap ⟨g3,g4⟩
 obtain⟨r,e,h⟩:=key;exact⟨r,e,h⟩
theorem Ox (p x q y s:List ab) (j:Nat):(p++x++q++y++s)[j]? = if j<p.length then p[j]? else if j<p.length+x.length then x[j-p.length]? else if j<p.length+x.length+q.length then q[j-(p.length+x.length)]? else if j<p.length+x.length+q.length+y.length then y[j-(p.length+x.length+q.length)]? else s[j-(p.length+x.length+q.length+y.length)]?:=by
 simp only [B3,bL]
 repeat' split
 all_goals first | rfl | omega
theorem BQ {p x q y s:List ab} (hxy:x.length=y.length) (hl:(p++x++q++y++s).length≤1000000) (c:ab→ab→Option Int) :
  mc c (p++x++q++y++s) (p.length:Int) ((p.length+x.length+q.length:Nat):Int) (x.length:Int)=some (p++y++q++x++s):=by
 obtain⟨r,e,h1,h2⟩:=HG (d:=p++x++q++y++s) (a:=p.length) (b:=p.length+x.length+q.length) (n:=x.length) (by omega) (by simp; omega) hl c;rw [e];congr 1;apply B4;intro j;rw [h2];simp only [Ox]
 repeat' split
 all_goals first | omega | rfl | (congr 1; omega)
theorem w7 (c:ab→ab→Option Int) (m:Nat):∀ (N:Nat) (p x y s:List ab),x.length+y.length≤N→1≤x.length→1≤y.length→m=p.length+x.length→(p++x++y++s).length≤1000000 →
  ((loop (fun t:(List ab)×Int×Int=>kV (m:Int) c t.1 t.2.1 t.2.2) (p++x++y++s,(x.length:Int),(y.length:Int))).bind fun r=>qN (m:Int) c r.1 r.2)=some (p++y++x++s)
 | 0,p,x,y,s,h,h1,h2,hm,hl=>by omega
 | N+1,p,x,y,s,h,h1,h2,hm,hl=>by
  have hl2:p.length+x.length+y.length+s.length≤1000000:=by simpa [sJ] using hl
  have em:IntKind.i64.wrap ((m:Int)-(x.length:Int))=(p.length:Int):=by rw [gM (by omega) (by omega)]; omega
  rcases Nat.lt_trichotomy x.length y.length with hlt | heq | hgt
  ·-- the second part is longer
   obtain⟨y1,y2,rfl,e2⟩:∃ y1 y2,y=y1++y2∧y2.length=x.length:=⟨y.take (y.length-x.length),y.drop (y.length-x.length),(qi _ _).symm,by rw [pS]; omega⟩;rw [bL] at hlt h hl2;have eb:kV (m:Int) c (p++x++(y1++y2)++s) (x.length:Int) ((y1++y2).length:Int)=some (.go (p++y2++y1++(x++s),(y2.length:Int),(y1.length:Int))):=by
    unfold kV;rw [show (((x.length:Int)) != ((y1++y2).length:Int))=true by simp; omega,cond_true,decide_eq_false (by rw [bL]; omega),cond_false,em,bL];rw [show IntKind.i64.wrap ((IntKind.i64.wrap ((m:Int)+((y1.length+y2.length:Nat):Int)))-(x.length:Int))=((p.length+x.length+y1.length:Nat):Int) by rw [gM (z:=(m:Int)+((y1.length+y2.length:Nat):Int)) (by omega) (by omega),gM (by omega) (by omega)]; omega];have:=BQ (p:=p) (x:=x) (q:=y1) (y:=y2) (s:=s) e2.symm (by simp; omega) c;rw [show p++x++(y1++y2)++s=p++x++y1++y2++s by simp [eT],this,aq];rw [show IntKind.i64.wrap (((y1.length+y2.length:Nat):Int)-(x.length:Int))=(y1.length:Int) by rw [gM (by omega) (by omega)]; omega,e2];simp [eT]
   rw [jh (s':=(p++y2++y1++(x++s),(y2.length:Int),(y1.length:Int))) eb];rw [w7 c m N p y2 y1 (x++s) (by omega) (by omega) (by omega) (by omega) (by simp; omega)];simp [eT]
  ·-- as long as each other
   have eb:kV (m:Int) c (p++x++y++s) (x.length:Int) (y.length:Int)=some (.out (p++x++y++s,(x.length:Int))):=by
    unfold kV;rw [show (((x.length:Int)) != (y.length:Int))=false by simp; omega,cond_false]
   rw [cN eb,aq];unfold qN;have:=BQ (p:=p) (x:=x) (q:=[]) (y:=y) (s:=s) heq (by simp; omega) c;rw [jR,qk,← hm,pT,pT] at this;rw [em,this]; rfl
  ·-- the first part is longer
   obtain⟨x1,x2,rfl,e1⟩:∃ x1 x2,x=x1++x2∧x1.length=y.length:=⟨x.take y.length,x.drop y.length,(qi _ _).symm,by rw [dh]; omega⟩;rw [bL] at hgt h hl2 hm;have eb:kV (m:Int) c (p++(x1++x2)++y++s) ((x1++x2).length:Int) (y.length:Int)=some (.go ((p++y)++x2++x1++s,(x2.length:Int),(x1.length:Int))):=by
    unfold kV;rw [em,show ((((x1++x2).length:Int)) != (y.length:Int))=true by simp; omega,cond_true,decide_eq_true (by rw [bL]; omega),cond_true,bL];have:=BQ (p:=p) (x:=x1) (q:=x2) (y:=y) (s:=s) e1 (by simp; omega) c;rw [show p++(x1++x2)++y++s=p++x1++x2++y++s by simp [eT]];rw [show p.length+x1.length+x2.length=m by omega,e1] at this;rw [this,aq];rw [show IntKind.i64.wrap (((x1.length+x2.length:Nat):Int)-(y.length:Int))=(x2.length:Int) by rw [gM (by omega) (by omega)]; omega,e1]
   rw [jh (s':=((p++y)++x2++x1++s,(x2.length:Int),(x1.length:Int))) eb];rw [w7 c m N (p++y) x2 x1 s (by omega) (by omega) (by omega) (by rw [bL]; omega) (by simp; omega)];simp [eT]
theorem LG (c:ab→ab→Option Int) {p x y s:List ab} (h1:1≤x.length) (h2:1≤y.length) (hl:(p++x++y++s).length≤1000000) :
  zn c (p++x++y++s) (p.length:Int) ((p.length+x.length:Nat):Int) ((p.length+x.length+y.length:Nat):Int)=some (p++y++x++s):=by
 have hl2:p.length+x.length+y.length+s.length≤1000000:=by simpa [sJ] using hl
 unfold zn;rw [show IntKind.i64.wrap (((p.length+x.length:Nat):Int)-(p.length:Int))=(x.length:Int) by rw [gM (by omega) (by omega)]; omega,show IntKind.i64.wrap (((p.length+x.length+y.length:Nat):Int)-((p.length+x.length:Nat):Int))=(y.length:Int) by rw [gM (by omega) (by omega)]; omega];exact w7 c _ _ p x y s (ce _) h1 h2 rfl hl
end
section
open Go.RowKit
open Go.Lib hiding intOf
theorem yL {B:Int×Int→Option (Fl (Int×Int) Int)} {P:Nat→Bool} {lo hi:Nat} (hout:∀ i:Nat,B ((i:Int),(i:Int))=some (.out (i:Int)))
  (hgo:∀ i j:Nat,lo≤i→i<j→j≤hi→B ((i:Int),(j:Int))=some (.go (if P ((i+j) / 2)=true then ((((i+j) / 2+1:Nat):Int),(j:Int)) else ((i:Int),(((i+j) / 2:Nat):Int)))))
  (hmono:∀ s t,lo≤s→s≤t→t<hi→P t=true→P s=true) :
  ∀ (N i j:Nat),j-i≤N→lo≤i→i≤j→j≤hi→(∀ t,lo≤t→t<i→P t=true)→(∀ t,j≤t→t<hi→P t=false)→∃ k,i≤k∧k≤j∧loop B ((i:Int),(j:Int))=some (k:Int)∧(∀ t,lo≤t→t<k→P t=true)∧(∀ t,k≤t→t<hi→P t=false)
 | 0,i,j,h,h1,h2,h3,h4,h5=>by
  have:j=i:=by omega
  subst this;exact⟨j,ce _,ce _,cN (hout j),h4,h5⟩
 | N+1,i,j,h,h1,h2,h3,h4,h5=>by
  by_cases hlt:i<j
  ·have e:=hgo i j h1 hlt h3;cases hp:P ((i+j) / 2) with
   | true =>
    rw [hp,if_pos rfl] at e;obtain⟨k,k1,k2,k3,k4,k5⟩:=yL hout hgo hmono N ((i+j) / 2+1) j (by omega) (by omega) (by omega) h3 (fun t ht1 ht2=>hmono t ((i+j) / 2) ht1 (by omega) (by omega) hp) h5;exact⟨k,by omega,k2,by rw [jh e]; exact k3,k4,k5⟩
   | false =>
    rw [hp,if_neg (by simp)] at e;obtain⟨k,k1,k2,k3,k4,k5⟩:=yL hout hgo hmono N i ((i+j) / 2) (by omega) h1 (by omega) (by omega) h4 (fun t ht1 ht2=>by
     cases hq:P t with
     | false=>rfl
     | true =>
      have:=hmono ((i+j) / 2) t (by omega) ht1 ht2 hq;rw [hp] at this; cases this)
    exact⟨k,k1,by omega,by rw [jh e]; exact k3,k4,k5⟩
  ·have:j=i:=by omega
   subst this;exact⟨j,ce _,ce _,cN (hout j),h4,h5⟩
theorem EX (i:Nat):∀ (y p s:List ab) (x:ab),i=p.length+1+y.length→(p++x::(y++s)).length≤1000000 →
  loop (fun t:(List ab)×Int=>ko (i:Int) t.1 t.2) (p++x::(y++s),(p.length:Int))=some (p++y++x::s)
 | [],p,s,x,h,hl=>by
  simp only [jR,bL,d8,rW] at h hl;refine (cN (r:=p++x::s) ?_).trans (by simp);dsimp only;unfold ko;rw [decide_eq_false (by rw [gM (by omega) (by omega)]; omega),cond_false]; rfl
 | b::y,p,s,x,h,hl=>by
  simp only [bL,d8] at h hl;have e1:IntKind.i64.wrap ((p.length:Int)+1)=((p.length+1:Nat):Int):=cc (by omega);have g0:(p++x::((b::y)++s))[p.length]? = some x:=by simp
  have g1:(p++x::((b::y)++s))[p.length+1]? = some b:=by rw [lN (by omega)]; simp
  have eb:ko (i:Int) (p++x::((b::y)++s)) (p.length:Int)=some (.go ((p++[b])++x::(y++s),(((p++[b]).length:Nat):Int))):=by
   unfold ko;rw [decide_eq_true (by rw [gM (by omega) (by omega)]; omega),cond_true,e1,aM,aM,g1,aq,g0,aq,aq,pQ,pQ,aM,ov (by omega),g1,aq];congr 2;refine Prod.ext ?_ (by simp);dsimp only;rw [tj _ _ (by omega),ui,tj _ _ (by omega),show p.length+1-p.length=1 by omega];simp
  rw [jh (s':=((p++[b])++x::(y++s),(((p++[b]).length:Nat):Int))) eb];rw [EX i y (p++[b]) s x (by simp only [bL,nN]; omega) (by simp only [bL,d8,nN,jR]; omega)];simp
theorem AD (i:Nat):∀ (N:Nat) (y p s:List ab) (x:ab),y.length=N→i=p.length→(p++y++x::s).length≤1000000 →
  loop (fun t:(List ab)×Int=>kk (i:Int) t.1 t.2) (p++y++x::s,((p.length+y.length:Nat):Int))=some (p++x::(y++s))
 | 0,y,p,s,x,hN,h,hl=>by
  have:y=[]:=rF.1 hN;subst this;refine (cN (r:=p++x::s) ?_).trans (by simp);dsimp only;unfold kk;rw [decide_eq_false (by simp only [jR]; omega),cond_false]; simp
 | N+1,y,p,s,x,hN,h,hl=>by
  obtain⟨y',b,rfl⟩:∃ y' b,y=y'++[b]:=⟨y.dropLast,y.getLast (by intro e; rw [e] at hN; cases hN),(List.dropLast_concat_getLast _).symm⟩;simp only [bL,d8,jR] at hN hl;have hk:(p++(y'++[b])).length=p.length+y'.length+1:=by simp only [bL,d8,jR]; omega
  have e1:IntKind.i64.wrap (((p.length+(y'++[b]).length:Nat):Int)-1)=((p.length+y'.length:Nat):Int):=by rw [bL,gM (by simp only [nN]; omega) (by simp only [nN]; omega)]; simp only [nN]; omega
  have g0:(p++(y'++[b])++x::s)[p.length+(y'++[b]).length]? = some x:=by
   rw [lN (by simp)]; simp
  have g1:(p++(y'++[b])++x::s)[p.length+y'.length]? = some b:=by
   rw [lM (by rw [hk]; omega),lN (by omega)]; simp
  have eb:kk (i:Int) (p++(y'++[b])++x::s) ((p.length+(y'++[b]).length:Nat):Int)=some (.go (p++y'++x::(b::s),((p.length+y'.length:Nat):Int))):=by
   unfold kk;rw [decide_eq_true (by rw [bL]; simp only [nN]; omega),cond_true,e1,aM,aM,g1,aq,g0,aq,aq,pQ,pQ,aM,ov (by rw [bL]; simp only [nN]; omega),g1,aq];congr 2;refine Prod.ext ?_ rfl;dsimp only;have ek:p.length+(y'++[b]).length=(p++(y'++[b])).length:=by simp
   rw [ek,tj _ _ (ce _),ui];rw [show p++(y'++[b])++(x::s).set 0 b=(p++y')++(b::b::s) by simp,show p.length+y'.length=(p++y').length by simp,tj _ _ (ce _),ui];simp
  rw [jh (s':=(p++y'++x::(b::s),((p.length+y'.length:Nat):Int))) eb];rw [AD i N y' p (b::s) x (by omega) h (by simp only [bL,d8]; omega)];simp
end
section
open Go.RowKit
open Go.Lib hiding intOf
theorem G1 {a b c:ab} (h1:kd a b≤0) (h2:kd b c<0):kd a c<0:=by
 refine u6 fun h=>?_;have h3:kd c a≤0:=by rw [lj]; omega
 have h4:=lY h3 h1;rw [lj] at h4;omega
theorem EJ {a b c:ab} (h1:kd a b<0) (h2:kd b c≤0):kd a c<0:=by
 refine u6 fun h=>?_;have h3:kd c a≤0:=by rw [lj]; omega
 have h4:=lY h2 h3;rw [lj] at h4;omega
def sN (l:List ab):Prop:=l.Pairwise fun a b=>kd a b≤0
theorem sN.get {l:List ab} (h:sN l) {i j:Nat} {x y:ab} (hij:i≤j) (hx:l[i]? = some x) (hy:l[j]? = some y):kd x y≤0:=by
 rcases Nat.eq_or_lt_of_le hij with rfl | hlt
 ·rw [hx] at hy; injection hy with hy; subst hy;rw [y7]; exact .inr ⟨rfl,.inr ⟨rfl,Int.le_of_eq (sB _)⟩⟩
 ·have h1:=(bH.1 hx);have h2:=(bH.1 hy);have:=gv.1 h i j h1.1 h2.1 hlt;rw [h1.2,h2.2] at this;exact this
theorem sN.app {a b:List ab} (ha:sN a) (hb:sN b) (h:∀ x∈a,∀ y∈b,kd x y≤0):sN (a++b):=oF.2 ⟨ha,hb,h⟩
theorem Jd (srec:(ab→ab→Option Int)→List ab→Int→Int→Int→Option (List ab)) {p y s:List ab} {x:ab} (hx:kq x) (hy:∀ r∈y,kq r) (hs:sN y) (hl:(p++x::(y++s)).length≤1000000) :
  ∃ z,lI aO srec (p++x::(y++s)) (p.length:Int) ((p.length+1:Nat):Int) ((p.length+1+y.length:Nat):Int)=some (p++z++s)∧z.Perm (x::y)∧sN z:=by
 have hl2:p.length+1+y.length+s.length≤1000000:=by simp only [bL,d8] at hl; omega
 let d:=p++x::(y++s)
 have gx:d[p.length]? = some x:=by show (p++x::(y++s))[p.length]? = _; simp
 have gy:∀ t,p.length+1≤t→t<p.length+1+y.length→d[t]? = y[t-(p.length+1)]?:=fun t h1 h2=>by
  show (p++x::(y++s))[t]? = _;rw [lN (by omega),show t-p.length=(t-(p.length+1))+1 by omega,zM,lM (by omega)]
 let P:Nat→Bool:=fun t=>match d[t]? with
  | some r=>decide (kd r x<0)
  | none=>false
 have hP:∀ t (h1:p.length+1≤t) (h2:t<p.length+1+y.length),P t=decide (kd (y[t-(p.length+1)]'(by omega)) x<0):=fun t h1 h2=>by
  show (match d[t]? with | some r=>decide (kd r x<0) | none=>false)=_;rw [gy t h1 h2,bq (by omega)]
 obtain⟨k,k1,k2,k3,k4,k5⟩:=yL (B:=fun t:Int×Int=>kp d (p.length:Int) aO t.1 t.2) (P:=P) (lo:=p.length+1) (hi:=p.length+1+y.length) (fun i=>by
   dsimp only;unfold kp;rw [decide_eq_false (by omega),cond_false]) (fun i j h1 h2 h3=>by
   dsimp only;unfold kp;have hh:p.length+1≤(i+j) / 2:=by omega
   have hh2:(i+j) / 2<p.length+1+y.length:=by omega
   have hr:y[(i+j) / 2-(p.length+1)]? = some (y[(i+j) / 2-(p.length+1)]'(by omega)):=bq (by omega);rw [decide_eq_true (by omega),cond_true,yY (by omega) (by omega),aM,gy _ hh hh2,hr,aq,aM,gx,aq,qK (hy _ (ge _)) hx,aq,hP _ hh hh2];by_cases hc:kd (y[(i+j) / 2-(p.length+1)]'(by omega)) x<0
   ·rw [decide_eq_true hc,cond_true,if_pos rfl,cc (by omega)]
   ·rw [decide_eq_false hc,cond_false,if_neg (by simp)]) (fun a b h1 h2 h3 hp=>by
   rw [hP a h1 (by omega)];rw [hP b (by omega) h3] at hp;have:=of_decide_eq_true hp;exact decide_eq_true (G1 (hs.get (i:=a-(p.length+1)) (j:=b-(p.length+1)) (by omega) (bq (by omega)) (bq (by omega))) this))
  (p.length+1+y.length) (p.length+1) (p.length+1+y.length) (by omega) (ce _) (by omega) (ce _) (fun t h1 h2=>by omega) (fun t h1 h2=>by omega)
 have hyk:y=y.take (k-(p.length+1))++y.drop (k-(p.length+1)):=(qi _ _).symm;have hlt:(y.take (k-(p.length+1))).length=k-(p.length+1):=by rw [dh]; omega
 refine⟨y.take (k-(p.length+1))++x::y.drop (k-(p.length+1)),?_,?_,?_⟩
 ·unfold lI;rw [show ((IntKind.i64.wrap (((p.length+1:Nat):Int)-(p.length:Int)):Int)==1)=true by rw [gM (by omega) (by omega)]; simp; omega,cond_true];have k3':loop (fun t:Int×Int=>kp (p++x::(y++s)) (p.length:Int) aO t.1 t.2) (((p.length+1:Nat):Int),((p.length+1+y.length:Nat):Int))=some (k:Int):=k3;rw [k3',aq];unfold qC;have hu:=EX k (y.take (k-(p.length+1))) p (y.drop (k-(p.length+1))++s) x (by omega) (by rw [← eT (y.take _),← hyk]; exact hl);rw [← eT (y.take _),← hyk] at hu;rw [hu,aq];unfold qB;simp [eT]
 ·refine List.perm_middle.trans ?_;rw [← hyk]
 ·have hs':=hs;rw [hyk] at hs';have h1:=oF.1 hs';refine sN.app h1.1 (si.2 ⟨fun r hr=>?_,h1.2.1⟩) fun r hr q hq=>?_
  ·obtain⟨t,ht⟩:=gt.1 hr;rw [qj] at ht;have htl:=aV ht;have:=k5 (k+t) (by omega) (by omega);rw [hP (k+t) (by omega) (by omega)] at this;have h2:=of_decide_eq_false this;have e:y[k+t-(p.length+1)]'(by omega)=r:=by
    have e1:k+t-(p.length+1)=k-(p.length+1)+t:=by omega
    exact (bH.1 (by rw [e1]; exact ht)).2
   rw [e] at h2;rw [lj]; omega
  ·have hlx:kd r x<0:=by
    obtain⟨t,ht⟩:=gt.1 hr;have htl:=aV ht;rw [hlt] at htl;rw [mO,if_pos htl] at ht;have:=k4 (p.length+1+t) (by omega) (by omega);rw [hP (p.length+1+t) (by omega) (by omega)] at this;have h2:=of_decide_eq_true this;have e:y[p.length+1+t-(p.length+1)]'(by omega)=r:=by
     have e1:p.length+1+t-(p.length+1)=t:=by omega
     exact (bH.1 (by rw [e1]; exact ht)).2
    rw [e] at h2;exact h2
   rcases ee.1 hq with rfl | hq
   ·omega
   ·exact h1.2.2 r hr q hq
theorem Je (srec:(ab→ab→Option Int)→List ab→Int→Int→Int→Option (List ab)) {p y s:List ab} {x:ab} (hx:kq x) (hy:∀ r∈y,kq r) (hs:sN y) (h2y:2≤y.length) (hl:(p++y++x::s).length≤1000000) :
  ∃ z,lI aO srec (p++y++x::s) (p.length:Int) ((p.length+y.length:Nat):Int) ((p.length+y.length+1:Nat):Int)=some (p++z++s)∧z.Perm (y++[x])∧sN z:=by
 have hl2:p.length+1+y.length+s.length≤1000000:=by simp only [bL,d8] at hl; omega
 let d:=p++y++x::s
 have gx:d[p.length+y.length]? = some x:=by show (p++y++x::s)[p.length+y.length]? = _; rw [lN (by simp)]; simp
 have gy:∀ t,p.length≤t→t<p.length+y.length→d[t]? = y[t-p.length]?:=fun t h1 h2=>by
  show (p++y++x::s)[t]? = _;rw [lM (by simp; omega),lN (by omega)]
 let P:Nat→Bool:=fun t=>match d[t]? with
  | some r=>!(decide (kd x r<0))
  | none=>false
 have hP:∀ t (h1:p.length≤t) (h2:t<p.length+y.length),P t = !(decide (kd x (y[t-p.length]'(by omega))<0)):=fun t h1 h2=>by
  show (match d[t]? with | some r=>!(decide (kd x r<0)) | none=>false)=_;rw [gy t h1 h2,bq (by omega)]
 obtain⟨k,k1,k2,k3,k4,k5⟩:=yL (B:=fun t:Int×Int=>km d ((p.length+y.length:Nat):Int) aO t.1 t.2) (P:=P) (lo:=p.length) (hi:=p.length+y.length) (fun i=>by
   dsimp only;unfold km;rw [decide_eq_false (by omega),cond_false]) (fun i j h1 h2 h3=>by
   dsimp only;unfold km;have hh:p.length≤(i+j) / 2:=by omega
   have hh2:(i+j) / 2<p.length+y.length:=by omega
   have hr:y[(i+j) / 2-p.length]? = some (y[(i+j) / 2-p.length]'(by omega)):=bq (by omega);rw [decide_eq_true (by omega),cond_true,yY (by omega) (by omega),aM,gx,aq,aM,gy _ hh hh2,hr,aq,qK hx (hy _ (ge _)),aq,hP _ hh hh2];by_cases hc:kd x (y[(i+j) / 2-p.length]'(by omega))<0
   ·rw [decide_eq_true hc,eI,cond_false,if_neg (by simp)]
   ·rw [decide_eq_false hc,nM,cond_true,if_pos rfl,cc (by omega)]) (fun a b h1 h2 h3 hp=>by
   rw [hP a h1 (by omega)];rw [hP b (by omega) h3] at hp;have hn:¬ kd x (y[b-p.length]'(by omega))<0:=by simpa using hp
   have h0:¬ kd x (y[a-p.length]'(by omega))<0:=fun h=>hn (EJ h (hs.get (i:=a-p.length) (j:=b-p.length) (by omega) (bq (by omega)) (bq (by omega))));rw [decide_eq_false h0]; rfl)
  (p.length+y.length) p.length (p.length+y.length) (by omega) (ce _) (by omega) (ce _) (fun t h1 h2=>by omega) (fun t h1 h2=>by omega)
 have hyk:y=y.take (k-p.length)++y.drop (k-p.length):=(qi _ _).symm;have hlt:(y.take (k-p.length)).length=k-p.length:=by rw [dh]; omega
 have hld:(y.drop (k-p.length)).length=p.length+y.length-k:=by rw [pS]; omega
 refine⟨y.take (k-p.length)++x::y.drop (k-p.length),?_,?_,?_⟩
 ·unfold lI;rw [show ((IntKind.i64.wrap (((p.length+y.length:Nat):Int)-(p.length:Int)):Int)==1)=false by rw [gM (by omega) (by omega)]; simp; omega,cond_false];unfold ot;rw [show ((IntKind.i64.wrap (((p.length+y.length+1:Nat):Int)-((p.length+y.length:Nat):Int)):Int)==1)=true by rw [gM (by omega) (by omega)]; simp; omega,cond_true];have k3':loop (fun t:Int×Int=>km (p++y++x::s) ((p.length+y.length:Nat):Int) aO t.1 t.2) ((p.length:Int),((p.length+y.length:Nat):Int))=some (k:Int):=k3;rw [k3',aq];unfold qA;have hu:=AD k _ (y.drop (k-p.length)) (p++y.take (k-p.length)) s x rfl (by rw [bL]; omega) (by rw [eT p,← hyk]; exact hl);rw [eT p,← hyk,show (p++y.take (k-p.length)).length+(y.drop (k-p.length)).length=p.length+y.length by rw [bL]; omega] at hu;rw [hu,aq];unfold qz;simp [eT]
 ·refine List.perm_middle.trans ?_;rw [← hyk];exact (HY x y).symm
 ·have hs':=hs;rw [hyk] at hs';have h1:=oF.1 hs';refine sN.app h1.1 (si.2 ⟨fun r hr=>?_,h1.2.1⟩) fun r hr q hq=>?_
  ·obtain⟨t,ht⟩:=gt.1 hr;rw [qj] at ht;have htl:=aV ht;have:=k5 (k+t) (by omega) (by omega);rw [hP (k+t) (by omega) (by omega)] at this;have h2:kd x (y[k+t-p.length]'(by omega))<0:=by simpa using this
   have e:y[k+t-p.length]'(by omega)=r:=by
    have e1:k+t-p.length=k-p.length+t:=by omega
    exact (bH.1 (by rw [e1]; exact ht)).2
   rw [e] at h2;omega
  ·rcases ee.1 hq with rfl | hq
   ·obtain⟨t,ht⟩:=gt.1 hr;have htl:=aV ht;rw [hlt] at htl;rw [mO,if_pos htl] at ht;have:=k4 (p.length+t) (by omega) (by omega);rw [hP (p.length+t) (by omega) (by omega)] at this;have h2:¬ kd q (y[p.length+t-p.length]'(by omega))<0:=by simpa using this
    have e:y[p.length+t-p.length]'(by omega)=r:=by
     have e1:p.length+t-p.length=t:=by omega
     exact (bH.1 (by rw [e1]; exact ht)).2
    rw [e] at h2;rw [lj]; omega
   ·exact h1.2.2 r hr q hq
end
section
open Go.RowKit
open Go.Lib hiding intOf
theorem Jc {p x y s:List ab} (hx:∀ r∈x,kq r) (hy:∀ r∈y,kq r) (sx:sN x) (sy:sN y) {a m b mid lo hi:Nat} (ea:a=p.length) (em:m=p.length+x.length) (eb:b=p.length+x.length+y.length) (emid:mid=(a+b) / 2) (hl:(p++x++y++s).length≤1000000)
  (hlo:(mid<m∧lo=mid+m-b∧hi=mid)∨(m≤mid∧lo=a∧hi=m)) (h2:2≤x.length) (h3:2≤y.length) :
  ∃ k,lo≤k∧k≤hi∧loop (fun t:Int×Int=>lL (p++x++y++s) (a:Int) (m:Int) (b:Int) aO t.1 t.2) ((lo:Int),(hi:Int))=some (k:Int)∧(∀ r∈x.take (k-a),∀ q∈y.drop (mid-k),kd r q≤0)∧(∀ r∈y.take (mid-k),∀ q∈x.drop (k-a),kd r q≤0):=by
 have hl2:p.length+x.length+y.length+s.length≤1000000:=by simpa [sJ] using hl
 let d:=p++x++y++s
 have gx:∀ t,a≤t→t<m→d[t]? = x[t-a]?:=fun t h1 h2=>by
  show (p++x++y++s)[t]? = _;rw [lM (by simp; omega),lM (by simp; omega),lN (by omega),ea]
 have gy:∀ t,m≤t→t<b→d[t]? = y[t-m]?:=fun t h1 h2=>by
  show (p++x++y++s)[t]? = _;rw [lM (by simp; omega),lN (by simp; omega),bL,em]
 let P:Nat→Bool:=fun t=>match y[mid-1-t]?,x[t-a]? with
  | some r,some q=>!(decide (kd r q<0))
  | _,_=>false
 have hP:∀ t (h1:lo≤t) (h2:t<hi),P t = !(decide (kd (y[mid-1-t]'(by omega)) (x[t-a]'(by omega))<0)):=fun t h1 h2=>by
  show (match y[mid-1-t]?,x[t-a]? with | some r,some q=>!(decide (kd r q<0)) | _,_=>false)=_;rw [bq (by omega),bq (by omega)]
 have emw:IntKind.i64.wrap (fC .u64 (IntKind.u64.wrap (IntKind.i64.wrap ((a:Int)+b))) 1)=(mid:Int):=by rw [yY (by omega) (by omega),emid]
 obtain⟨k,k1,k2,k3,k4,k5⟩:=yL (B:=fun t:Int×Int=>lL d (a:Int) (m:Int) (b:Int) aO t.1 t.2) (P:=P) (lo:=lo) (hi:=hi) (fun i=>by
   dsimp only;unfold lL;rw [decide_eq_false (by omega),cond_false]) (fun i j h1 h2 h3=>by
   dsimp only;unfold lL;have hh:lo≤(i+j) / 2:=by omega
   have hh2:(i+j) / 2<hi:=by omega
   have e1:IntKind.i64.wrap ((IntKind.i64.wrap ((IntKind.i64.wrap ((mid:Int)+(m:Int)))-1))-(((i+j) / 2:Nat):Int))=((mid+m-1-(i+j) / 2:Nat):Int):=by
    rw [gM (z:=(mid:Int)+m) (by omega) (by omega),gM (z:=(mid:Int)+m-1) (by omega) (by omega),gM (by omega) (by omega)]; omega
   have hr:y[mid-1-(i+j) / 2]? = some (y[mid-1-(i+j) / 2]'(by omega)):=bq (by omega);have hq:x[(i+j) / 2-a]? = some (x[(i+j) / 2-a]'(by omega)):=bq (by omega);rw [decide_eq_true (by omega),cond_true,emw,yY (by omega) (by omega),e1,aM,gy _ (by omega) (by omega),show mid+m-1-(i+j) / 2-m=mid-1-(i+j) / 2 by omega,hr,aq,aM,gx _ (by omega) (by omega),hq,aq,qK (hy _ (ge _)) (hx _ (ge _)),aq,hP _ hh hh2];by_cases hc:kd (y[mid-1-(i+j) / 2]'(by omega)) (x[(i+j) / 2-a]'(by omega))<0
   ·rw [decide_eq_true hc,eI,cond_false,if_neg (by simp)]
   ·rw [decide_eq_false hc,nM,cond_true,if_pos rfl,cc (by omega)]) (fun u v h1 h2 h3 hp=>by
   rw [hP u h1 (by omega)];rw [hP v (by omega) h3] at hp;have hn:¬ kd (y[mid-1-v]'(by omega)) (x[v-a]'(by omega))<0:=by simpa using hp
   have h0:¬ kd (y[mid-1-u]'(by omega)) (x[u-a]'(by omega))<0:=fun h=>hn (EJ (G1 (sy.get (i:=mid-1-v) (j:=mid-1-u) (by omega) (bq (by omega)) (bq (by omega))) h) (sx.get (i:=u-a) (j:=v-a) (by omega) (bq (by omega)) (bq (by omega))));rw [decide_eq_false h0]; rfl)
  hi lo hi (by omega) (ce _) (by omega) (ce _) (fun t h1 h2=>by omega) (fun t h1 h2=>by omega)
 refine⟨k,k1,k2,k3,fun r hr q hq=>?_,fun r hr q hq=>?_⟩
 ·obtain⟨i,hi1⟩:=gt.1 hr;obtain⟨j,hj1⟩:=gt.1 hq;have hil:=aV hi1;rw [dh] at hil;rw [mO,if_pos (by omega)] at hi1;rw [qj] at hj1;have hjl:=aV hj1;have:=k4 (k-1) (by omega) (by omega);rw [hP (k-1) (by omega) (by omega)] at this;have h0:¬ kd (y[mid-1-(k-1)]'(by omega)) (x[k-1-a]'(by omega))<0:=by simpa using this
  have h1:kd (x[k-1-a]'(by omega)) (y[mid-1-(k-1)]'(by omega))≤0:=by rw [lj]; omega
  have h4:=sx.get (i:=i) (j:=k-1-a) (by omega) hi1 (bq (by omega));have h5:=sy.get (i:=mid-1-(k-1)) (j:=mid-k+j) (by omega) (bq (by omega)) hj1;exact lY h4 (lY h1 h5)
 ·obtain⟨i,hi1⟩:=gt.1 hr;obtain⟨j,hj1⟩:=gt.1 hq;have hil:=aV hi1;rw [dh] at hil;rw [mO,if_pos (by omega)] at hi1;rw [qj] at hj1;have hjl:=aV hj1;have:=k5 k (ce _) (by omega);rw [hP k (by omega) (by omega)] at this;have h0:kd (y[mid-1-k]'(by omega)) (x[k-a]'(by omega))<0:=by simpa using this
  have h4:=sy.get (i:=i) (j:=mid-1-k) (by omega) hi1 (bq (by omega));have h5:=sx.get (i:=k-a) (j:=k-a+j) (by omega) (bq (by omega)) hj1;exact lY h4 (lY (Int.le_of_lt h0) h5)
end
section
open Go.RowKit
open Go.Lib hiding intOf
theorem DZ:∀ (f:Nat) (p x y s:List ab),(∀ r∈x,kq r)→(∀ r∈y,kq r)→sN x→sN y→1≤x.length→1≤y.length→x.length+y.length≤2 ^ f→(p++x++y++s).length≤1000000 →
  ∃ z,Du f aO (p++x++y++s) (p.length:Int) ((p.length+x.length:Nat):Int) ((p.length+x.length+y.length:Nat):Int)=some (p++z++s)∧z.Perm (x++y)∧sN z
 | 0,p,x,y,s,hx,hy,sx,sy,h1,h2,hf,hl=>by
  rw [Nat.pow_zero] at hf; omega
 | f+1,p,x,y,s,hx,hy,sx,sy,h1,h2,hf,hl=>by
  show ∃ z,lI aO (Du f) (p++x++y++s) (p.length:Int) ((p.length+x.length:Nat):Int) ((p.length+x.length+y.length:Nat):Int)=some (p++z++s)∧z.Perm (x++y)∧sN z;have hl2:p.length+x.length+y.length+s.length≤1000000:=by simpa [sJ] using hl
  by_cases hx1:x.length=1
  ·obtain⟨x0,rfl⟩:=List.length_eq_one_iff.1 hx1;have:=Jd (Du f) (p:=p) (y:=y) (s:=s) (x:=x0) (hx x0 (by simp)) hy sy (by simp at hl ⊢; omega);simpa [eT] using this
  by_cases hy1:y.length=1
  ·obtain⟨y0,rfl⟩:=List.length_eq_one_iff.1 hy1;have:=Je (Du f) (p:=p) (y:=x) (s:=s) (x:=y0) (hy y0 (by simp)) hx sx (by omega) (by simp at hl ⊢; omega);simpa [eT] using this
  rw [zI] at hf;generalize hq:2 ^ f=q at hf;obtain⟨a,ea⟩:∃ a,a=p.length:=⟨_,rfl⟩;obtain⟨m,em⟩:∃ m,m=p.length+x.length:=⟨_,rfl⟩;obtain⟨b,eb⟩:∃ b,b=p.length+x.length+y.length:=⟨_,rfl⟩;obtain⟨mid,emid⟩:∃ mid,mid=(a+b) / 2:=⟨_,rfl⟩;have emw:IntKind.i64.wrap (fC .u64 (IntKind.u64.wrap (IntKind.i64.wrap ((a:Int)+b))) 1)=(mid:Int):=by rw [yY (by omega) (by omega),emid]
  obtain⟨lo,hi,hlo⟩:∃ lo hi,(mid<m∧lo=mid+m-b∧hi=mid)∨(m≤mid∧lo=a∧hi=m):=by
   by_cases h:mid<m
   ·exact⟨_,_,.inl ⟨h,rfl,rfl⟩⟩
   ·exact⟨_,_,.inr ⟨by omega,rfl,rfl⟩⟩
  obtain⟨k,k1,k2,k3,k4,k5⟩:=Jc hx hy sx sy ea em eb emid hl hlo (by omega) (by omega);rw [← eb,← em,← ea];have ewn:IntKind.i64.wrap ((mid:Int)+(m:Int))=((mid+m:Nat):Int):=by rw [gM (by omega) (by omega)]; omega
  have een:IntKind.i64.wrap (((mid+m:Nat):Int)-(k:Int))=((mid+m-k:Nat):Int):=by rw [gM (by omega) (by omega)]; omega
  have s1:lI aO (Du f) (p++x++y++s) (a:Int) (m:Int) (b:Int)=nJ (Du f) (p++x++y++s) (a:Int) (m:Int) (b:Int) aO (k:Int):=by
   unfold lI;rw [show ((IntKind.i64.wrap ((m:Int)-(a:Int)):Int)==1)=false by rw [gM (by omega) (by omega)]; simp; omega,cond_false];unfold ot;rw [show ((IntKind.i64.wrap ((b:Int)-(m:Int)):Int)==1)=false by rw [gM (by omega) (by omega)]; simp; omega,cond_false];unfold rU;rw [emw];rcases hlo with⟨h,e1,e2⟩|⟨h,e1,e2⟩
   ·rw [decide_eq_true (by omega),cond_true,ewn,show IntKind.i64.wrap (((mid+m:Nat):Int)-(b:Int))=(lo:Int) by rw [gM (by omega) (by omega)]; omega];unfold nK;rw [← e2,k3,aq]
   ·rw [decide_eq_false (by omega),cond_false];unfold nK;have k3':=k3;rw [e1,e2] at k3';rw [k3',aq]
  have ex:x=x.take (k-a)++x.drop (k-a):=(qi _ _).symm;have ey:y=y.take (mid-k)++y.drop (mid-k):=(qi _ _).symm;have lx1:(x.take (k-a)).length=k-a:=by rw [dh]; omega
  have lx2:(x.drop (k-a)).length=m-k:=by rw [pS]; omega
  have ly1:(y.take (mid-k)).length=mid-k:=by rw [dh]; omega
  have ly2:(y.drop (mid-k)).length=b-(mid+m-k):=by rw [pS]; omega
  have cx1:∀ r∈x.take (k-a),kq r:=fun r hr=>hx r (tx hr);have cx2:∀ r∈x.drop (k-a),kq r:=fun r hr=>hx r (B0 hr);have cy1:∀ r∈y.take (mid-k),kq r:=fun r hr=>hy r (tx hr);have cy2:∀ r∈y.drop (mid-k),kq r:=fun r hr=>hy r (B0 hr);have hsx:=sx;rw [ex] at hsx;have px:=oF.1 hsx;have hsy:=sy;rw [ey] at hsy;have py:=oF.1 hsy;generalize hX1:x.take (k-a)=X1 at *;generalize hX2:x.drop (k-a)=X2 at *;generalize hY1:y.take (mid-k)=Y1 at *;generalize hY2:y.drop (mid-k)=Y2 at *;have hl3:p.length+X1.length+X2.length+Y1.length+Y2.length+s.length≤1000000:=by omega
  have s2:nJ (Du f) (p++x++y++s) (a:Int) (m:Int) (b:Int) aO (k:Int)=lK (Du f) (a:Int) (m:Int) (b:Int) aO (k:Int) (p++X1++Y1++X2++Y2++s):=by
   rw [ex,ey];unfold nJ;rw [emw,ewn,een];by_cases q1:k<m
   ·rw [decide_eq_true (by omega),cond_true];unfold nI;rw [emw,ewn,een];by_cases q2:m<mid+m-k
    ·rw [decide_eq_true (by omega),cond_true];have hr:=LG aO (p:=p++X1) (x:=X2) (y:=Y1) (s:=Y2++s) (by omega) (by omega) (by simp; omega);rw [bL,show p.length+X1.length=k by omega,show k+X2.length=m by omega,show m+Y1.length=mid+m-k by omega] at hr;rw [show p++(X1++X2)++(Y1++Y2)++s=p++X1++X2++Y1++(Y2++s) by simp [eT],hr,aq];simp [eT]
    ·have:Y1=[]:=rF.1 (by omega);rw [decide_eq_false (by omega),cond_false,this];simp [eT]
   ·have:X2=[]:=rF.1 (by omega);rw [decide_eq_false (by omega),cond_false,this];unfold nI;rw [cond_false];simp [eT]
  obtain⟨z1,s3,pz1,sz1⟩:∃ z1,lK (Du f) (a:Int) (m:Int) (b:Int) aO (k:Int) (p++X1++Y1++X2++Y2++s)=lJ (Du f) (a:Int) (m:Int) (b:Int) aO (k:Int) (p++z1++X2++Y2++s)∧z1.Perm (X1++Y1)∧sN z1:=by
   unfold lK;rw [emw];by_cases q1:a<k
   ·rw [decide_eq_true (by omega),cond_true];unfold nH;rw [emw];by_cases q2:k<mid
    ·rw [decide_eq_true (by omega),cond_true];obtain⟨z,z1,z2,z3⟩:=DZ f p X1 Y1 (X2++Y2++s) cx1 cy1 px.1 py.1 (by omega) (by omega) (by omega) (by simp; omega);rw [← ea,show a+X1.length=k by omega,show k+Y1.length=mid by omega] at z1;refine⟨z,?_,z2,z3⟩;rw [show p++X1++Y1++X2++Y2++s=p++X1++Y1++(X2++Y2++s) by simp [eT],z1,aq];simp [eT]
    ·have:Y1=[]:=rF.1 (by omega);rw [decide_eq_false (by omega),cond_false,this];exact⟨X1,by simp [eT],by simp,px.1⟩
   ·have:X1=[]:=rF.1 (by omega);rw [decide_eq_false (by omega),cond_false,this];unfold nH;rw [cond_false];exact⟨Y1,by simp [eT],by simp,py.1⟩
  obtain⟨z2,s4,pz2,sz2⟩:∃ z2,lJ (Du f) (a:Int) (m:Int) (b:Int) aO (k:Int) (p++z1++X2++Y2++s)=some (p++z1++z2++s)∧z2.Perm (X2++Y2)∧sN z2:=by
   have lz:=pz1.length_eq;rw [bL] at lz;unfold lJ;rw [emw,ewn,een];by_cases q1:mid<mid+m-k
   ·rw [decide_eq_true (by omega),cond_true];unfold nG;rw [emw,ewn,een];by_cases q2:mid+m-k<b
    ·rw [decide_eq_true (by omega),cond_true];obtain⟨z,g1,g2,g3⟩:=DZ f (p++z1) X2 Y2 s cx2 cy2 px.2.1 py.2.1 (by omega) (by omega) (by omega) (by simp; omega);rw [bL,show p.length+z1.length=mid by omega,show mid+X2.length=mid+m-k by omega,show mid+m-k+Y2.length=b by omega] at g1;exact⟨z,by rw [g1]; rfl,g2,g3⟩
    ·have:Y2=[]:=rF.1 (by omega);rw [decide_eq_false (by omega),cond_false,this];exact⟨X2,by simp,by simp,px.2.1⟩
   ·have:X2=[]:=rF.1 (by omega);rw [decide_eq_false (by omega),cond_false,this];unfold nG;rw [cond_false];exact⟨Y2,by simp,by simp,py.2.1⟩
  refine⟨z1++z2,?_,?_,sN.app sz1 sz2 fun r hr q hq=>?_⟩
  ·rw [s1,s2,s3,s4]; simp [eT]
  ·rw [ex,ey];refine (pz1.append pz2).trans ?_;rw [eT,eT];refine List.Perm.append_left X1 ?_;rw [← eT,← eT];exact List.Perm.append_right Y2 List.perm_append_comm
  ·rcases dc.1 (pz1.mem_iff.1 hr) with hr | hr <;> rcases dc.1 (pz2.mem_iff.1 hq) with hq | hq
   ·exact px.2.2 r hr q hq
   ·exact k4 r hr q hq
   ·exact k5 r hr q hq
   ·exact py.2.2 r hr q hq
end
section
open Go.RowKit
open Go.Lib hiding intOf
theorem Ez {p:List ab} {e:ab} (he:kq e):∀ (N:Nat) (u v s:List ab),u.length=N→(∀ r∈u,kq r)→sN (u++v)→(∀ r∈v,kd e r≤0)→(p++u++e::(v++s)).length≤1000000 →
  ∃ z,loop (fun t:(List ab)×Int=>ci (p.length:Int) aO t.1 t.2) (p++u++e::(v++s),((p.length+u.length:Nat):Int))=some (p++z++s)∧z.Perm (e::(u++v))∧sN z
 | 0,u,v,s,hN,hu,hs,hv,hl=>by
  have:u=[]:=rF.1 hN;subst this;refine⟨e::v,(cN (r:=p++e::(v++s)) ?_).trans (by simp),Dp _,si.2 ⟨hv,hs⟩⟩;dsimp only;unfold ci;rw [decide_eq_false (by simp only [jR]; omega),cond_false]; simp
 | N+1,u,v,s,hN,hu,hs,hv,hl=>by
  obtain⟨u',b,rfl⟩:∃ u' b,u=u'++[b]:=⟨u.dropLast,u.getLast (by intro h; rw [h] at hN; cases hN),(List.dropLast_concat_getLast _).symm⟩;simp only [bL,d8,jR] at hN hl;have e1:IntKind.i64.wrap (((p.length+(u'++[b]).length:Nat):Int)-1)=((p.length+u'.length:Nat):Int):=by rw [bL,gM (by simp only [nN]; omega) (by simp only [nN]; omega)]; simp only [nN]; omega
  have g0:(p++(u'++[b])++e::(v++s))[p.length+(u'++[b]).length]? = some e:=by
   rw [lN (by simp)]; simp
  have g1:(p++(u'++[b])++e::(v++s))[p.length+u'.length]? = some b:=by
   rw [lM (by simp),lN (by omega)]; simp
  have hb:kq b:=hu b (by simp);by_cases hc:kd e b<0
  ·have eb:ci (p.length:Int) aO (p++(u'++[b])++e::(v++s)) ((p.length+(u'++[b]).length:Nat):Int)=some (.go (p++u'++e::((b::v)++s),((p.length+u'.length:Nat):Int))):=by
    unfold ci;rw [decide_eq_true (by rw [bL]; simp only [nN]; omega),cond_true,e1,aM,aM,g0,aq,g1,aq,qK he hb,aq,decide_eq_true hc,cond_true,aq,aq,aq,pQ,pQ,aM,ov (by rw [bL]; simp only [nN]; omega),g1,aq];congr 2;refine Prod.ext ?_ rfl;dsimp only;have ek:p.length+(u'++[b]).length=(p++(u'++[b])).length:=by simp
    rw [ek,tj _ _ (ce _),ui];rw [show p++(u'++[b])++(e::(v++s)).set 0 b=(p++u')++(b::b::(v++s)) by simp,show p.length+u'.length=(p++u').length by simp,tj _ _ (ce _),ui];simp
   obtain⟨z,z1,z2,z3⟩:=Ez (p:=p) he N u' (b::v) s (by omega) (fun r hr=>hu r (by simp [hr])) (by rw [List.append_cons]; exact hs) (fun r hr=>by
    rcases ee.1 hr with hr | hr
    ·rw [hr]; omega
    ·exact hv r hr) (by simp only [bL,d8]; omega)
   refine⟨z,by rw [jh (s':=(p++u'++e::((b::v)++s),((p.length+u'.length:Nat):Int))) eb]; exact z1,?_,z3⟩;rw [← List.append_cons];exact z2
  ·refine⟨(u'++[b])++e::v,(cN (r:=p++(u'++[b])++e::(v++s)) ?_).trans (by simp [eT]),List.perm_middle,?_⟩
   ·dsimp only;unfold ci;rw [decide_eq_true (by rw [bL]; simp only [nN]; omega),cond_true,e1,aM,aM,g0,aq,g1,aq,qK he hb,aq,decide_eq_false hc,cond_false]
   ·have h1:=oF.1 hs;have h2:=oF.1 h1.1;have hbe:kd b e≤0:=by rw [lj]; omega
    refine sN.app h1.1 (si.2 ⟨hv,h1.2.1⟩) fun r hr q hq=>?_;rcases ee.1 hq with rfl | hq
    ·rcases dc.1 hr with hr | hr
     ·exact lY (h2.2.2 r hr b (by simp)) hbe
     ·rw [kG.1 hr]; exact hbe
    ·exact h1.2.2 r hr q hq
theorem Bw {p x s:List ab} (hx:∀ r∈x,kq r) (hl:(p++x++s).length≤1000000):∃ z,b7 aO (p++x++s) (p.length:Int) ((p.length+x.length:Nat):Int)=some (p++z++s)∧z.Perm x∧sN z:=by
 have hl2:p.length+x.length+s.length≤1000000:=by simpa [sJ] using hl
 have key:Ok (b7 aO (p++x++s) (p.length:Int) ((p.length+x.length:Nat):Int)) fun r=>∃ z,r=p++z++s∧z.Perm x∧sN z:=by
  unfold b7;refine bG (fun n t=>t.2=((p.length+n+1:Nat):Int)∧∃ z,t.1=p++z++(x.drop (n+1)++s)∧z.Perm (x.take (n+1))∧sN z) (fun r=>∃ z,r=p++z++s∧z.Perm x∧sN z) x.length ⟨cc (by omega),x.take 1,by show p++x++s=p++x.take 1++(x.drop 1++s); rw [← eT (p++_),eT p (x.take 1),qi],Dp _,?_⟩ (fun n t hn hI=>?_) (fun r hr=>ap hr)
  ·cases x with
   | nil=>exact uL
   | cons a x=>exact HW _ _
  ·obtain⟨d,i⟩:=t;obtain⟨h1,z,h2,h3,h4⟩:=hI;dsimp only at h1 h2 ⊢;subst h1 h2;have hz:=h3.length_eq;rw [dh] at hz;unfold fJ;by_cases hlt:n+1<x.length
   ·have hd:x.drop (n+1)=x[n+1]::x.drop (n+1+1):=Ea hlt;rw [decide_eq_true (by omega),cond_true,hd];obtain⟨w,w1,w2,w3⟩:=Ez (p:=p) (hx _ (ge hlt)) _ z [] (x.drop (n+1+1)++s) rfl (fun r hr=>hx r (tx (h3.mem_iff.1 hr))) (by rw [pT]; exact h4) (fun r hr=>absurd hr ou) (by simp only [bL,d8,jR,pS]; omega);rw [show p.length+z.length=p.length+n+1 by omega] at w1;rw [List.cons_append,rW] at *;rw [w1,aq];unfold iB;refine ap ⟨by omega,by show IntKind.i64.wrap (((p.length+n+1:Nat):Int)+1)=_; rw [cc (by omega)]; rfl,w,rfl,?_,w3⟩;rw [bw (bq hlt)];rw [pT] at w2;exact w2.trans ((HY _ _).symm.trans (h3.append_right _))
   ·rw [decide_eq_false (by omega),cond_false];have e1:x.drop (n+1)=[]:=List.drop_eq_nil_of_le (by omega);have e2:x.take (n+1)=x:=xD (by omega);rw [e1,rW];rw [e2] at h3;exact ap ⟨z,rfl,h3,h4⟩
 obtain⟨r,e,z,rfl,h⟩:=key;exact⟨z,e,h⟩
end
end Go.Proofs.YtdcojaccpnabkaaGreatDoor
