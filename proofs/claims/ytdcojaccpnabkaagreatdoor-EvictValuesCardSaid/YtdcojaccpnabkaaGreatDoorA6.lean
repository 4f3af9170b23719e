/- Texts of the proof, joined (6). -/
import Derived.Test.YtdcojaccpnabkaaGreatDoorA1
import Derived.Test.YtdcojaccpnabkaaGreatDoorA5
import Derived.Test.YtdcojaccpnabkaaGreatDoorA2
import Derived.Test.YtdcojaccpnabkaaGreatDoorA4
import Derived.Test.YtdcojaccpnabkaaGreatDoorA3
import Derived.Test.YtdcojaccpnabkaaGreatDoorA0
import Derived.Test.YtdcojaccpnabkaaGreatDoorRows
import Derived.ProofKit
import Derived.LaidMore
import Derived.LaidLaws
import Derived.MakeChecks
import Derived.Lib.LaidTab
import Derived.SizedLaws
import Derived.Deep.Slices
import Derived.Deep.Fields
import Derived.Lib.SmallJoins
import Derived.OpenShut
import GoSem.ClaimGoes
set_option linter.unusedVariables false
set_option linter.unusedSimpArgs false
set_option linter.unusedSectionVars false
namespace Go.Proofs.YtdcojaccpnabkaaGreatDoor
section
set_option maxRecDepth 100000
set_option maxHeartbeats 4000000
open Go.RowKit
noncomputable section
def mX (b:LR):Option LR:=some (b)
def mY (b:Int) (c:LR):Option (Fl (LR×Int) (LR)):=some (.go (c,IntKind.i64.wrap (b*2)))
def ko (b:Int) (c:LR):Option (Fl (LR×Int) (LR)):=mY b c
def kp (e:Int) (f:ad→ad→Option Int) (b:Int) (d:LR) (c:Int):Option (Fl (LR×Int) (LR)):=cond (decide ((IntKind.i64.wrap (c+b):Int)<e)) ((sm f d c (IntKind.i64.wrap (c+b)) e).bind fun g=>ko b g) (ko b d)
def mZ (h:Int) (f:ad→ad→Option Int) (d:Int) (e:LR) (c:Int) (b:Int):Option (Fl (LR×Int×Int) (LR×Int)):=cond (decide (b≤h)) ((sm f e c (IntKind.i64.wrap (c+d)) b).bind fun g=>some (.go (g,b,IntKind.i64.wrap (b+(IntKind.i64.wrap (2*d)))))) (some (.out (e,c)))
def gX (e:Int) (c:ad→ad→Option Int) (d:LR) (b:Int):Option (Fl (LR×Int) (LR)):=cond (decide (b<e)) ((loop (fun s:LR×Int×Int=>mZ e c b s.1 s.2.1 s.2.2) (d,0,IntKind.i64.wrap (2*b))).bind fun r=>kp e c b r.1 r.2) (some (.out d))
def gW (c:Int) (b:ad→ad→Option Int) (e:LR) (d:Int):Option LR:=(jq b e d c).bind fun f=>(loop (fun s:LR×Int=>gX c b s.1 s.2) (f,20)).bind fun r=>mX r
def gY (g:Int) (e:ad→ad→Option Int) (d:LR) (c:Int) (b:Int):Option (Fl (LR×Int×Int) (LR×Int)):=cond (decide (b≤g)) ((jq e d c b).bind fun f=>some (.go (f,b,IntKind.i64.wrap (b+20)))) (some (.out (d,c)))
def nz (b:ad→ad→Option Int) (c:LR) (d:Int):Option LR:=(loop (fun s:LR×Int×Int=>gY d b s.1 s.2.1 s.2.2) (c,0,20)).bind fun r=>gW d b r.1 r.2
theorem wd (T:Nat→Prop) (W0:World) (hT:TW T W0) (cmp_g:Nat) (h:aP aO cmp_g=true) (cmp_k:ba) (cmp_P:bG) (f:ad→ad→Option Int) (l:∀ (T:Nat→Prop) (W0:World) (hT:TW T W0) (hLv:dc T W0) (hP:cmp_P.p T W0) (x0:ad) (x1:ad) (W:Value) (b4:aC ac T W0 W x0.Reads) (X:Value) (b5:aC ac T W0 X x1.Reads) (y:Int) (hM:f x0 x1=some y),a7 aO No cmp_g ([.agg (aE x0 W).toArray,.agg (aE x1 X).toArray]++cmp_k) W0 (fun v w'=>v=al y)) (L:LR) (e:Int) (b:Value) (di:ba) (hD:tU T W0 [ah b di]) (ak:az aa (dT T [ah b di]) W0 di L) (hLv:dc (dT T [ah b di]) W0) (hPcmp_:cmp_P.p (dT T [ah b di]) W0) (y:LR) (hM:nz f L e=some y):a7 aO (MD [ah b di]) 69 [b,al e,.func (.func cmp_g) #[] cmp_k.toArray] W0 (fun v w'=>∃ (iN:ba),v = .tuple #[]∧lK W0 w' [ah b di] [ah b iN]∧az aa (dT T [ah b iN]) w' iN y):=by
 refine eL (c:=_) Tryz.func69 rfl T 63 Tryz.ntmps69 hT rfl hD fun a hS=>?_;replace hS:=((hS.fact cmp_P hPcmp_).fact br hLv).fR ak;unfold nz at hM;refine am hS fun a hS=>?_;refine aK (J:=fun a w=>∃ (x:LR) (q:Int) (z:LV),St W0 (MD [ah b di]) T 63 [(0,b),(1,al e),(2,.func (.func cmp_g) #[] cmp_k.toArray),(6,al 20),(7,al q)] [ah b z] [an aa z x,br,cmp_P] a w∧gW e f x q=some y) ?_ ?_
 ·skip;refine am hS fun a hS=>?_;obtain⟨r1,Q,hMo1⟩:=bd hM;refine bx _ (fun s a w=>∃ (k:LR) (i:Int) (o:Int) (A:LV),(k,i,o)=s∧St W0 (MD [ah b di]) T 63 [(0,b),(1,al e),(2,.func (.func cmp_g) #[] cmp_k.toArray),(6,al 20),(7,al i),(8,al o)] [ah b A] [an aa A k,br,cmp_P] a w) Q ⟨_,_,_,_,rfl,hS.mt [0] [0,1,2]⟩ ?_;rintro s a w K ⟨k,i,o,A,rfl,hS⟩ hM hf1;have hM:gY e f k i o=some K:=hM;unfold gY at hM;refine ay ?_;refine am hS fun a hS=>?_;rcases cd hM with⟨Y,hM⟩|⟨Y,hM⟩
  ·refine am hS fun a hS=>?_;obtain⟨bi,V,hM⟩:=bd hM;replace hS:=hS.re [0] [];refine wl rfl (bv hS Hk rfl rfl (qd _ _ hS.dltD cmp_g h cmp_k cmp_P f l k i o _ _ hS.dok (hS.getD 0 rfl) (hS.getD 1 rfl) (hS.getD 2 rfl) _ V) fun _ w hR a hk hA=>?_);obtain⟨av,he,Z,M⟩:=hR;obtain rfl:=he.symm;have hS:=hA _ Z;replace hS:=hS.fR (M.keep (aj _ _) (ap _));exact fz
  refine am hS fun a hS=>?_;cases hM
  have hr:=hf1 _ rfl;subst hr;have hM:gW e f k i=some y:=hMo1;exact⟨_,_,_,hS.mt [0] [0,1,2],hM⟩
 rintro a w ⟨x,q,z,hS,hM⟩;unfold gW at hM;refine am hS fun a hS=>?_;obtain⟨bb,U,hM⟩:=bd hM;replace hS:=hS.re [0] [];refine wl rfl (bv hS Hk rfl rfl (qd _ _ hS.dltD cmp_g h cmp_k cmp_P f l x q e _ _ hS.dok (hS.getD 0 rfl) (hS.getD 1 rfl) (hS.getD 2 rfl) _ U) fun _ w hR a hk hA=>?_);obtain⟨b0,he,a0,N⟩:=hR;obtain rfl:=he.symm;have hS:=hA _ a0;replace hS:=hS.fR (N.keep (aj _ _) (ap _));refine GJ hS fun a hS=>?_;refine xq (J:=fun a w=>∃ (G:LR) (r:LV),St W0 (MD [ah b di]) T 63 [] [ah b r] [an aa r G,br,cmp_P] a w∧mX G=some y) ?_ ?_
 ·skip;refine am hS fun a hS=>?_;obtain⟨r1,Q,hMo1⟩:=bd hM;refine bx _ (fun s a w=>∃ (u:LR) (d:Int) (B:LV),(u,d)=s∧St W0 (MD [ah b di]) T 63 [(0,b),(1,al e),(2,.func (.func cmp_g) #[] cmp_k.toArray),(6,al d)] [ah b B] [an aa B u,br,cmp_P] a w) Q ⟨_,_,_,rfl,hS.mt [0] [0,2,3]⟩ ?_;rintro s a w K ⟨u,d,B,rfl,hS⟩ hM hf1;have hM:gX e f u d=some K:=hM;unfold gX at hM;refine ay ?_;refine am hS fun a hS=>?_;rcases cd hM with⟨a1,hM⟩|⟨a1,hM⟩
  ·refine GJ hS fun a hS=>?_;refine xq (J:=fun a w=>∃ (H:LR) (C:LV),St W0 (MD [ah b di]) T 63 [(0,b),(1,al e),(2,.func (.func cmp_g) #[] cmp_k.toArray),(6,al (IntKind.i64.wrap (d*2)))] [ah b C] [an aa C H,br,cmp_P] a w∧mY d H=some K) ?_ ?_
   ·skip;refine am hS fun a hS=>?_;refine aK (J:=fun a w=>∃ (t:LR) (m:Int) (D:LV),St W0 (MD [ah b di]) T 63 [(0,b),(1,al e),(2,.func (.func cmp_g) #[] cmp_k.toArray),(6,al d),(7,al m)] [ah b D] [an aa D t,br,cmp_P] a w∧kp e f d t m=some K) ?_ ?_
    ·skip;refine am hS fun a hS=>?_;obtain⟨r2,ag,hMo2⟩:=bd hM;refine bx _ (fun s a w=>∃ (j:LR) (g:Int) (n:Int) (E:LV),(j,g,n)=s∧St W0 (MD [ah b di]) T 63 [(0,b),(1,al e),(2,.func (.func cmp_g) #[] cmp_k.toArray),(6,al d),(7,al g),(8,al n)] [ah b E] [an aa E j,br,cmp_P] a w) ag ⟨_,_,_,_,rfl,hS.mt [0] [0,1,2]⟩ ?_;rintro s a w f2 ⟨j,g,n,E,rfl,hS⟩ hM hf2;have hM:mZ e f d j g n=some f2:=hM;unfold mZ at hM;refine ay ?_;refine am hS fun a hS=>?_;rcases cd hM with⟨a2,hM⟩|⟨a2,hM⟩
     ·refine am hS fun a hS=>?_;obtain⟨b9,S,hM⟩:=bd hM;replace hS:=hS.re [0] [];refine wl rfl (bv hS Cm rfl rfl (J1 _ _ hS.dltD cmp_g h cmp_k cmp_P f l j g (IntKind.i64.wrap (g+d)) n _ _ hS.dok (hS.getD 0 rfl) (hS.getD 1 rfl) (hS.getD 2 rfl) _ S) fun _ w hR a hk hA=>?_);obtain⟨b1,he,a3,O⟩:=hR;obtain rfl:=he.symm;have hS:=hA _ a3;replace hS:=hS.fR (O.keep (aj _ _) (ap _));exact fz
     refine am hS fun a hS=>?_;cases hM
     have hr:=hf2 _ rfl;subst hr;have hM:kp e f d j g=some K:=hMo2;exact⟨_,_,_,hS.mt [0] [0,1,2],hM⟩
    rintro a w ⟨t,m,D,hS,hM⟩;unfold kp at hM;refine aK (J:=fun a w=>∃ (I:LR) (F:LV),St W0 (MD [ah b di]) T 63 [(0,b),(1,al e),(2,.func (.func cmp_g) #[] cmp_k.toArray),(6,al d)] [ah b F] [an aa F I,br,cmp_P] a w∧ko d I=some K) ?_ ?_
    ·skip;refine am hS fun a hS=>?_;rcases cd hM with⟨a4,hM⟩|⟨a4,hM⟩
     ·refine am hS fun a hS=>?_;obtain⟨b8,R,hM⟩:=bd hM;replace hS:=hS.re [0] [];refine wl rfl (bv hS Cm rfl rfl (J1 _ _ hS.dltD cmp_g h cmp_k cmp_P f l t m (IntKind.i64.wrap (m+d)) e _ _ hS.dok (hS.getD 0 rfl) (hS.getD 1 rfl) (hS.getD 2 rfl) _ R) fun _ w hR a hk hA=>?_);obtain⟨b2,he,a5,P⟩:=hR;obtain rfl:=he.symm;have hS:=hA _ a5;replace hS:=hS.fR (P.keep (aj _ _) (ap _));exact fz
     exact fz
    rintro a w ⟨I,F,hS,hM⟩;unfold ko at hM;exact fz
   rintro a w ⟨H,C,hS,hM⟩;unfold mY at hM;exact⟨_,(bO hM).symm,_,_,_,rfl,hS.mt [0] [0,1,2]⟩
  exact fz
 rintro a w ⟨G,r,hS,hM⟩;unfold mX at hM;refine xV ?_;cases hM
 refine aG hS Tryz.results69 aF ?_;have hZ:=hS.sl [0] [0];exact⟨r,rfl,hZ.dnew,(hZ.get 0 rfl)⟩
def ga (c:ad→ad→Option Int) (b:LR):Option LR:=(nz c b (b.length:Int)).bind fun d=>some (d)
theorem sU (T:Nat→Prop) (W0:World) (hT:TW T W0) (cmp_g:Nat) (g:aP aO cmp_g=true) (cmp_k:ba) (cmp_P:bG) (d:ad→ad→Option Int) (h:∀ (T:Nat→Prop) (W0:World) (hT:TW T W0) (hLv:dc T W0) (hP:cmp_P.p T W0) (n:ad) (o:ad) (j:Value) (r:aC ac T W0 j n.Reads) (k:Value) (s:aC ac T W0 k o.Reads) (y:Int) (hM:d n o=some y),a7 aO No cmp_g ([.agg (aE n j).toArray,.agg (aE o k).toArray]++cmp_k) W0 (fun v w'=>v=al y)) (e:LR) (b:Value) (di:ba) (hD:tU T W0 [ah b di]) (q:az aa (dT T [ah b di]) W0 di e) (hLv:dc (dT T [ah b di]) W0) (hPcmp_:cmp_P.p (dT T [ah b di]) W0) (y:LR) (hM:ga d e=some y):a7 aO (MD [ah b di]) 41 [b,.func (.func cmp_g) #[] cmp_k.toArray] W0 (fun v w'=>∃ (iN:ba),v = .tuple #[]∧lK W0 w' [ah b di] [ah b iN]∧az aa (dT T [ah b iN]) w' iN y):=by
 refine eL (c:=_) Tryz.func41 rfl T 9 Tryz.ntmps41 hT rfl hD fun a hS=>?_;replace hS:=((hS.fact cmp_P hPcmp_).fact br hLv).fR q;unfold ga at hM;refine am hS fun a hS=>?_;obtain⟨t,i,hM⟩:=bd hM;replace hS:=hS.re [0] [];refine wl rfl (bv hS Ld rfl rfl (wd _ _ hS.dltD cmp_g g cmp_k cmp_P d h e (e.length:Int) _ _ hS.dok (hS.getD 0 rfl) (hS.getD 1 rfl) (hS.getD 2 rfl) _ i) fun _ w hR a hk hA=>?_);obtain⟨l,he,m,f⟩:=hR;obtain rfl:=he.symm;have hS:=hA _ m;replace hS:=hS.fR (f.keep (aj _ _) (ap _));refine am hS fun a hS=>?_;refine xV ?_;cases hM
 refine aG hS Tryz.results41 aF ?_;have hZ:=hS.sl [0] [0];exact⟨l,rfl,hZ.dnew,(hZ.get 0 rfl)⟩
def cF (b:ad) (c:ad):Option Int:=(ia b).bind fun d=>(ia c).bind fun e=>(jl (IntKind.i64.wrap (b.Cost*e)) (IntKind.i64.wrap (c.Cost*d))).bind fun f=>(jl e d).bind fun g=>(qL b.Key c.Key).bind fun h=>(rP ([f,g,h])).bind fun i=>some (i)
theorem vY (T:Nat→Prop) (W0:World) (hT:TW T W0) (hLv:dc T W0) (e:ad) (f:ad) (q:Value) (r:Value) (o:aC ac T W0 q e.Reads) (p:aC ac T W0 r f.Reads) (y:Int) (hM:cF e f=some y):a7 aO No 42 [.agg (aE e q).toArray,.agg (aE f r).toArray] W0 (fun v w'=>v=al y):=by
 refine en Tryz.func42 Tryz.ntmps42 hT fun a hS=>?_;replace hS:=((hS.fact br (dc.dn hLv)).fS (aC.dn o)).fS (aC.dn p);unfold cF at hM;refine am hS fun a hS=>?_;refine kb hS fun s z a w hk hS=>?_;refine kb hS fun t A a w hk hS=>?_;refine am hS fun a hS=>?_;refine ay ?_;refine dr [] hS fun w hQ hS=>?_;refine gE [0,2] hS fun a hS=>?_;obtain⟨g,i,hM⟩:=bd hM;refine ec 1 hS F8 (nk _ _ hS.dlt e _ (hS.get 1 rfl) _ i) fun _ w hR a hk hA=>?_;obtain rfl:=hR;have hS:=ce hA;obtain⟨h,j,hM⟩:=bd hM;refine ec 3 hS F8 (nk _ _ hS.dlt f _ (hS.get 0 rfl) _ j) fun _ w hR a hk hA=>?_;obtain rfl:=hR;have hS:=ce hA;refine gE [4,5] hS fun a hS=>?_;refine eD ?_;refine am hS fun a hS=>?_;refine ay ?_;refine dr [] hS fun w hQ hS=>?_;refine gE [0,1,2,3,4,5,6,7,9,10,12,13,14,15] hS fun a hS=>?_;obtain⟨b,k,hM⟩:=bd hM;refine ec 8 hS H3 (pP _ _ hS.dlt (IntKind.i64.wrap (e.Cost*h)) (IntKind.i64.wrap (f.Cost*g)) _ k) fun _ w hR a hk hA=>?_;obtain rfl:=hR;have hS:=ce hA;obtain⟨c,l,hM⟩:=bd hM;refine ec 11 hS H3 (pP _ _ hS.dlt h g _ l) fun _ w hR a hk hA=>?_;obtain rfl:=hR;have hS:=ce hA;obtain⟨d,m,hM⟩:=bd hM;refine ec 16 hS H4 (uX _ _ hS.dlt (hS.get 2 rfl) e.Key f.Key _ m) fun _ w hR a hk hA=>?_;obtain rfl:=hR;have hS:=ce hA;refine e1 17 (bj (ps:=[(0,.tmp 19),(1,.tmp 22),(2,.tmp 27)]) hS EA KD (zl:=[al 0,al 0,al 0]) (by kernel_rfl) rfl (us:=[[al b],[al c],[al d]]) ⟨rfl,⟨rfl,⟨rfl,trivial⟩⟩⟩ (ws:=[al b,al c,al d]) rfl rfl rfl rfl fun u a w hk hS=>⟨fA (hk),?_⟩);replace hS:=hS.lit (R:=(aR.int .i64)) (us:=[al b,al c,al d]) (xs:=[b,c,d]) 0 rfl (by decide) ((az.one_ (R:=(aR.int .i64)) (x:=b) rfl).append ((az.one_ (R:=(aR.int .i64)) (x:=c) rfl).append (az.one_ (R:=(aR.int .i64)) (x:=d) rfl))) rfl rfl;have hL:=hS;replace hL:=hL.freeze (R:=(aR.int .i64)) 0 rfl 0 rfl;obtain⟨B,n,hM⟩:=bd hM;refine ec 18 hS JO (Ai _ _ hL.dlt ([b,c,d]) _ (hL.get 0 rfl) _ n) fun _ w hR a hk hA=>?_;obtain rfl:=hR;have hS:=ce hA;refine gE [19] hS fun a hS=>?_;refine eD ?_;exact fz
def oN (b:LK):Option LK:=some (b)
def gC (e:LR) (c:LK) (b:Int):Option (Fl (LK×Int) (LK)):=cond (decide (b<(e.length:Int))) ((bk e b).bind fun d=>gd (bL (c.length+([d.Key]).length)) <| some (.go ((c++([d.Key])),IntKind.i64.wrap (b+1)))) (some (.out c))
def ly (d:LR):Option LK:=(jY d).bind fun c=>(ga cF c).bind fun b=>(loop (fun s:LK×Int=>gC b s.1 s.2) (([]:List ae),0)).bind fun r=>oN r
theorem xU (T:Nat→Prop) (W0:World) (hT:TW T W0) (hLv:dc T W0) (q:LR) (P:Value) (O:aC aa T W0 P q) (y:LK) (hM:ly q=some y):a7 aO No 17 [P] W0 (fun v w'=>∃ (M:Value) (iN:ba),v=M∧ge ac T W0 w' [ax M iN] 31 M iN y):=by
 refine en Tryz.func17 Tryz.ntmps17 hT fun a hS=>?_;replace hS:=(hS.fact br (dc.dn hLv)).fS (aC.dn O);unfold ly at hM;refine am hS fun a hS=>?_;obtain⟨K,z,hM⟩:=bd hM;refine kc hS JN (rO _ _ hS.dlt q _ (hS.get 0 rfl) _ z) fun _ w hR a hk hA=>?_;obtain⟨r,X,he,p⟩:=hR;obtain rfl:=he.symm;have hS:=pz hA p;refine am hS fun a hS=>?_;obtain⟨l,u,hM⟩:=bd hM;replace hS:=hS.re [0] [];refine wl rfl (bv hS KX rfl rfl (sU _ _ hS.dltD 42 KY [] Aa cF (fun T W0 hT hLv _ x0 x1 Q H S I y hM=>vY T W0 hT hLv x0 x1 Q S H I y hM) K _ _ hS.dok (hS.getD 0 rfl) (hS.getD 2 rfl) trivial _ u) fun _ w hR a hk hA=>?_);obtain⟨n,he,B,o⟩:=hR;obtain rfl:=he.symm;have hS:=hA _ B;replace hS:=hS.fR (o.keep (aj _ _) (ap _));refine am hS fun a hS=>?_;refine aK (J:=fun a w=>∃ (j:LK) (f:Value) (d:LV),St W0 No T 24 [(4,f)] [ax f d] [an ac d j,br] a w∧oN j=some y) ?_ ?_
 ·skip;refine am hS fun a hS=>?_;replace hS:=hS.nilRow ac 31 (by decide);obtain⟨r1,N,hMo1⟩:=bd hM;refine bx _ (fun s a w=>∃ (c:LK) (e:Int) (m:Value) (g:LV),(c,e)=s∧St W0 No T 24 [(4,m),(11,r),(12,al (l.length:Int)),(13,al e)] [ax m g,ah r n] [an ac g c,an aa n l,br] a w) N ⟨_,_,_,_,rfl,hS.mt [0,1] [0,1,4]⟩ ?_;rintro s a w f1 ⟨c,e,m,g,rfl,hS⟩ hM hf1;have hM:gC l c e=some f1:=hM;unfold gC at hM;refine am hS fun a hS=>?_;refine ay ?_;rcases cd hM with⟨C,hM⟩|⟨C,hM⟩
  ·refine am hS fun a hS=>?_;refine ay ?_;refine am hS fun a hS=>?_;obtain⟨b,t,hM⟩:=bd hM;refine wl rfl (c7 (R:=aa) hS dW bX rfl rfl 1 rfl 1 rfl t rfl fun U a2 a3 Y D E F a hS=>?_);obtain⟨L,rfl,A⟩:=D;replace hS:=hS.fS A;refine qy hS (bq (k:=0) hS bX 1 rfl E F rfl id (us:=(aE b L)) rfl rfl (fun h=>by cases h)) fun a hS=>?_;refine ka hS dD fun V a1 a w hk hS=>?_;refine go hS fun a w hS=>?_;refine wl rfl (bj (ps:=[(0,.tmp 19)]) hS gh fE (zl:=[al 0,aZ bW]) (by kernel_rfl) rfl (us:=[(aV b.Key)]) ⟨rfl,trivial⟩ (ws:=(aV b.Key)) rfl rfl rfl rfl fun W a w hk hS=>?_);replace hS:=(hS.lit (R:=ac) (us:=(aV b.Key)) (xs:=[b.Key]) 0 rfl (by decide) (az.one_ (R:=ac) (x:=b.Key) rfl) rfl rfl).freeze (R:=ac) 0 rfl 0 rfl;obtain⟨G,hM⟩:=bm hM;refine wl rfl (bB (R:=ac) (xs:=c) (ys:=[b.Key]) hS gh (by decide) (by decide) rfl rfl 1 rfl 3 rfl 0 rfl G rfl fun a4 Z a w hk hS=>?_);exact fz
  exact fz
 rintro a w ⟨j,f,d,hS,hM⟩;unfold oN at hM;refine am hS fun a hS=>?_;cases hM
 refine aG hS rfl (aw hS rfl aF) ?_;exact⟨f,d,rfl,hS.retOwn ⟨.inr (aH (i:=0) rfl),trivial⟩ 0 rfl 0 rfl⟩
def qH:Option Int:=some ((-1))
def io (d:LK) (e:ae) (b:Int):Option (Fl (Int) (Fl (Unit) Int)):=cond (decide (b<(d.length:Int))) ((bk d b).bind fun c=>cond (e.Kind==c.Kind&&e.Text.toList==c.Text.toList) (some (.out (.out b))) (some (.go (IntKind.i64.wrap (b+1))))) (some (.out (.go ())))
def sG (b:LK) (c:ae):Option Int:=(loop (fun s:Int=>io b c s) 0).bind fun r=>Fl.el r (fun s=>qH) (fun y=>some (y))
theorem AD (T:Nat→Prop) (W0:World) (hT:TW T W0) (d:LK) (b:ae) (h:Value) (o:aC ac T W0 h d) (y:Int) (hM:sG d b=some y):a7 aO No 78 [h,.agg (aV b).toArray] W0 (fun v w'=>v=al y):=by
 refine en Tryz.func78 Tryz.ntmps78 hT fun a hS=>?_;replace hS:=hS.fS (aC.dn o);unfold sG at hM;refine am hS fun a hS=>?_;refine kb hS fun e r a w hk hS=>?_;refine am hS fun a hS=>?_;refine aK (J:=fun a w=>St W0 No T 19 [] [] [] a w∧qH=some y) ?_ ?_
 ·skip;refine am hS fun a hS=>?_;obtain⟨t,n,hMo1⟩:=bd hM;refine bx _ (fun s a w=>∃ (c:Int),c=s∧St W0 No T 19 [(0,h),(3,pt e 0),(7,al (d.length:Int)),(8,al c)] [.box e (aV b) 31] [aL ac h d] a w) n ⟨_,rfl,hS.mt [0] [0]⟩ ?_;rintro s a w q ⟨c,rfl,hS⟩ hM hf1;have hM:io d b c=some q:=hM;unfold io at hM;refine am hS fun a hS=>?_;refine ay ?_;rcases cd hM with⟨j,hM⟩|⟨j,hM⟩
  ·refine am hS fun a hS=>?_;refine ay ?_;refine am hS fun a hS=>?_;refine ay ?_;refine dr [] hS fun w hQ hS=>?_;refine gE [0,1,2] hS fun a hS=>?_;obtain⟨f,g,hM⟩:=bd hM;obtain⟨i,m,p,k,l,hS⟩:=m6 (R:=ac) hS mz eJ 0 rfl g;obtain rfl:=k;refine dy 3 (v:=pt i m) rfl (by kernel_rfl) (by kernel_rfl) (by kernel_rfl) rfl hQ hS (l rfl rfl) rfl rfl rfl fun a hS=>?_;refine gE [4] hS fun a hS=>?_;refine dy 5 (v:=.bool (b.Kind==f.Kind&&b.Text.toList==f.Text.toList)) rfl (by kernel_rfl) (by kernel_rfl) (by kernel_rfl) rfl hQ hS (zj hS rfl rfl) rfl rfl rfl fun a hS=>?_;refine eD ?_;exact fz
  exact fz
 rintro a w ⟨hS,hM⟩;unfold qH at hM;exact fz
def lQ (c:LK) (d:ae):Option Bool:=(sG c d).bind fun b=>some (decide ((0:Int)≤b))
theorem wJ (T:Nat→Prop) (W0:World) (hT:TW T W0) (b:LK) (c:ae) (f:Value) (e:aC ac T W0 f b) (y:Bool) (hM:lQ b c=some y):a7 aO No 49 [f,.agg (aV c).toArray] W0 (fun v w'=>v = .bool y):=by
 refine en Tryz.func49 Tryz.ntmps49 hT fun a hS=>?_;replace hS:=hS.fS (aC.dn e);unfold lQ at hM;refine am hS fun a hS=>?_;refine kb hS fun g h a w hk hS=>?_;refine am hS fun a hS=>?_;obtain⟨i,d,hM⟩:=bd hM;refine kc hS Lk (AD _ _ hS.dlt b c _ (hS.get 0 rfl) _ d) fun _ w hR a hk hA=>?_;obtain rfl:=hR;have hS:=ce hA;exact fz
def kK (c:ad) (b:ae):Option Bool:=some (c.Key.Kind==b.Kind&&c.Key.Text.toList==b.Text.toList)
theorem wa (T:Nat→Prop) (W0:World) (hT:TW T W0) (c:ad) (b:ae) (g:Value) (d:Nat) (f:aC ac T W0 g c.Reads) (e:(ji d 0 (aV b)).p T W0) (y:Bool) (hM:kK c b=some y):a7 aO No 80 [.agg (aE c g).toArray,pt d 0] W0 (fun v w'=>v = .bool y):=by
 refine en Tryz.func80 Tryz.ntmps80 hT fun a hS=>?_;replace hS:=(hS.fact (ji d 0 (aV b)) (bG.dn _ e)).fS (aC.dn f);unfold kK at hM;refine am hS fun a hS=>?_;refine kb hS fun h i a w hk hS=>?_;refine am hS fun a hS=>?_;refine wl rfl (ky (v:=.bool (c.Key.Kind==b.Kind&&c.Key.Text.toList==b.Text.toList)) hS (zj hS rfl rfl) rfl rfl fun a hS=>?_);exact fz
def nJ (c:LR) (f:ae):Option (ad×Bool):=(c6 (fun g=>kK g f) c).bind fun b=>cond (decide (b<0)) (some (((ad.mk (ae.mk 0 bW) bW ([]) 0 0 0 false),false))) ((bk c b).bind fun d=>(mM d).bind fun e=>some ((e,true)))
theorem x5 (T:Nat→Prop) (W0:World) (hT:TW T W0) (hLv:dc T W0) (e:LR) (c:ae) (u:Value) (t:aC aa T W0 u e) (y:ad×Bool) (hM:nJ e c=some y):a7 aO No 50 [u,.agg (aV c).toArray] W0 (fun v w'=>∃ (r:Value) (iN:ba),v = .tuple #[.agg (aE y.1 r).toArray,.bool y.2]∧ge ac T W0 w' [ax r iN] 31 r iN y.1.Reads):=by
 refine en Tryz.func50 Tryz.ntmps50 hT fun a hS=>?_;replace hS:=(hS.fact br (dc.dn hLv)).fS (aC.dn t);unfold nJ at hM;refine am hS fun a hS=>?_;refine kb hS fun b C a w hk hS=>?_;refine ka hS dD fun z D a w hk hS=>?_;refine am hS fun a hS=>?_;replace hS:=hS.freezeBox 1 rfl;refine qy hS (xz (vs:=[pt b 0]) hS rfl) fun a hS=>?_;obtain⟨F,g,hM⟩:=bd hM;refine kc hS H8 (n4 _ _ hS.dlt (hS.get 2 rfl) 80 Ll [pt b 0] (D4 (ji b 0 (aV c)) Aa) (fun s=>kK s c) (fun T W0 hT hLv hP s x p y hM=>wa T W0 hT s c x b p hP.1 y hM) ⟨(hS.get 0 rfl),trivial⟩ e _ (hS.get 1 rfl) _ g) fun _ w hR a hk hA=>?_;obtain rfl:=hR;have hS:=ce hA;refine am hS fun a hS=>?_;refine ay ?_;refine am hS fun a hS=>?_;rcases cd hM with⟨n,hM⟩|⟨n,hM⟩
 ·refine am hS fun a hS=>?_;refine qy hS (bp (ps:=[]) hS E4 dD rfl (us:=[]) trivial (ws:=[al 0,aZ bW,aZ bW,.slice none 0 0,al 0,al 0,al 0,.bool false]) rfl) fun a hS=>?_;refine go hS fun a w hS=>?_;cases hM
  refine aG hS Tryz.results50 (bh hS rfl 0 rfl bX rfl (fun h=>by cases h) (aw hS rfl aF)) ?_;exact⟨.slice none 0 0,[],rfl,qX _ _ _ _ _ _⟩
 refine am hS fun a hS=>?_;obtain⟨m,f,hM⟩:=bd hM;refine wl rfl (bu (R:=aa) hS dW bX rfl rfl 1 rfl f rfl fun A E B o a hS=>?_);obtain⟨H,rfl,k⟩:=o;replace hS:=hS.fS k;refine am hS fun a hS=>?_;obtain⟨G,j,hM⟩:=bd hM;refine kc hS JT (um _ _ hS.dlt m _ (hS.get 0 rfl) _ j) fun _ w hR a hk hA=>?_;obtain⟨q,l,he,d⟩:=hR;obtain rfl:=he.symm;have hS:=pz hA d;refine go hS fun a w hS=>?_;cases hM
 refine aG hS Tryz.results50 (bh hS rfl 1 rfl bX rfl (fun h=>by cases h) (aw hS rfl aF)) ?_;exact⟨q,l,rfl,hS.retOwn ⟨.inr (aH (i:=0) rfl),trivial⟩ 0 rfl 0 rfl⟩
def mG (b:LR) (c:Int):Option LR:=(pm b c b.length).bind fun e=>(pm (List.take (Int.toNat c) b++List.replicate ((Int.toNat (b.length:Int))-(Int.toNat c)) (ad.mk (ae.mk (0:Int) bW) bW [] (0:Int) (0:Int) (0:Int) false)++List.drop (Int.toNat (b.length:Int)) b) 0 c).bind fun d=>some (d)
def oL (c:Int) (d:LR) (b:Int):Option (Fl (LR×Int×Int) (LR×Int)):=some (.go (d,b,IntKind.i64.wrap (c+1)))
def oM (f:ad→Option Bool) (b:LR) (c:Int) (d:Int):Option (Fl (LR×Int×Int) (LR×Int)):=cond (decide (d<(b.length:Int))) ((bk b d).bind fun e=>(f e).bind fun g=>cond (!(g)) ((bk b c).bind fun h=>oL d (b.set (Int.toNat c) e) (IntKind.i64.wrap (c+1))) (oL d b c)) (some (.out (b,c)))
def t8 (c:ad→Option Bool) (d:LR):Option LR:=(c6 c d).bind fun b=>cond (b==(-1)) (some (d)) ((loop (fun s:LR×Int×Int=>oM c s.1 s.2.1 s.2.2) (d,b,IntKind.i64.wrap (b+1))).bind fun r=>mG r.1 r.2)
theorem Dn (T:Nat→Prop) (W0:World) (hT:TW T W0) (del_g:Nat) (m:aP aO del_g=true) (del_k:ba) (del_P:bG) (i:ad→Option Bool) (u:∀ (T:Nat→Prop) (W0:World) (hT:TW T W0) (hLv:dc T W0) (hP:del_P.p T W0) (x0:ad) (K:Value) (b5:aC ac T W0 K x0.Reads) (y:Bool) (hM:i x0=some y),a7 aO No del_g ([.agg (aE x0 K).toArray]++del_k) W0 (fun v w'=>v = .bool y)) (z:LR) (b:Value) (di:ba) (hD:tU T W0 [ah b di]) (a9:az aa (dT T [ah b di]) W0 di z) (hLv:dc (dT T [ah b di]) W0) (hPdel_:del_P.p (dT T [ah b di]) W0) (y:LR) (hM:t8 i z=some y):a7 aO (MD [ah b di]) 82 [b,.func (.func del_g) #[] del_k.toArray] W0 (fun v w'=>∃ (v3:Value) (uQ:ba),v=v3∧az aa (dT T [ah v3 uQ]) w' uQ y∧lK W0 w' [ah b di] [ah v3 uQ]):=by
 refine eL (c:=_) Tryz.func82 rfl T 42 Tryz.ntmps82 hT rfl hD fun a hS=>?_;replace hS:=((hS.fact del_P hPdel_).fact br hLv).fR a9;unfold t8 at hM;refine am hS fun a hS=>?_;have hL:=hS;replace hL:=hL.freeze (R:=aa) 0 rfl 0 rfl;obtain⟨bt,G,hM⟩:=bd hM;refine kc hS H8 (n4 _ _ hL.dlt (hL.get 2 rfl) del_g m del_k del_P i u (hL.get 3 rfl) z _ (hL.get 0 rfl) _ G) fun _ w hR a hk hA=>?_;obtain rfl:=hR;have hS:=ce hA;refine am hS fun a hS=>?_;refine ay ?_;refine am hS fun a hS=>?_;rcases cd hM with⟨N,hM⟩|⟨N,hM⟩
 ·refine am hS fun a hS=>?_;cases hM
  refine aG hS rfl (aw hS rfl aF) ?_;have hZ:=hS.sl [0] [0];exact⟨b,di,rfl,(hZ.get 0 rfl),hZ.dnew⟩
 refine am hS fun a hS=>?_;refine aK (J:=fun a w=>∃ (e:LR) (l:Int) (n:LV),St W0 (MD [ah b di]) T 42 [(0,b),(5,al l)] [ah b n] [an aa n e,br,del_P] a w∧mG e l=some y) ?_ ?_
 ·skip;refine am hS fun a hS=>?_;obtain⟨r1,a5,hMo1⟩:=bd hM;refine bx _ (fun s a w=>∃ (g:LR) (f:Int) (d:Int) (o:LV),(g,f,d)=s∧St W0 (MD [ah b di]) T 42 [(0,b),(1,.func (.func del_g) #[] del_k.toArray),(5,al f),(6,al d)] [ah b o] [an aa o g,br,del_P] a w) a5 ⟨_,_,_,_,rfl,hS.mt [0] [0,1,2]⟩ ?_;rintro s a w f1 ⟨g,f,d,o,rfl,hS⟩ hM hf1;have hM:oM i g f d=some f1:=hM;unfold oM at hM;refine ay ?_;refine am hS fun a hS=>?_;rcases cd hM with⟨O,hM⟩|⟨O,hM⟩
  ·refine am hS fun a hS=>?_;refine aK (J:=fun a w=>∃ (t:LR) (r:Int) (q:LV),St W0 (MD [ah b di]) T 42 [(0,b),(1,.func (.func del_g) #[] del_k.toArray),(5,al r),(6,al d)] [ah b q] [an aa q t,br,del_P] a w∧oL d t r=some f1) ?_ ?_
   ·skip;refine am hS fun a hS=>?_;obtain⟨j,C,hM⟩:=bd hM;refine wl rfl (c7 (R:=aa) hS dW bX rfl rfl 0 rfl 0 rfl C rfl fun af b9 bi av P Q S a hS=>?_);obtain⟨A,rfl,H⟩:=P;replace hS:=hS.fS H;refine qy hS (bq (k:=0) hS bX 0 rfl Q S rfl id (us:=(aE j A)) rfl rfl (fun h=>by cases h)) fun a hS=>?_;refine ka hS dD fun ag b3 a w hk hS=>?_;refine go hS fun a w hS=>?_;obtain⟨bs,F,hM⟩:=bd hM;refine wl rfl (qJ (cap:=del_k) hS rfl m rfl rfl (u _ _ hS.dlt (hS.get 2 rfl) (hS.get 3 rfl) j _ (hS.get 0 rfl) _ F) fun _ w hR a hk hA=>?_);obtain rfl:=hR;have hS:=ce hA;refine am hS fun a hS=>?_;rcases cd hM with⟨U,hM⟩|⟨U,hM⟩
    ·refine am hS fun a hS=>?_;obtain⟨M,x,hM⟩:=bd hM;refine wl rfl (c7 (R:=aa) hS dW bX rfl rfl 1 rfl 1 rfl x rfl fun ak bb bl b0 V W X a hS=>?_);obtain⟨a0,rfl,I⟩:=V;replace hS:=hS.fS I;refine wl rfl (fT (R:=aa) (k:=0) (cs:=(aE M a0)) (us:=(aE j A)) (x':=j) hS rfl rfl rfl bX 1 rfl 2 rfl W X x (⟨_,rfl,(hS.get 0 rfl)⟩) rfl rfl (⟨_,rfl,(hS.get 1 rfl)⟩) fun b1 w hk hS=>?_);exact fz
    exact fz
   rintro a w ⟨t,r,q,hS,hM⟩;unfold oL at hM;exact fz
  refine am hS fun a hS=>?_;cases hM
  have hr:=hf1 _ rfl;subst hr;have hM:mG g f=some y:=hMo1;exact⟨_,_,_,hS.mt [0] [0,1,2],hM⟩
 rintro a w ⟨e,l,n,hS,hM⟩;unfold mG at hM;refine am hS fun a hS=>?_;obtain⟨b6,D,hM⟩:=bd hM;obtain⟨B,b4,Y,Z⟩:=JY (R:=aa) hS dW bX 0 rfl 0 rfl D;replace hS:=hS.fact (KN 8 b B (Int.toNat l) (Int.toNat (e.length:Int)) e.length) Y;refine wl rfl (ky (v:=B) hS (Z (k2:=.i64) rfl (.inl ⟨_,rfl,rfl⟩) (.inr ⟨rfl,rfl⟩)) rfl rfl fun a hS=>?_);refine wl rfl (GP (R:=aa) (z0:=(ad.mk (ae.mk (0:Int) bW) bW [] (0:Int) (0:Int) (0:Int) false)) (xs:=e) hS pp dD rfl 0 rfl 1 rfl (hS.get 0 rfl) (⟨_,rfl,aC.nil_ _ _ _⟩) fun b2 w hk hS=>?_);refine am hS fun a hS=>?_;obtain⟨b8,E,hM⟩:=bd hM;refine wl rfl (IK (R:=aa) (k1:=.i64) hS dW bX rfl (.inr ⟨rfl,rfl⟩) (.inl ⟨_,rfl,rfl⟩) 0 rfl 0 rfl E rfl fun a1 L a hS=>?_);refine am hS fun a hS=>?_;cases hM
 refine aG hS rfl (aw hS rfl aF) ?_;have hZ:=hS.sl [0] [0];exact⟨a1,L,rfl,(hZ.get 0 rfl),hZ.dnew⟩
def kJ (c:ad) (b:ae):Option Bool:=some (c.Key.Kind==b.Kind&&c.Key.Text.toList==b.Text.toList)
theorem vZ (T:Nat→Prop) (W0:World) (hT:TW T W0) (c:ad) (b:ae) (g:Value) (d:Nat) (f:aC ac T W0 g c.Reads) (e:(ji d 0 (aV b)).p T W0) (y:Bool) (hM:kJ c b=some y):a7 aO No 83 [.agg (aE c g).toArray,pt d 0] W0 (fun v w'=>v = .bool y):=by
 refine en Tryz.func83 Tryz.ntmps83 hT fun a hS=>?_;replace hS:=(hS.fact (ji d 0 (aV b)) (bG.dn _ e)).fS (aC.dn f);unfold kJ at hM;refine am hS fun a hS=>?_;refine kb hS fun h i a w hk hS=>?_;refine am hS fun a hS=>?_;refine wl rfl (ky (v:=.bool (c.Key.Kind==b.Kind&&c.Key.Text.toList==b.Text.toList)) hS (zj hS rfl rfl) rfl rfl fun a hS=>?_);exact fz
def nI (e:LR) (d:ae):Option LR:=(lA e).bind fun b=>(t8 (fun f=>kJ f d) b).bind fun c=>some (c)
theorem x4 (T:Nat→Prop) (W0:World) (hT:TW T W0) (hLv:dc T W0) (f:LR) (c:ae) (r:Value) (q:aC aa T W0 r f) (y:LR) (hM:nI f c=some y):a7 aO No 51 [r,.agg (aV c).toArray] W0 (fun v w'=>∃ (o:Value) (iN:ba),v=o∧ge aa T W0 w' [ah o iN] 33 o iN y):=by
 refine en Tryz.func51 Tryz.ntmps51 hT fun a hS=>?_;replace hS:=(hS.fact br (dc.dn hLv)).fS (aC.dn q);unfold nI at hM;refine am hS fun a hS=>?_;refine kb hS fun b u a w hk hS=>?_;refine am hS fun a hS=>?_;obtain⟨m,g,hM⟩:=bd hM;refine kc hS JS (s8 _ _ hS.dlt f _ (hS.get 0 rfl) _ g) fun _ w hR a hk hA=>?_;obtain⟨z,t,he,d⟩:=hR;obtain rfl:=he.symm;have hS:=pz hA d;replace hS:=hS.freezeBox 1 rfl;refine qy hS (xz (vs:=[pt b 0]) hS rfl) fun a hS=>?_;obtain⟨x,h,hM⟩:=bd hM;replace hS:=hS.re [0] [];refine wl rfl (bv hS Lm rfl rfl (Dn _ _ hS.dltD 83 Ln [pt b 0] (D4 (ji b 0 (aV c)) Aa) (fun p=>kJ p c) (fun T W0 hT hLv hP p s l y hM=>vZ T W0 hT p c s b l hP.1 y hM) m _ _ hS.dok (hS.getD 1 rfl) (hS.getD 3 rfl) ⟨(hS.getD 0 rfl),trivial⟩ _ h) fun _ w hR a hk hA=>?_);obtain⟨n,j,he,e,k⟩:=hR;obtain rfl:=he.symm;have hS:=hA _ k;replace hS:=hS.fR (e.keep (aj _ _) (ap _));refine am hS fun a hS=>?_;cases hM
 refine aG hS rfl (aw hS rfl aF) ?_;exact⟨n,j,rfl,hS.retOwn ⟨.inr (aH (i:=0) rfl),trivial⟩ 0 rfl 0 rfl⟩
def jn (b:ai) (c:LK) (d:LR):Option (ai×LK×Int):=some (((ai.mk b.Revision b.Inputs d),c,0))
def gB (b:Int) (e:Int) (c:LK) (d:LR):Option (Fl (Int×LK×Int×LR) (LK×LR)):=some (.go (e,c,IntKind.i64.wrap (b+1),d))
def e9 (n:ai) (h:Int) (j:LK) (i:LK) (g:Int) (d:LK) (e:Int) (f:LR):Option (Fl (Int×LK×Int×LR) (LK×LR)):=cond (decide (e<(i.length:Int))) ((bk i e).bind fun c=>cond (decide (g≤h)) (some (.out (d,f))) ((lQ j c).bind fun k=>cond k (gB e g d f) ((nJ n.Records c).bind fun b=>(ia (ad.mk (ae.mk b.1.Key.Kind b.1.Key.Text) b.1.Value b.1.Reads b.1.Changed b.1.Verified b.1.Cost b.1.Dirty)).bind fun l=>gd (bL (d.length+([c]).length)) <| (nI f c).bind fun m=>gB e (IntKind.i64.wrap (g-l)) (d++([c])) m))) (some (.out (d,f)))
def jm (c:ai) (b:Int) (e:LK):Option (ai×LK×Int):=(jT c).bind fun g=>cond (!(g)) (some (((ai.mk 0 ([]:List aT) ([]:List ad)),([]:List ae),42))) (cond (decide (b<0)) (some (((ai.mk 0 ([]:List aT) ([]:List ad)),([]:List ae),2))) (cond (decide ((1073741824:Int)<b)) (some (((ai.mk 0 ([]:List aT) ([]:List ad)),([]:List ae),2))) ((kS c).bind fun d=>(jo c.Records).bind fun h=>(ly c.Records).bind fun f=>(loop (fun s:Int×LK×Int×LR=>e9 c b e f s.1 s.2.1 s.2.2.1 s.2.2.2) (h,([]:List ae),0,d.Records)).bind fun r=>jn d r.1 r.2)))
theorem m7 (T:Nat→Prop) (W0:World) (hT:TW T W0) (b:ai) (e:Int) (i:LK) (V:Value) (W:Value) (X:Value) (hD:tU T W0 []) (c3:aC ab (dT T []) W0 V b.Inputs) (c4:aC aa (dT T []) W0 W b.Records) (c5:aC ac (dT T []) W0 X i) (hLv:dc (dT T []) W0) (y:ai×LK×Int) (hM:jm b e i=some y):a7 aO (MD []) 20 [.agg (a6 b V W).toArray,al e,X] W0 (fun v w'=>∃ (v4:Value) (vW:ba) (v6:Value) (vA:ba) (v8:Value) (zX:ba),v = .tuple #[.agg (a6 y.1 v4 v6).toArray,v8,al y.2.2]∧az ab (dT T [aQ v4 vW,ah v6 vA,ax v8 zX]) w' vW y.1.Inputs∧az aa (dT T [aQ v4 vW,ah v6 vA,ax v8 zX]) w' vA y.1.Records∧az ac (dT T [aQ v4 vW,ah v6 vA,ax v8 zX]) w' zX y.2.1∧lK W0 w' [] [aQ v4 vW,ah v6 vA,ax v8 zX]):=by
 refine eL (c:=_) Tryz.func20 rfl T 71 Tryz.ntmps20 hT rfl hD fun a hS=>?_;replace hS:=(((hS.fact br hLv).fS c3).fS c4).fS c5;unfold jm at hM;refine am hS fun a hS=>?_;refine kb hS fun t d1 a w hk hS=>?_;refine ka hS lx fun o d2 a w hk hS=>?_;refine am hS fun a hS=>?_;refine ay ?_;refine am hS fun a hS=>?_;obtain⟨e3,b2,hM⟩:=bd hM;refine kc hS K0 (ve _ _ hS.dlt (hS.get 3 rfl) b _ _ (hS.get 2 rfl) (hS.get 1 rfl) _ b2) fun _ w hR a hk hA=>?_;obtain rfl:=hR;have hS:=ce hA;refine am hS fun a hS=>?_;rcases cd hM with⟨b4,hM⟩|⟨b4,hM⟩
 ·refine am hS fun a hS=>?_;refine qy hS (bp (ps:=[]) hS A0 lx rfl (us:=[]) trivial (ws:=[al 0,.slice none 0 0,.slice none 0 0]) rfl) fun a hS=>?_;refine go hS fun a w hS=>?_;replace hS:=((hS.nilRow ab 75 (by decide)).nilRow aa 33 (by decide)).nilRow ac 31 (by decide);cases hM
  refine aG hS Tryz.results20 (bh hS rfl 3 rfl eZ rfl (fun h=>by cases h) (aw hS rfl (aw hS rfl aF))) ?_;have hZ:=hS.sl [2,1,0] [2,1,0];exact⟨(.slice none 0 0),[],(.slice none 0 0),[],(.slice none 0 0),[],rfl,(hZ.get 0 rfl),(hZ.get 1 rfl),(hZ.get 2 rfl),hZ.dnew⟩
 refine am hS fun a hS=>?_;refine jg ?_;refine am hS fun a hS=>?_;rcases cd hM with⟨b5,hM⟩|⟨b5,hM⟩
 ·refine am hS fun a hS=>?_;refine qy hS (bp (ps:=[]) hS A0 lx rfl (us:=[]) trivial (ws:=[al 0,.slice none 0 0,.slice none 0 0]) rfl) fun a hS=>?_;refine go hS fun a w hS=>?_;replace hS:=((hS.nilRow ab 75 (by decide)).nilRow aa 33 (by decide)).nilRow ac 31 (by decide);cases hM
  refine aG hS Tryz.results20 (bh hS rfl 3 rfl eZ rfl (fun h=>by cases h) (aw hS rfl (aw hS rfl aF))) ?_;have hZ:=hS.sl [2,1,0] [2,1,0];exact⟨(.slice none 0 0),[],(.slice none 0 0),[],(.slice none 0 0),[],rfl,(hZ.get 0 rfl),(hZ.get 1 rfl),(hZ.get 2 rfl),hZ.dnew⟩
 refine am hS fun a hS=>?_;rcases cd hM with⟨b6,hM⟩|⟨b6,hM⟩
 ·refine am hS fun a hS=>?_;refine qy hS (bp (ps:=[]) hS A0 lx rfl (us:=[]) trivial (ws:=[al 0,.slice none 0 0,.slice none 0 0]) rfl) fun a hS=>?_;refine go hS fun a w hS=>?_;replace hS:=((hS.nilRow ab 75 (by decide)).nilRow aa 33 (by decide)).nilRow ac 31 (by decide);cases hM
  refine aG hS Tryz.results20 (bh hS rfl 3 rfl eZ rfl (fun h=>by cases h) (aw hS rfl (aw hS rfl aF))) ?_;have hZ:=hS.sl [2,1,0] [2,1,0];exact⟨(.slice none 0 0),[],(.slice none 0 0),[],(.slice none 0 0),[],rfl,(hZ.get 0 rfl),(hZ.get 1 rfl),(hZ.get 2 rfl),hZ.dnew⟩
 refine am hS fun a hS=>?_;obtain⟨f,af,hM⟩:=bd hM;refine kc hS K1 (wb _ _ hS.dlt b _ _ (hS.get 2 rfl) (hS.get 1 rfl) _ af) fun _ w hR a hk hA=>?_;obtain⟨n,j,e5,cl,he,Y,Z,c1⟩:=hR;obtain rfl:=he.symm;have hS:=xN hA Y Z c1;refine ka hS lx fun p d3 a w hk hS=>?_;refine go hS fun a w hS=>?_;obtain⟨e4,b3,hM⟩:=bd hM;refine kc hS JC (s4 _ _ hS.dlt b.Records _ (hS.get 3 rfl) _ b3) fun _ w hR a hk hA=>?_;obtain rfl:=hR;have hS:=ce hA;refine am hS fun a hS=>?_;refine aK (J:=fun a w=>∃ (K:LK) (M:LR) (C:Value) (u:LV) (D:Value) (z:LV),St W0 (MD []) T 71 [(6,pt o 0),(9,pt p 0),(11,C)] [ax C u,.box o [al 0,.slice none 0 0,.slice none 0 0] 25,aQ n j,ah D z,.box p (a6 f n D) 25] [an ac u K,an ab j f.Inputs,an aa z M,br] a w∧jn f K M=some y) ?_ ?_
 ·skip;refine am hS fun a hS=>?_;obtain⟨r,ag,hM⟩:=bd hM;refine kc hS KS (xU _ _ hS.dlt (hS.get 5 rfl) b.Records _ (hS.get 3 rfl) _ ag) fun _ w hR a hk hA=>?_;obtain⟨E,A,he,a0⟩:=hR;obtain rfl:=he.symm;have hS:=pz hA a0;refine am hS fun a hS=>?_;replace hS:=hS.nilRow ac 31 (by decide);obtain⟨r1,c2,hMo1⟩:=bd hM;refine bx _ (fun s a w=>∃ (B:Int) (l:LK) (q:Int) (m:LR) (P:Value) (F:LV) (Q:Value) (G:LV),(B,l,q,m)=s∧St W0 (MD []) T 71 [(1,al e),(2,X),(3,pt t 0),(6,pt o 0),(9,pt p 0),(10,al B),(11,P),(36,E),(37,al (r.length:Int)),(38,al q)] [ax P F,ax E A,.box t (a6 b V W) 25,.box o [al 0,.slice none 0 0,.slice none 0 0] 25,aQ n j,ah Q G,.box p (a6 f n Q) 25] [aL ac X i,an ac F l,an ac A r,aL ab V b.Inputs,aL aa W b.Records,an ab j f.Inputs,an aa G m,br] a w) c2 ⟨_,_,_,_,_,_,_,_,rfl,hS.mt [0,1,6,5,3,4,2] [4,0,1,6,5,3,2,7]⟩ ?_;rintro s a w f1 ⟨B,l,q,m,P,F,Q,G,rfl,hS⟩ hM hf1;have hM:e9 b e i r B l q m=some f1:=hM;unfold e9 at hM;refine am hS fun a hS=>?_;refine ay ?_;rcases cd hM with⟨b8,hM⟩|⟨b8,hM⟩
  ·refine am hS fun a hS=>?_;refine aK (J:=fun a w=>∃ (O:Int) (L:LK) (N:LR) (S:Value) (H:LV) (U:Value) (I:LV),St W0 (MD []) T 71 [(1,al e),(2,X),(3,pt t 0),(6,pt o 0),(9,pt p 0),(10,al O),(11,S),(36,E),(37,al (r.length:Int)),(38,al q)] [ax S H,ax E A,.box t (a6 b V W) 25,.box o [al 0,.slice none 0 0,.slice none 0 0] 25,aQ n j,ah U I,.box p (a6 f n U) 25] [aL ac X i,an ac H L,an ac A r,aL ab V b.Inputs,aL aa W b.Records,an ab j f.Inputs,an aa I N,br] a w∧gB q O L N=some f1) ?_ ?_
   ·skip;refine am hS fun a hS=>?_;obtain⟨d,a9,hM⟩:=bd hM;refine wl rfl (c7 (R:=ac) hS mz eJ rfl rfl 1 rfl 2 rfl a9 rfl fun c9 dl dn co b9 bb bi a hS=>?_);obtain rfl:=b9;refine qy hS (bq (k:=0) hS eJ 1 rfl bb bi rfl id (us:=(aV d)) rfl rfl (fun h=>by cases h)) fun a hS=>?_;refine ka hS fE fun ca d4 a w hk hS=>?_;refine go hS fun a w hS=>?_;refine ay ?_;refine am hS fun a hS=>?_;rcases cd hM with⟨bl,hM⟩|⟨bl,hM⟩
    ·refine am hS fun a hS=>?_;cases hM
     have hr:=hf1 _ rfl;subst hr;have hM:jn f l m=some y:=hMo1;exact⟨_,_,_,_,_,_,hS.mt [1,4,5,6,7] [1,5,6,7],hM⟩
    refine am hS fun a hS=>?_;refine ay ?_;refine am hS fun a hS=>?_;obtain⟨ds,ak,hM⟩:=bd hM;refine kc hS K3 (wJ _ _ hS.dlt i d _ (hS.get 0 rfl) _ ak) fun _ w hR a hk hA=>?_;obtain rfl:=hR;have hS:=ce hA;refine am hS fun a hS=>?_;rcases cd hM with⟨bs,hM⟩|⟨bs,hM⟩
    ·exact fz
    refine am hS fun a hS=>?_;obtain⟨g,av,hM⟩:=bd hM;refine kc hS K4 (x5 _ _ hS.dlt (hS.get 7 rfl) b.Records d _ (hS.get 4 rfl) _ av) fun _ w hR a hk hA=>?_;obtain⟨e6,cs,he,a1⟩:=hR;obtain rfl:=he.symm;have hS:=pz hA a1;refine am hS fun a hS=>?_;refine ka hS dD fun ch d6 a w hk hS=>?_;refine go hS fun a w hS=>?_;have hL:=hS;replace hL:=hL.freeze (R:=ac) 1 rfl 0 rfl;obtain⟨e0,b0,hM⟩:=bd hM;refine kc hS F8 (nk _ _ hL.dlt (ad.mk (ae.mk g.1.Key.Kind g.1.Key.Text) g.1.Value g.1.Reads g.1.Changed g.1.Verified g.1.Cost g.1.Dirty) _ (hL.get 0 rfl) _ b0) fun _ w hR a hk hA=>?_;obtain rfl:=hR;have hS:=ce hA;refine am hS fun a hS=>?_;refine wl rfl (bj (ps:=[(0,.tmp 60)]) hS gh fE (zl:=[al 0,aZ bW]) (by kernel_rfl) rfl (us:=[(aV d)]) ⟨rfl,trivial⟩ (ws:=(aV d)) rfl rfl rfl rfl fun ck a w hk hS=>?_);replace hS:=(hS.lit (R:=ac) (us:=(aV d)) (xs:=[d]) 0 rfl (by decide) (az.one_ (R:=ac) (x:=d) rfl) rfl rfl).freeze (R:=ac) 0 rfl 0 rfl;obtain⟨bt,hM⟩:=bm hM;refine wl rfl (bB (R:=ac) (xs:=l) (ys:=[d]) hS gh (by decide) (by decide) rfl rfl 3 rfl 4 rfl 0 rfl bt rfl fun ea cv a w hk hS=>?_);refine am hS fun a hS=>?_;replace hS:=hS.freeze (R:=aa) 8 rfl 10 rfl;obtain⟨e2,b1,hM⟩:=bd hM;refine kc hS K5 (x4 _ _ hS.dlt (hS.get 12 rfl) m d _ (hS.get 0 rfl) _ b1) fun _ w hR a hk hA=>?_;obtain⟨eb,d0,he,a2⟩:=hR;obtain rfl:=he.symm;have hS:=pz hA a2;exact fz
   rintro a w ⟨O,L,N,S,H,U,I,hS,hM⟩;unfold gB at hM;exact fz
  refine am hS fun a hS=>?_;cases hM
  have hr:=hf1 _ rfl;subst hr;have hM:jn f l m=some y:=hMo1;exact⟨_,_,_,_,_,_,hS.mt [0,3,4,5,6] [1,5,6,7],hM⟩
 rintro a w ⟨K,M,C,u,D,z,hS,hM⟩;unfold jn at hM;refine go hS fun a w hS=>?_;cases hM
 refine aG hS Tryz.results20 (bh hS rfl 1 rfl eZ rfl (fun h=>by cases h) (aw hS rfl (aw hS rfl aF))) ?_;have hZ:=hS.sl [2,3,0] [1,2,0];exact⟨n,j,D,z,C,u,rfl,(hZ.get 0 rfl),(hZ.get 1 rfl),(hZ.get 2 rfl),hZ.dnew⟩
def fa (b:Bool):Option Bool:=some (b)
def lz:Option Bool:=(jm (ai.mk 0 ([]) ([(ad.mk (ae.mk 31 (ByteArray.mk #[48])) (ByteArray.mk #[49]) ([]) 0 0 2 false),(ad.mk (ae.mk 31 (ByteArray.mk #[49])) (ByteArray.mk #[49]) ([]) 0 0 1 false)])) 20 ([])).bind fun b=>cond (b.2.2==0) ((gO b.2.1 ([(ae.mk 31 (ByteArray.mk #[49]))])).bind fun c=>cond c (cond ((b.1.Records.length:Int)==1) ((jo b.1.Records).bind fun d=>fa (d==18)) (fa false)) (fa false)) (fa false)
theorem s6 (T:Nat→Prop) (W0:World) (hT:TW T W0) (hLv:dc T W0) (y:Bool) (hM:lz=some y):a7 aO No 9 [] W0 (fun v w'=>v = .bool y):=by
 refine en Tryz.func9 Tryz.ntmps9 hT fun a hS=>?_;replace hS:=hS.fact br (dc.dn hLv);unfold lz at hM;refine am hS fun a hS=>?_;refine qy hS (bp (ps:=[(0,.const (al 31)),(1,.const (.string ⟨#[48]⟩))]) hS zE fE rfl (us:=[[al 31],[aZ (ByteArray.mk #[48])]]) ⟨rfl,⟨rfl,trivial⟩⟩ (ws:=[al 31,aZ (ByteArray.mk #[48])]) rfl) fun a hS=>?_;refine qy hS (bp (ps:=[(0,.tmp 6),(1,.const (.string ⟨#[49]⟩)),(5,.const (al 2))]) hS E4 dD rfl (us:=[[al 31,aZ (ByteArray.mk #[48])],[aZ (ByteArray.mk #[49])],[al 2]]) ⟨rfl,⟨rfl,⟨rfl,trivial⟩⟩⟩ (ws:=[al 31,aZ (ByteArray.mk #[48]),aZ (ByteArray.mk #[49]),.slice none 0 0,al 0,al 0,al 2,.bool false]) rfl) fun a hS=>?_;refine ka hS dD fun p A a w hk hS=>?_;refine go hS fun a w hS=>?_;refine qy hS (bp (ps:=[(0,.const (al 31)),(1,.const (.string ⟨#[49]⟩))]) hS zE fE rfl (us:=[[al 31],[aZ (ByteArray.mk #[49])]]) ⟨rfl,⟨rfl,trivial⟩⟩ (ws:=[al 31,aZ (ByteArray.mk #[49])]) rfl) fun a hS=>?_;refine qy hS (bp (ps:=[(0,.tmp 8),(1,.const (.string ⟨#[49]⟩)),(5,.const (al 1))]) hS E4 dD rfl (us:=[[al 31,aZ (ByteArray.mk #[49])],[aZ (ByteArray.mk #[49])],[al 1]]) ⟨rfl,⟨rfl,⟨rfl,trivial⟩⟩⟩ (ws:=[al 31,aZ (ByteArray.mk #[49]),aZ (ByteArray.mk #[49]),.slice none 0 0,al 0,al 0,al 1,.bool false]) rfl) fun a hS=>?_;refine ka hS dD fun q B a w hk hS=>?_;refine go hS fun a w hS=>?_;refine wl rfl (bj (ps:=[(0,.tmp 11),(1,.tmp 12)]) hS pp dD (zl:=[al 0,aZ bW,aZ bW,.slice none 0 0,al 0,al 0,al 0,.bool false,al 0,aZ bW,aZ bW,.slice none 0 0,al 0,al 0,al 0,.bool false]) (by kernel_rfl) rfl (us:=[[al 31,aZ (ByteArray.mk #[48]),aZ (ByteArray.mk #[49]),.slice none 0 0,al 0,al 0,al 2,.bool false],[al 31,aZ (ByteArray.mk #[49]),aZ (ByteArray.mk #[49]),.slice none 0 0,al 0,al 0,al 1,.bool false]]) ⟨rfl,⟨rfl,trivial⟩⟩ (ws:=[al 31,aZ (ByteArray.mk #[48]),aZ (ByteArray.mk #[49]),.slice none 0 0,al 0,al 0,al 2,.bool false,al 31,aZ (ByteArray.mk #[49]),aZ (ByteArray.mk #[49]),.slice none 0 0,al 0,al 0,al 1,.bool false]) rfl rfl rfl rfl fun d a w hk hS=>?_);replace hS:=hS.lit (R:=aa) (us:=[al 31,aZ (ByteArray.mk #[48]),aZ (ByteArray.mk #[49]),.slice none 0 0,al 0,al 0,al 2,.bool false,al 31,aZ (ByteArray.mk #[49]),aZ (ByteArray.mk #[49]),.slice none 0 0,al 0,al 0,al 1,.bool false]) (xs:=[(ad.mk (ae.mk 31 (ByteArray.mk #[48])) (ByteArray.mk #[49]) ([]) 0 0 2 false),(ad.mk (ae.mk 31 (ByteArray.mk #[49])) (ByteArray.mk #[49]) ([]) 0 0 1 false)]) 0 rfl (by decide) ((az.one_ (R:=aa) (x:=(ad.mk (ae.mk 31 (ByteArray.mk #[48])) (ByteArray.mk #[49]) ([]) 0 0 2 false)) (⟨_,rfl,aC.nil_ _ _ _⟩)).append (az.one_ (R:=aa) (x:=(ad.mk (ae.mk 31 (ByteArray.mk #[49])) (ByteArray.mk #[49]) ([]) 0 0 1 false)) (⟨_,rfl,aC.nil_ _ _ _⟩))) rfl rfl;skip;refine qy hS (bp (ps:=[(2,.tmp 13)]) hS A0 lx rfl (us:=[[(.slice (some ⟨d,0,none⟩) 2 2)]]) ⟨(lh (fV (hS.own _ (aH (i:=0) rfl)).1)),trivial⟩ (ws:=[al 0,.slice none 0 0,(.slice (some ⟨d,0,none⟩) 2 2)]) rfl) fun a hS=>?_;replace hS:=((hS.fact (aL ab (.slice none 0 0) []) (aC.nil_ _ _ _)).freeze (R:=aa) 0 rfl 1 rfl).fact (aL ac (.slice none 0 0) []) (aC.nil_ _ _ _);obtain⟨j,k,hM⟩:=bd hM;replace hS:=hS.re [] [0,1];refine wl rfl (bv hS F6 rfl rfl (m7 _ _ hS.dltD (ai.mk 0 ([]) ([(ad.mk (ae.mk 31 (ByteArray.mk #[48])) (ByteArray.mk #[49]) ([]) 0 0 2 false),(ad.mk (ae.mk 31 (ByteArray.mk #[49])) (ByteArray.mk #[49]) ([]) 0 0 1 false)])) 20 ([]) _ _ _ hS.dok (hS.getD 2 rfl) (hS.getD 1 rfl) (hS.getD 0 rfl) (hS.getD 4 rfl) _ k) fun _ w hR a hk hA=>?_);obtain⟨F,t,G,u,H,z,he,f,g,h,n⟩:=hR;obtain rfl:=he.symm;have hS:=hA _ n;replace hS:=((hS.fR (f.keep (aj _ _) (ap _))).fR (g.keep (aj _ _) (ap _))).fR (h.keep (aj _ _) (ap _));refine am hS fun a hS=>?_;refine ka hS lx fun r C a w hk hS=>?_;refine go hS fun a w hS=>?_;refine aK (J:=fun a w=>∃ (b:Bool),St W0 No T 40 [(0,.bool b)] [] [br] a w∧fa b=some y) ?_ ?_
 ·skip;refine am hS fun a hS=>?_;rcases cd hM with⟨c,hM⟩|⟨c,hM⟩
  ·refine am hS fun a hS=>?_;refine wg hS rfl rfl rfl c (bj (ps:=[(0,.tmp 24)]) hS gh fE (zl:=[al 0,aZ bW]) (by kernel_rfl) rfl (us:=[[al 31,aZ (ByteArray.mk #[49])]]) ⟨rfl,trivial⟩ (ws:=[al 31,aZ (ByteArray.mk #[49])]) rfl rfl rfl rfl fun s a w hk hS=>?_);replace hS:=hS.lit (R:=ac) (us:=[al 31,aZ (ByteArray.mk #[49])]) (xs:=[(ae.mk 31 (ByteArray.mk #[49]))]) 0 rfl (by decide) (az.one_ (R:=ac) (x:=(ae.mk 31 (ByteArray.mk #[49]))) rfl) rfl rfl;have hL:=hS;replace hL:=hL.freeze (R:=ac) 4 rfl 1 rfl;replace hL:=hL.freeze (R:=ac) 0 rfl 1 rfl;obtain⟨D,l,hM⟩:=bd hM;refine wg hS rfl rfl rfl c (bz hS KR rfl rfl (vc _ _ hL.dlt j.2.1 ([(ae.mk 31 (ByteArray.mk #[49]))]) _ _ (hL.get 1 rfl) (hL.get 0 rfl) _ l) fun _ w hR a hk hA=>?_);obtain rfl:=hR;have hS:=ce hA;refine am hS fun a hS=>?_;rcases cd hM with⟨o,hM⟩|⟨o,hM⟩
   ·refine am hS fun a hS=>?_;rcases cd hM with⟨e,hM⟩|⟨e,hM⟩
    ·refine am hS fun a hS=>?_;have hL:=hS;replace hL:=hL.freeze (R:=aa) 3 rfl 2 rfl;obtain⟨E,m,hM⟩:=bd hM;refine wg hS rfl rfl rfl e (bz hS JC rfl rfl (s4 _ _ hL.dlt j.1.Records _ (hL.get 0 rfl) _ m) fun _ w hR a hk hA=>?_);obtain rfl:=hR;have hS:=ce hA;exact fz
    exact fz
   exact fz
  exact fz
 rintro a w ⟨b,hS,hM⟩;unfold fa at hM;exact fz
end
end
section
open Go.RowKit
open Go.Lib hiding intOf
theorem wT {s:List ad} {f:ad→Option Bool} (p:ad→Bool) (hl:Rm s.length) (hf:∀ x∈s,f x=some (p x)) :
  (∃ (k:Nat) (x:ad),s[k]? = some x∧p x=true∧(∀ (j:Nat) (z:ad),j<k→s[j]? = some z→p z=false)∧c6 f s=some (k:Int))∨(∀ z∈s,p z=false)∧c6 f s=some (-1):=by
 unfold Rm at hl;have key:=lj (B:=fun t:Int=>cP s f t) (xs:=s) p (fun k=>(k:Int)) (s0:=0) rfl (y:=fun k _=>Fl.out (k:Int)) (n:=Fl.go ()) (fun k x hx hp=>by
   unfold cP;rw [fC hx,cond_true,bf,hx,aD,hf x (aH hx),aD,hp,cond_false,cR (by have:=aW hx; omega)]) (fun k x hx hp=>by
   unfold cP;rw [fC hx,cond_true,bf,hx,aD,hf x (aH hx),aD,hp,cond_true]) (by
   unfold cP;rw [bS]; rfl)
 rcases key with⟨k,x,h1,h2,h3,h4⟩|⟨h1,h2⟩
 ·refine .inl ⟨k,x,h1,h2,h3,?_⟩;unfold c6;rw [h4]; rfl
 ·refine .inr ⟨h1,?_⟩;unfold c6;rw [h2]; rfl
theorem Gi {l:List ad} (hl:C9 l) (k:ae):nJ l k=some (aS l k):=by
 unfold nJ aS;rcases wT (s:=l) (f:=fun x0=>kK x0 k) (fun r=>db r.Key k) hl.1 (fun x hx=>rfl) with⟨i,x,h1,h2,h3,h4⟩|⟨h1,h2⟩
 ·rw [h4,aD,show decide ((i:Int)<0)=false from decide_eq_false (by omega),cond_false,bf,h1,aD,E0 (hl.2 x (aH h1)),zn (p:=fun r=>db r.Key k) h1 h2 h3];rfl
 ·rw [h2,aD,show l.find? (fun r=>db r.Key k)=none from vN.2 fun x hx=>by rw [h1 x hx]; simp];rfl
theorem BN {s:List ad} {f:ad→Option Bool} (p:ad→Bool) (hl:Rm s.length) (hf:∀ x∈s,f x=some (p x)):t8 f s=some (s.filter fun x=>!p x):=by
 unfold t8;rcases wT (s:=s) p hl hf with⟨i,x,h1,h2,h3,h4⟩|⟨h1,h2⟩
 ·unfold Rm at hl;rw [h4,aD,show ((i:Int) == -1)=false from by simp,cond_false,cR (by have:=aW h1; omega)];have hi:=aW h1;have hf0:(s.take i).filter (fun x=>!p x)=s.take i:=by
   rw [vM];intro z hz;obtain⟨j,hj⟩:=gZ.1 hz;rw [pn] at hj;split at hj
   ·rename_i hji;rw [h3 j z hji hj]; rfl
   ·cases hj
  have key:Ok ((loop (fun t:List ad×Int×Int=>oM f t.1 t.2.1 t.2.2) (s,(i:Int),((i+1:Nat):Int))).bind fun r=>mG r.1 r.2) fun y=>y=s.filter fun x=>!p x:=by
   refine bK (fun n t=>∃ s' i' j,t=(s',((i':Nat):Int),((j:Nat):Int))∧s'.length=s.length∧s'.take i'=(s.take j).filter (fun x=>!p x)∧s'.drop j=s.drop j∧i'<j∧j≤s.length∧i+1+n=j) (fun t=>∃ s' i',t=(s',((i':Nat):Int))∧s'.length=s.length∧i'≤s.length∧s'.take i'=s.filter fun x=>!p x) (s.length-(i+1))
    ⟨s,i,i+1,rfl,rfl,?_,rfl,Nat.lt_succ_self _,hi,rfl⟩ (fun n t hn hI=>?_) (fun t ht=>?_)
   ·rw [bM h1,lI,hf0]; simp [h2]
   ·obtain⟨s',i',j,rfl,e1,e2,e3,e4,e5,e6⟩:=hI;unfold oM;dsimp only;by_cases hj:j<s.length
    ·have hx:s[j]? = some s[j]:=bC hj;have hx':s'[j]? = some s[j]:=by
      have:=congrArg (fun l=>l[0]?) e3;rw [← hx];simpa using this
     rw [dlt (by omega),cond_true,bf,hx',aD,hf _ (iL hj),aD];unfold oL;rw [cR (by omega),bf,cR (by omega)];have hi2:i'<s'.length:=by omega
     rw [bC hi2,aD,oe];cases hp:p s[j]
     ·simp only [nY,cond_true];refine aq ⟨by omega,_,i'+1,j+1,rfl,by simp [e1],?_,?_,by omega,by omega,by omega⟩
      ·rw [bM hx,lI,← e2];simp only [hp,nY,xD,List.filter_nil];rw [bM (x:=s[j]) (by simp [hi2]),List.take_set_of_le (cM _)]
      ·rw [List.drop_set_of_lt (by omega)];have:=congrArg (List.drop 1) e3;simpa [Nat.add_comm] using this
     ·simp only [im,cond_false];refine aq ⟨by omega,_,i',j+1,rfl,e1,?_,?_,by omega,by omega,by omega⟩
      ·rw [bM hx,lI,← e2];simp [hp]
      ·have:=congrArg (List.drop 1) e3;simpa [Nat.add_comm] using this
    ·have hj2:j=s.length:=by omega
     rw [Ex (by omega),cond_false];exact aq ⟨s',i',rfl,e1,by omega,by rw [e2,hj2,lJ]⟩
   ·obtain⟨s',i',rfl,e1,e2,e3⟩:=ht;unfold mG;dsimp only;rw [uE (by omega),aD];simp only [oe,C0,xG];rw [qt (by simp; omega),aD];refine aq ?_;rw [List.take_append_of_le_length (by simp; omega),List.take_take,Nat.min_self,e3]
  obtain⟨y,e,rfl⟩:=key;exact e
 ·rw [h2,aD];show some s=_;rw [vM.2 fun x hx=>by rw [h1 x hx]; rfl]
def Cu (l:List ad) (k:ae):List ad:=l.filter fun r=>!db r.Key k
theorem Gf {l:List ad} (hl:C9 l) (k:ae):nI l k=some (Cu l k):=by
 unfold nI Cu;rw [Cr hl,aD,BN (f:=fun x0=>kJ x0 k) (fun r=>db r.Key k) hl.1 fun x hx=>rfl]; rfl
def jW (r:ad):Nat:=16+r.Key.Text.size+r.Value.size+8*r.Reads.length
structure xR (r:ad):Prop where
 txt:r.Key.Text.size≤1073741824
 val:r.Value.size≤1073741824
 rds:r.Reads.length≤4000
theorem xR.le {r:ad} (h:xR r):jW r≤2147515664:=by
 unfold jW; have:=h.txt; have:=h.val; have:=h.rds; omega
theorem zL (r:ad):16≤jW r:=by unfold jW; omega
theorem wv {r:ad} (h:xR r):ia r=some (jW r:Int):=by
 have:=h.txt; have:=h.val; have:=h.rds;unfold ia jW;have e1:=oA (z:=16+(r.Key.Text.size:Int)) (by omega) (by omega);have e2:=oA (z:=16+(r.Key.Text.size:Int)+(r.Value.size:Int)) (by omega) (by omega);have e3:=oA (z:=8*(r.Reads.length:Int)) (by omega) (by omega);have e4:=oA (z:=16+(r.Key.Text.size:Int)+(r.Value.size:Int)+8*(r.Reads.length:Int)) (by omega) (by omega);rw [e1,e2,e3,e4]
 first | rfl | (congr 1; omega)
def fB (l:List ad):Nat:=(l.map jW).sum
theorem sO (r:ad) (l:List ad):fB (r::l)=jW r+fB l:=by simp [fB]
theorem yP (l:List ad) (r:ad):fB (l++[r])=fB l+jW r:=by simp [fB]
theorem zK {l:List ad} (h:∀ r∈l,xR r):fB l≤l.length*2147515664:=by
 induction l with
 | nil=>simp [fB]
 | cons r l ih =>
  rw [sO,g9,iM];have:=(h r px).le;have:=ih fun x hx=>h x (tR _ hx);omega
theorem DU {a b:List ad} (h:a.Perm b):fB a=fB b:=(h.map jW).sum_nat
theorem Bc {l:List ad} (h:∀ r∈l,xR r) (hl:l.length≤100000):jo l=some (fB l:Int):=by
 unfold jo;have e:loop (fun s:Int×Int=>gD l s.1 s.2) (0,0)=some (fB l:Int):=by
  refine (d7 (xs:=l) (fun n=>((fB (l.take n):Int),(n:Int))) rfl (fun n r hx=>?_) ?_)
  ·dsimp only;have hn:=aW hx;have h1:=h r (aH hx);have h2:=zK (l:=l.take n) fun x hx=>h x (List.mem_of_mem_take hx);have h3:=h1.le;rw [il] at h2;have h4:min n l.length*2147515664≤100000*2147515664:=mD _ (by omega);unfold gD;rw [fC hx,cond_true,bf,hx,aD,wv h1,aD,oA (by omega) (by omega),cR (by omega),bM hx,yP];congr 3
  ·dsimp only;unfold gD;rw [bS,lJ]; rfl
 rw [e]; rfl
end
section
open Go.RowKit
open Go.Lib hiding intOf
theorem EY (a b c:Int):rP [a,b,c]=some (if a≠0 then a else if b≠0 then b else c):=by
 unfold rP;have h:=lj (B:=fun k:Int=>jZ [a,b,c] k) (xs:=[a,b,c]) (fun x=>x != 0) (fun k=>(k:Int)) (s0:=0) rfl (y:=fun _ x=>Fl.out (S:=Unit) x) (n:=Fl.go ())
  (fun k x hx hp=>by
   have:=aW hx;simp only [g9,rI] at this;unfold jZ;rw [fC hx,cond_true,bf,hx,aD,hp,cond_false,cR (by omega)])
  (fun k x hx hp=>by
   unfold jZ;rw [fC hx,cond_true,bf,hx,aD,hp,cond_true])
  (by unfold jZ; rw [bS]; rfl)
 rcases h with⟨k,x,h1,h2,h3,h4⟩|⟨h1,h2⟩
 ·rw [h4,aD];show some x=_;congr 1;have hk:=aW h1;simp only [g9,rI] at hk
  match k,hk with
  | 0,_ =>
   have e:a=x:=by simpa using h1
   subst e;have h2:¬ a=0:=by simpa using h2
   rw [if_pos h2]
  | 1,_ =>
   have e:b=x:=by simpa using h1
   subst e;have h2:¬ b=0:=by simpa using h2
   have h0:a=0:=by have:=h3 0 a (by omega) rfl; simpa using this
   rw [if_neg (by simp [h0]),if_pos h2]
  | 2,_ =>
   have e:c=x:=by simpa using h1
   subst e;have h0:a=0:=by have:=h3 0 a (by omega) rfl; simpa using this
   have h00:b=0:=by have:=h3 1 b (by omega) rfl; simpa using this
   rw [if_neg (by simp [h0]),if_neg (by simp [h00])]
 ·rw [h2];have ha:a=0:=by have:=h1 a (by simp); simpa using this
  have hb:b=0:=by have:=h1 b (by simp); simpa using this
  have hc:c=0:=by have:=h1 c (by simp); simpa using this
  subst ha hb hc;rfl
def wu (a b:ad):Int:=if a.Cost*jW b<b.Cost*jW a then -1 else if b.Cost*jW a<a.Cost*jW b then 1 else if jW b<jW a then -1 else if jW a<jW b then 1 else cq a.Key b.Key
structure yZ (r:ad):Prop where
 sz:xR r
 low:0≤r.Cost
 high:r.Cost≤1073741824
theorem yE {c:Int} {n:Nat} (h0:0≤c) (h1:c≤1073741824) (hn:n≤2147515664):0≤c*(n:Int)∧c*(n:Int)≤2305877905200000000:=by
 have h2:c*(n:Int)≤1073741824*(n:Int):=zR h1 (by omega);have h3:=Int.mul_nonneg h0 (show (0:Int)≤(n:Int) by omega);omega
theorem DG {a b:ad} (ha:yZ a) (hb:yZ b):cF a b=some (wu a b):=by
 have h1:=yE ha.low ha.high hb.sz.le;have h2:=yE hb.low hb.high ha.sz.le;unfold cF;rw [wv ha.sz,aD,wv hb.sz,aD,oA (by omega) (by omega),oA (by omega) (by omega),y6,y6,aD,aD,BM,aD,EY,aD];unfold wu;congr 1;by_cases c1:a.Cost*jW b<b.Cost*jW a
 ·simp [c1]
 ·by_cases c2:b.Cost*jW a<a.Cost*jW b
  ·simp [c1,c2]
  ·have e0:(if a.Cost * ↑(jW b)<b.Cost * ↑(jW a) then (-1:Int) else if b.Cost * ↑(jW a)<a.Cost * ↑(jW b) then 1 else 0)=0:=by rw [if_neg c1,if_neg c2]
   rw [e0,if_neg (by simp),if_neg c1,if_neg c2];by_cases c3:jW b<jW a
   ·have c3':(jW b:Int)<(jW a:Int):=by omega
    simp [c3]
   ·by_cases c4:jW a<jW b
    ·simp [c3,c4]
    ·simp [c3,c4]
theorem EX (a b:ad):wu b a = - wu a b:=by
 unfold wu;by_cases c1:a.Cost*jW b<b.Cost*jW a
 ·rw [if_neg (by omega),if_pos c1,if_pos c1]; rfl
 ·by_cases c2:b.Cost*jW a<a.Cost*jW b
  ·rw [if_pos c2,if_neg c1,if_pos c2]
  ·rw [if_neg c2,if_neg c1,if_neg c1,if_neg c2];by_cases c3:jW b<jW a
   ·rw [if_neg (by omega),if_pos c3,if_pos c3]; rfl
   ·by_cases c4:jW a<jW b
    ·rw [if_pos c4,if_neg c3,if_pos c4]
    ·rw [if_neg c4,if_neg c3,if_neg c3,if_neg c4];exact oB a.Key b.Key
theorem A3 {p q r x y z:Int} (hx:0<x) (hy:0<y) (hz:0<z) (h1:p*y≤q*x) (h2:q*z≤r*y):p*z≤r*x∧(p*z=r*x→p*y=q*x∧q*z=r*y):=by
 have a1:p*y*z≤q*x*z:=zR h1 (by omega);have a2:q*z*x≤r*y*x:=zR h2 (by omega);have e1:p*y*z=p*z*y:=by rw [tP,Int.mul_comm y z,← tP]
 have e2:q*x*z=q*z*x:=by rw [tP,Int.mul_comm x z,← tP]
 have e3:r*y*x=r*x*y:=by rw [tP,Int.mul_comm y x,← tP]
 refine⟨Int.le_of_mul_le_mul_right (a:=y) (by omega) hy,fun h=>?_⟩;have e4:p*z*y=r*x*y:=by rw [h]
 exact⟨Int.eq_of_mul_eq_mul_right (a:=z) (by omega) (by omega),Int.eq_of_mul_eq_mul_right (a:=x) (by omega) (by omega)⟩
theorem BW {a b:ad}:wu a b≤0↔a.Cost*jW b<b.Cost*jW a∨(a.Cost*jW b=b.Cost*jW a∧(jW b<jW a∨(jW a=jW b∧cq a.Key b.Key≤0))):=by
 unfold wu;by_cases c1:a.Cost*jW b<b.Cost*jW a
 ·rw [if_pos c1]; exact⟨fun _=>.inl c1,fun _=>by omega⟩
 ·rw [if_neg c1];by_cases c2:b.Cost*jW a<a.Cost*jW b
  ·rw [if_pos c2];exact⟨fun h=>absurd h (by omega),fun h=>by rcases h with h | ⟨h,_⟩ <;> omega⟩
  ·rw [if_neg c2];have e:a.Cost*jW b=b.Cost*jW a:=by omega
   by_cases c3:jW b<jW a
   ·rw [if_pos c3]; exact⟨fun _=>.inr ⟨e,.inl c3⟩,fun _=>by omega⟩
   ·rw [if_neg c3];by_cases c4:jW a<jW b
    ·rw [if_pos c4];exact⟨fun h=>absurd h (by omega),fun h=>by rcases h with h | ⟨_,h | ⟨h,_⟩⟩ <;> omega⟩
    ·rw [if_neg c4];exact⟨fun h=>.inr ⟨e,.inr ⟨by omega,h⟩⟩,fun h=>by rcases h with h | ⟨_,h | ⟨_,h⟩⟩; omega; omega; exact h⟩
theorem xW {a b c:ae} (h1:cq a b≤0) (h2:cq b c≤0):cq a c≤0:=by
 rcases qh a b with h | h | h
 ·rcases qh b c with k | k | k
  ·have:=mJ h k; omega
  ·rw [← k]; omega
  ·have:=oB c b; omega
 ·rw [h]; exact h2
 ·have:=oB b a; omega
theorem DF {a b c:ad} (h1:wu a b≤0) (h2:wu b c≤0):wu a c≤0:=by
 have pa:=zL a; have pb:=zL b; have pc:=zL c;rw [BW] at *;have l1:a.Cost*jW b≤b.Cost*jW a:=by rcases h1 with h | h; omega; exact Int.le_of_eq h.1
 have l2:b.Cost*jW c≤c.Cost*jW b:=by rcases h2 with h | h; omega; exact Int.le_of_eq h.1
 obtain⟨r1,r2⟩:=A3 (x:=(jW a:Int)) (y:=(jW b:Int)) (z:=(jW c:Int)) (by omega) (by omega) (by omega) l1 l2;by_cases e:a.Cost*jW c=c.Cost*jW a
 ·obtain⟨e1,e2⟩:=r2 e;refine .inr ⟨e,?_⟩;rcases h1 with h1 | ⟨_,h1⟩
  ·omega
  ·rcases h2 with h2 | ⟨_,h2⟩
   ·omega
   ·rcases h1 with h1 | ⟨h1,k1⟩
    ·rcases h2 with h2 | ⟨h2,_⟩ <;> (left; omega)
    ·rcases h2 with h2 | ⟨h2,k2⟩
     ·left; omega
     ·right; exact⟨by omega,xW k1 k2⟩
 ·left; omega
structure Jh (d0:List ad) (i j:Nat) (d:List ad):Prop where
 perm:d.Perm d0
 le:j≤i
 lt:i<d.length
 rest:∀ (p q:Nat) (x y:ad),p<q→q≤i→p≠j→q≠j→d[p]? = some x→d[q]? = some y→wu x y≤0
 up:∀ (q:Nat) (x y:ad),j<q→q≤i→d[j]? = some x→d[q]? = some y→wu x y≤0
section
variable {d0:List ad} (hc:∀ r∈d0,yZ r) (hl:d0.length≤1000000)
include hc hl
theorem EG {i:Nat}:∀ (j:Nat) (d:List ad),Jh d0 i j d→∃ d',loop (fun s:List ad×Int=>du 0 cF s.1 s.2) (d,(j:Int))=some d'∧d'.Perm d0∧∀ (p q:Nat) (x y:ad),p<q→q≤i→d'[p]? = some x→d'[q]? = some y→wu x y≤0
 | 0,d,h=>⟨d,iA (by unfold du; rfl),h.perm,fun p q x y hpq hq hx hy=>by
   rcases vR p with rfl | hp
   ·exact h.up q x y hpq hq hx hy
   ·exact h.rest p q x y hpq hq (by omega) (by omega) hx hy⟩
 | j+1,d,h=>by
  have hlen:=h.perm.length_eq;have hji:=h.le;have hi:=h.lt;have hj1:j+1<d.length:=by omega
  have hj:j<d.length:=by omega
  have g1:d[j+1]? = some d[j+1]:=bC hj1;have g0:d[j]? = some d[j]:=bC hj;have c1:yZ d[j+1]:=hc _ (h.perm.mem_iff.1 (iL hj1));have c0:yZ d[j]:=hc _ (h.perm.mem_iff.1 (iL hj));have ew:IntKind.i64.wrap (((j+1:Nat):Int)-1)=(j:Int):=by rw [oA (by omega) (by omega)]; omega
  have eb:du 0 cF d ((j+1:Nat):Int)=cond (decide (wu d[j+1] d[j]<0)) (some (.go ((d.set (j+1) d[j]).set j d[j+1],(j:Int)))) (some (.out d)):=by
   unfold du;rw [decide_eq_true (show (0:Int)<((j+1:Nat):Int) by omega),cond_true,ew,bf,bf,g1,aD,g0,aD,DG c1 c0,aD,aD,aD,aD,oe,oe,bf,tl (by omega),g0,aD]
  by_cases hlt:wu d[j+1] d[j]<0
  ·have hp:Jh d0 i j ((d.set (j+1) d[j]).set j d[j+1]):=by
    refine⟨(List.set_set_perm hj1 hj).trans h.perm,by omega,by simp; omega,fun p q x y hpq hq hpj hqj hx hy=>?_,fun q x y hjq hq hx hy=>?_⟩
    ·rw [tl (by omega)] at hx hy;by_cases ep:p=j+1
     ·subst ep;rw [tg hj1] at hx;rw [tl (by omega)] at hy;injection hx with hx;subst hx;exact h.rest j q _ y (by omega) hq (by omega) (by omega) g0 hy
     ·rw [tl (by omega)] at hx;by_cases eq:q=j+1
      ·subst eq;rw [tg hj1] at hy;injection hy with hy;subst hy;exact h.rest p j x _ (by omega) (by omega) (by omega) (by omega) hx g0
      ·rw [tl (by omega)] at hy;exact h.rest p q x y hpq hq (by omega) (by omega) hx hy
    ·rw [tg (by simp; omega)] at hx;injection hx with hx;subst hx;rw [tl (by omega)] at hy;by_cases eq:q=j+1
     ·subst eq;rw [tg hj1] at hy;injection hy with hy;subst hy;omega
     ·rw [tl (by omega)] at hy;exact h.up q _ y (by omega) hq g1 hy
   obtain⟨d',e1,e2,e3⟩:=EG j _ hp;exact⟨d',by rw [wq (s':=((d.set (j+1) d[j]).set j d[j+1],(j:Int))) (by rw [eb,decide_eq_true hlt]; rfl)]; exact e1,e2,e3⟩
  ·refine⟨d,iA (by rw [eb,decide_eq_false hlt]; rfl),h.perm,fun p q x y hpq hq hx hy=>?_⟩;have hle:wu d[j] d[j+1]≤0:=by rw [EX]; omega
   by_cases eq:q=j+1
   ·subst eq;rw [g1] at hy;injection hy with hy;subst hy;by_cases ep:p=j
    ·subst ep;rw [g0] at hx;injection hx with hx;subst hx;exact hle
    ·exact DF (h.rest p j x _ (by omega) (by omega) (by omega) (by omega) hx g0) hle
   ·by_cases ep:p=j+1
    ·subst ep;exact h.up q x y hpq hq hx hy
    ·exact h.rest p q x y hpq hq ep eq hx hy
theorem GO:∃ d',jq cF d0 0 (d0.length:Int)=some d'∧d'.Perm d0∧d'.Pairwise fun a b=>wu a b≤0:=by
 have key:Ok ((loop (fun s:List ad×Int=>fQ 0 (d0.length:Int) cF s.1 s.2) (d0,IntKind.i64.wrap (0+1))).bind fun r=>jc r) fun d'=>d'.Perm d0∧d'.Pairwise fun a b=>wu a b≤0:=by
  refine bK (fun n s=>s.2=((n+1:Nat):Int)∧s.1.Perm d0∧∀ (p q:Nat) (x y:ad),p<q→q≤n→s.1[p]? = some x→s.1[q]? = some y→wu x y≤0) (fun d'=>d'.Perm d0∧∀ (p q:Nat) (x y:ad),p<q→d'[p]? = some x→d'[q]? = some y→wu x y≤0) d0.length ⟨rfl,List.Perm.refl _,fun p q x y h1 h2=>by omega⟩ (fun n s hn hI=>?_) (fun d' h=>aq ⟨h.1,?_⟩)
  ·obtain⟨d,i⟩:=s;obtain⟨h1,h2,h3⟩:=hI;dsimp only at h1 h2 h3;subst h1;have hlen:=h2.length_eq;dsimp only;unfold fQ;by_cases hlt:n+1<d0.length
   ·rw [decide_eq_true (show ((n+1:Nat):Int)<(d0.length:Int) by omega),cond_true];obtain⟨d',e1,e2,e3⟩:=EG hc hl (n+1) d (i:=n+1) ⟨h2,cM _,by omega,fun p q x y a1 a2 a3 a4 hx hy=>h3 p q x y a1 (by omega) hx hy,fun q x y a1 a2=>by omega⟩;rw [e1,aD];unfold jd;exact aq ⟨by omega,cR (by omega),e2,e3⟩
   ·rw [decide_eq_false (show ¬ ((n+1:Nat):Int)<(d0.length:Int) by omega),cond_false];exact aq ⟨h2,fun p q x y a1 hx hy=>h3 p q x y a1 (by have:=aW hy; omega) hx hy⟩
  ·rw [gw];exact fun p q hp hq hpq=>h.2 p q _ _ hpq (bC hp) (bC hq)
 obtain⟨d',e,h⟩:=key;exact⟨d',e,h⟩
end
end
section
open Go.RowKit
open Go.Lib hiding intOf
theorem HD {α:Type} {c:Bool} {x:Option α} (h:c=true):gd c x=x:=by rw [h]; rfl
theorem DS {d0:List ad} (hc:∀ r∈d0,yZ r) (hl:d0.length<20):∃ d',ga cF d0=some d'∧d'.Perm d0∧d'.Pairwise fun a b=>wu a b≤0:=by
 obtain⟨d',h1,h2,h3⟩:=GO hc (by omega);refine⟨d',?_,h2,h3⟩;have e1:loop (fun s:(List ad)×Int×Int=>gY (d0.length:Int) cF s.1 s.2.1 s.2.2) (d0,0,20)=some (d0,0):=iA (by
  dsimp only;unfold gY;rw [decide_eq_false (show ¬ (20:Int)≤(d0.length:Int) by omega),cond_false])
 have e2:loop (fun s:(List ad)×Int=>gX (d0.length:Int) cF s.1 s.2) (d',20)=some d':=iA (by
  dsimp only;unfold gX;rw [decide_eq_false (show ¬ (20:Int)<(d0.length:Int) by omega),cond_false])
 unfold ga nz;rw [e1,aD];unfold gW;rw [h1,aD,e2];rfl
theorem AZ {l:List ad} (hc:∀ r∈l,yZ r) (hl:l.length<20):∃ s:List ad,ly l=some (s.map ad.Key)∧s.Perm l∧s.Pairwise fun a b=>wu a b≤0:=by
 obtain⟨s,h1,h2,h3⟩:=DS hc hl;refine⟨s,?_,h2,h3⟩;have hlen:=h2.length_eq;unfold ly;rw [yn (by unfold Rm; omega),aD,h1,aD];rw [show loop (fun t:(List ae)×Int=>gC s t.1 t.2) (([]:List ae),0)=some (s.map ad.Key) from d7 (xs:=s) (fun n=>((s.take n).map ad.Key,(n:Int))) rfl (fun n r hx=>by
  have hn:=aW hx;dsimp only;unfold gC;rw [fC hx,cond_true,bf,hx,aD,HD (ey (by simp; omega)),cR (by omega),bM hx,vO];rfl) (by
  dsimp only;unfold gC;rw [bS,lJ]; rfl)]
 rfl
def zy (l:List ae) (k:ae):Bool:=l.any fun x=>db k x
theorem Ak {l:List ae} (hl:Rm l.length) (k:ae):lQ l k=some (zy l k):=by
 unfold Rm at hl;have key:=lj (B:=fun t:Int=>io l k t) (xs:=l) (fun x=>db k x) (fun k=>(k:Int)) (s0:=0) rfl (y:=fun k _=>Fl.out (k:Int)) (n:=Fl.go ()) (fun j x hx hp=>by
   unfold io;unfold db at hp;rw [fC hx,cond_true,bf,hx,aD,hp,cond_false,cR (by have:=aW hx; omega)]) (fun j x hx hp=>by
   unfold io;unfold db at hp;rw [fC hx,cond_true,bf,hx,aD,hp,cond_true]) (by
   unfold io;rw [bS]; rfl)
 unfold lQ sG zy;rcases key with⟨j,x,h1,h2,h3,h4⟩|⟨h1,h2⟩
 ·rw [h4,rx.2 ⟨x,aH h1,h2⟩];show some (decide ((0:Int)≤(j:Int)))=_;rw [decide_eq_true (by omega)]
 ·rw [h2,show (l.any fun x=>db k x)=false from by
   rw [C2]; intro x hx; rw [h1 x hx]; simp]
  rfl
def cy (keep:List ae) (s:List ad):List ad:=s.filter fun r=>!zy keep r.Key
def lV (l:List ad) (gone:List ae):List ad:=l.filter fun r=>!zy gone r.Key
theorem BR (l:List ad) (g:List ae) (k:ae):Cu (lV l g) k=lV l (g++[k]):=by
 unfold Cu lV zy;rw [List.filter_filter];apply List.filter_congr;intro r hr;rw [List.any_append,List.any_cons,List.any_nil,Bool.or_false];simp [Bool.and_comm]
theorem Dz (l:List ad):lV l []=l:=by
 unfold lV zy;simp
theorem DA {l:List ad} (h:C9 l) (g:List ae):C9 (lV l g):=by
 refine⟨?_,fun r hr=>h.2 r (gc.1 hr).1⟩;have:=h.1;have h2:(lV l g).length≤l.length:=C1 _ _;unfold Rm at *; omega
theorem Dq {l:List ad} (h:Bw l) {r:ad} (hr:r∈l):aS l r.Key=(r,true):=jp h hr rfl
theorem BP {b:ai} {s:List ad} {keep:List ae} {n:Int} (hb:C9 b.Records) (ha:Bw b.Records) (hz:∀ r∈b.Records,xR r) (h20:b.Records.length<100) (hk:Rm keep.length) (hp:s.Perm b.Records) :
  ∃ m,m≤(cy keep s).length∧(m=(cy keep s).length∨(fB s:Int)-fB ((cy keep s).take m)≤n)∧(∀ j,j<m→n<(fB s:Int)-fB ((cy keep s).take j)) ∧
   loop (fun t:Int×(List ae)×Int×(List ad)=>e9 b n keep (s.map ad.Key) t.1 t.2.1 t.2.2.1 t.2.2.2) ((fB s:Int),([]:List ae),0,b.Records)=some (((cy keep s).take m).map ad.Key,lV b.Records (((cy keep s).take m).map ad.Key)):=by
 have hlen:=hp.length_eq;have hzs:∀ r∈s,xR r:=fun r hr=>hz r (hp.mem_iff.1 hr);have hs1:=zK hzs;have key:Ok ((loop (fun t:Int×(List ae)×Int×(List ad)=>e9 b n keep (s.map ad.Key) t.1 t.2.1 t.2.2.1 t.2.2.2) ((fB s:Int),([]:List ae),0,b.Records)).bind fun r=>some r) fun r=>∃ m,m≤(cy keep s).length∧(m=(cy keep s).length∨(fB s:Int)-fB ((cy keep s).take m)≤n)∧(∀ j,j<m→n<(fB s:Int)-fB ((cy keep s).take j))∧r=(((cy keep s).take m).map ad.Key,lV b.Records (((cy keep s).take m).map ad.Key)):=by
  refine bK (fun i t=>∃ m,m=(cy keep (s.take i)).length∧t=((fB s:Int)-fB (cy keep (s.take i)),(cy keep (s.take i)).map ad.Key,(i:Int),lV b.Records ((cy keep (s.take i)).map ad.Key))∧∀ j,j<m→n<(fB s:Int)-fB ((cy keep s).take j)) (fun r=>∃ m,m≤(cy keep s).length∧(m=(cy keep s).length∨(fB s:Int)-fB ((cy keep s).take m)≤n)∧(∀ j,j<m→n<(fB s:Int)-fB ((cy keep s).take j))∧r=(((cy keep s).take m).map ad.Key,lV b.Records (((cy keep s).take m).map ad.Key))) s.length
   ⟨0,rfl,?_,fun j h=>by omega⟩ (fun i t hi hI=>?_) (fun r hr=>aq hr)
  ·rw [List.take_zero];show _=((fB s:Int)-fB (cy keep []),([]:List ad).map ad.Key,((0:Nat):Int),lV b.Records (([]:List ad).map ad.Key));rw [xA,Dz];simp [fB,cy]
  ·obtain⟨m,rfl,rfl,hj⟩:=hI;have hsplit:cy keep s=cy keep (s.take i)++cy keep (s.drop i):=by
    unfold cy;rw [← lI,Bt]
   have htake:(cy keep s).take (cy keep (s.take i)).length=cy keep (s.take i):=by rw [hsplit,List.take_left]
   have hle:(cy keep (s.take i)).length≤(cy keep s).length:=by rw [hsplit,cW]; omega
   have hfl:(cy keep (s.take i)).length≤s.length:=cH (C1 _ _) (by rw [il]; omega);dsimp only;unfold e9;rw [od];by_cases hlt:i<s.length
   ·have hx:s[i]? = some s[i]:=bC hlt;have hm:s[i]∈s:=iL hlt;have hmr:s[i]∈b.Records:=hp.mem_iff.1 hm;rw [decide_eq_true (show (i:Int)<(s.length:Int) by omega),cond_true,bf,rH,hx,nZ,aD];by_cases hn:(fB s:Int)-fB (cy keep (s.take i))≤n
    ·rw [decide_eq_true hn,cond_true];exact aq ⟨_,hle,.inr (by rw [htake]; exact hn),hj,by rw [htake]⟩
    ·rw [decide_eq_false hn,cond_false,Ak hk,aD];cases hkk:zy keep s[i].Key with
     | true =>
      have e:cy keep (s.take (i+1))=cy keep (s.take i):=by
       rw [bM hx];unfold cy;rw [lI];simp [hkk]
      rw [cond_true];unfold gB;exact aq ⟨hlt,_,rfl,by rw [e,cR (by omega)],by rw [e]; exact hj⟩
     | false =>
      have e:cy keep (s.take (i+1))=cy keep (s.take i)++[s[i]]:=by
       rw [bM hx];unfold cy;rw [lI];simp [hkk]
      have h1:=(hzs _ hm).le;have h2:=zK (l:=cy keep (s.take i)) fun r hr=>hzs r (List.mem_of_mem_take (gc.1 hr).1);rw [cond_false,Gi hb,aD,Dq ha hmr];dsimp only;rw [wv (hzs _ hm),aD,HD (ey (by simp; omega)),Gf (DA hb _),aD,BR];unfold gB;refine aq ⟨hlt,_,rfl,?_,?_⟩
      ·rw [e,cR (by omega),vO,yP,oA (by omega) (by omega)];congr 1;omega
      ·rw [e];intro j hjj;rw [cW,vP] at hjj;by_cases hje:j=(cy keep (s.take i)).length
       ·rw [hje,htake]; omega
       ·exact hj j (by omega)
   ·rw [decide_eq_false (show ¬ (i:Int)<(s.length:Int) by omega),cond_false];have e:s.take i=s:=Bq (by omega);rw [e] at hj ⊢;exact aq ⟨_,cM _,.inl rfl,hj,by rw [lJ]⟩
 obtain⟨r,e,m,h1,h2,h3,rfl⟩:=key;refine⟨m,h1,h2,h3,?_⟩;cases hL:loop (fun t:Int×(List ae)×Int×(List ad)=>e9 b n keep (s.map ad.Key) t.1 t.2.1 t.2.2.1 t.2.2.2) ((fB s:Int),([]:List ae),0,b.Records) with
 | none=>rw [hL] at e; cases e
 | some q=>rw [hL] at e; exact e
end
section
open Go.RowKit
open Go.Lib hiding intOf
theorem IS {m:Option Bool} (h:Ok m fun r=>r=true):m=some true:=by obtain⟨v,e,rfl⟩:=h; exact e
section
variable {l:List aI} {b:ai}
end
theorem AL {t:List Int} (h:¬ t.length≤400):ln t=some false:=by
 unfold ln;rw [decide_eq_false (by omega)]
theorem BS {t:List Int} (h:t.length≤400):ln t=some true:=by
 unfold ln;rw [decide_eq_true (by omega)]
end
section
open Go.RowKit
open Go.Lib hiding intOf
theorem yu {n:Nat} (h:n<100):(bU n).size≤4:=by
 have h1:(bU n).size=(itoa n).length:=by simp [bU,ByteArray.size]
 have:=tZ n 3 (by omega);rw [h1,jr]; omega
theorem mB.sz {l:List aI} {rev:Int} {r:ad} (h:mB l rev r) (hl:l.length≤8):xR r:=by
 obtain⟨n,hn,e⟩:=h.key;refine⟨?_,by have:=h.value; omega,by have:=h.reads; omega⟩;rw [e];have:=yu (n:=n) (by omega);show (bU n).size≤1073741824;omega
theorem mB.sm {l:List aI} {rev:Int} {r:ad} (h:mB l rev r) (hl:l.length≤8):jW r≤10016:=by
 obtain⟨n,hn,e⟩:=h.key;have h1:=yu (n:=n) (by omega);have h2:r.Key.Text.size≤4:=by rw [e]; exact h1
 have h3:=h.value;have h4:=h.reads;unfold jW; omega
theorem mB.co {l:List aI} {rev:Int} {r:ad} (h:mB l rev r) (hl:l.length≤8):yZ r:=⟨h.sz hl,by have:=h.cost; omega,by have:=h.cost; omega⟩
theorem dt.sz {l:List aI} {b:ai} (h:dt l b) (hl:l.length≤8):∀ r∈b.Records,xR r:=fun r hr=>(h.recs r hr).sz hl
theorem dt.co {l:List aI} {b:ai} (h:dt l b) (hl:l.length≤8):∀ r∈b.Records,yZ r:=fun r hr=>(h.recs r hr).co hl
structure Mv (b:ai) (n:Int) (keep:List ae) (s:List ad) (m:Nat):Prop where
 le:m≤(cy keep s).length
 fit:m=(cy keep s).length∨(fB s:Int)-fB ((cy keep s).take m)≤n
 need:∀ j,j<m→n<(fB s:Int)-fB ((cy keep s).take j)
 is:jm b n keep=some (ai.mk b.Revision b.Inputs (lV b.Records (((cy keep s).take m).map ad.Key)),((cy keep s).take m).map ad.Key,0)
theorem Au {l:List aI} {b:ai} (h:dt l b) (hl:l.length≤8) {n:Int} (h0:0≤n) (h1:n≤1073741824) {keep:List ae} (hk:Rm keep.length) {s:List ad} (ho:ly b.Records=some (s.map ad.Key)) (hp:s.Perm b.Records):∃ m,Mv b n keep s m:=by
 have hn:=h.nrec;obtain⟨m,m1,m2,m3,m4⟩:=BP (n:=n) (keep:=keep) (h.rm hl).1 h.recsA (h.sz hl) (by omega) hk hp;refine⟨m,m1,m2,m3,?_⟩;have et:=Bc (h.sz hl) (by omega);rw [← DU hp] at et;unfold jm;rw [Fd h hl,aD,decide_eq_false (by omega),decide_eq_false (by omega),GX h hl];simp only [im,cond_false];rw [aD,et,aD,ho,aD,m4,aD];rfl
end
section
open Go.RowKit
open Go.Lib hiding intOf
theorem IH:bU ((0:Nat):Int)=ByteArray.mk #[48]:=by
 unfold bU;rw [jr,(Ew (l:=[48]) (n:=0) (by decide)).1]
theorem II:bU ((1:Nat):Int)=ByteArray.mk #[49]:=by
 unfold bU;rw [jr,(Ew (l:=[49]) (n:=1) (by decide)).1]
theorem CA:cq (ae.mk 31 (ByteArray.mk #[48])) (ae.mk 31 (ByteArray.mk #[49]))<0:=by
 unfold cq;rw [if_neg (Int.lt_irrefl _),if_neg (Int.lt_irrefl _)];show compareBytes (ByteArray.mk #[48]).toList (ByteArray.mk #[49]).toList<0;rw [ByteArray.toList_eq,ByteArray.toList_eq];decide
theorem Ci:lz=some true:=by
 let a:ad:=ad.mk (ae.mk 31 (ByteArray.mk #[48])) (ByteArray.mk #[49]) ([]) 0 0 2 false
 let b:ad:=ad.mk (ae.mk 31 (ByteArray.mk #[49])) (ByteArray.mk #[49]) ([]) 0 0 1 false
 let r:aI:=⟨false,[],0,0⟩
 have k0:a.Key=rk [r,r] 0:=by
  show (ae.mk 31 (ByteArray.mk #[48]))=_;unfold rk aU;rw [IH];rfl
 have k1:b.Key=rk [r,r] 1:=by
  show (ae.mk 31 (ByteArray.mk #[49]))=_;unfold rk aU;rw [II];rfl
 have hB:dt [r,r] (ai.mk 0 [] [a,b]):=by
  refine⟨⟨ru _,by show (0:Int)≤1000000; omega⟩,fun x hx=>absurd hx mA,vr,?_,?_⟩
  ·intro x hx;rcases dQ.1 hx with rfl | hx
   ·exact⟨⟨0,by decide,k0⟩,by show (ByteArray.mk #[49]).size≤1000; decide,ez _,fun k hk=>absurd hk mA,ru _,ru _,ru _,⟨by show (1:Int)≤2; omega,by show (2:Int)≤30000; omega⟩,fun h=>by cases h⟩
   ·rw [dq.1 hx];exact⟨⟨1,by decide,k1⟩,by show (ByteArray.mk #[49]).size≤1000; decide,ez _,fun k hk=>absurd hk mA,ru _,ru _,ru _,⟨by show (1:Int)≤1; omega,by show (1:Int)≤30000; omega⟩,fun h=>by cases h⟩
  ·refine List.Pairwise.cons (fun x hx=>?_) (I4 _ _);rw [dq.1 hx];exact CA
 have za:jW a=18:=by decide
 have zb:jW b=18:=by decide
 obtain⟨s,o1,o2,o3⟩:=AZ (hB.co (by decide)) (by show [a,b].length<20; decide);have hab:¬ wu a b≤0:=by
  rw [BW,za,zb];show ¬ ((2:Int)*((18:Nat):Int)<1*((18:Nat):Int)∨(2:Int)*((18:Nat):Int)=1*((18:Nat):Int)∧_);omega
 have hs:s=[b,a]:=by
  have hlen:s.length=2:=o2.length_eq
  match s,hlen with
  | [x,y],_ =>
   have hx:x∈[a,b]:=o2.mem_iff.1 px;have hy:y∈[a,b]:=o2.mem_iff.1 (tR _ px);have ha:a∈[x,y]:=o2.mem_iff.2 px;have hb:b∈[x,y]:=o2.mem_iff.2 (tR _ px);have hne:a≠b:=by intro h; rw [h] at hab; exact hab (by rw [BW]; exact .inr ⟨rfl,.inr ⟨rfl,Int.le_of_eq (sH _)⟩⟩)
   have hxy:wu x y≤0:=(vt.1 o3).1 y px;simp only [dQ,mA,or_false] at hx hy ha hb;rcases hx with rfl | rfl
   ·rcases hy with rfl | rfl
    ·rcases hb with h | h <;> exact absurd h.symm hne
    ·exact absurd hxy hab
   ·rcases hy with rfl | rfl
    ·rfl
    ·rcases ha with h | h <;> exact absurd h hne
 subst hs;obtain⟨m,e⟩:=Au hB (by decide) (n:=20) (by omega) (by omega) (keep:=[]) (by unfold Rm; simp) o1 o2;have hf:cy [] [b,a]=[b,a]:=by unfold cy zy; simp
 have hle:=e.le;have hfit:=e.fit;have hneed:=e.need;have his:=e.is;rw [hf] at hle hfit hneed his;have t0:fB [b,a]=36:=by simp only [sO,za,zb]; rfl
 have t1:fB ([b,a].take 1)=18:=by show fB [b]=18; simp only [sO,zb]; rfl
 have m1:m=1:=by
  match m,hle with
  | 0,_ =>
   rcases hfit with h | h
   ·cases h
   ·rw [t0,List.take_zero] at h;exact absurd h (by show ¬ ((36:Nat):Int)-((0:Nat):Int)≤20; omega)
  | 1,_=>rfl
  | 2,_=>have:=hneed 1 (by omega); rw [t0,t1] at this; omega
  | n+3,h=>exact absurd h (by simp)
 subst m1;have hleft:lV [a,b] [b.Key]=[a]:=by
  unfold lV zy;have h1:db a.Key b.Key=false:=ue.2 (oq CA);have h2:db b.Key b.Key=true:=sI _;simp [List.filter_cons,h1,h2]
 unfold lz;show ((jm (ai.mk 0 [] [a,b]) 20 []).bind _)=_;rw [his,aD];show (cond ((0:Int)==0) ((gO [b.Key] [b.Key]).bind _) _)=_;rw [yh (by unfold Rm; simp)];show cond (((((lV [a,b] [b.Key]).length:Int):Int)==1)) ((jo (lV [a,b] [b.Key])).bind _) _=_;rw [hleft,Bc (l:=[a]) (fun x hx=>by rw [dq.1 hx]; exact hB.sz (by decide) a px) (by simp)];show cond (((([a]:List ad).length:Int)==1)) (fa (((fB [a]:Int))==18)) _=_;rw [show fB [a]=18 by simp only [sO,za]; rfl];rfl
end
section
open Go.RowKit
theorem KV:aP aO 31=true:=by kernel_rfl
theorem Lb:aP aO 64=true:=by kernel_rfl
end
section
set_option maxRecDepth 100000
set_option maxHeartbeats 4000000
open Go.RowKit
noncomputable section
def nO (b:LU) (f:ai) (g:ae):Option Int:=(lD b).bind fun c=>cond (!(c)) (some (41)) ((ic f).bind fun d=>cond (!(d)) (some (42)) ((jK b g).bind fun e=>cond (!(e)) (some (40)) (some (0))))
theorem yb (T:Nat→Prop) (W0:World) (hT:TW T W0) (hLv:dc T W0) (b:LU) (c:ai) (d:ae) (m:Value) (n:Value) (o:Value) (j:aC ar T W0 m b) (k:aC ab T W0 n c.Inputs) (l:aC aa T W0 o c.Records) (y:Int) (hM:nO b c d=some y):a7 aO No 64 [m,.agg (a6 c n o).toArray,.agg (aV d).toArray] W0 (fun v w'=>v=al y):=by
 refine en Tryz.func64 Tryz.ntmps64 hT fun a hS=>?_;replace hS:=(((hS.fact br (dc.dn hLv)).fS (aC.dn j)).fS (aC.dn k)).fS (aC.dn l);unfold nO at hM;refine am hS fun a hS=>?_;refine kb hS fun p r a w hk hS=>?_;refine kb hS fun q s a w hk hS=>?_;refine am hS fun a hS=>?_;refine ay ?_;refine am hS fun a hS=>?_;obtain⟨t,e,hM⟩:=bd hM;refine kc hS JW (ta _ _ hS.dlt b _ (hS.get 2 rfl) _ e) fun _ w hR a hk hA=>?_;obtain rfl:=hR;have hS:=ce hA;refine am hS fun a hS=>?_;rcases cd hM with⟨h,hM⟩|⟨h,hM⟩
 ·exact fz
 refine am hS fun a hS=>?_;obtain⟨u,f,hM⟩:=bd hM;refine kc hS F5 (nr _ _ hS.dlt (hS.get 3 rfl) c _ _ (hS.get 1 rfl) (hS.get 0 rfl) _ f) fun _ w hR a hk hA=>?_;obtain rfl:=hR;have hS:=ce hA;refine am hS fun a hS=>?_;rcases cd hM with⟨i,hM⟩|⟨i,hM⟩
 ·exact fz
 refine am hS fun a hS=>?_;obtain⟨x,g,hM⟩:=bd hM;refine kc hS Ib (pW _ _ hS.dlt (hS.get 3 rfl) b d _ (hS.get 2 rfl) _ g) fun _ w hR a hk hA=>?_;obtain rfl:=hR;have hS:=ce hA;exact fz
def jL (b:LU) (d:ai) (e:ae):Option (ByteArray×Int):=(nO b d e).bind fun c=>cond (c != 0) (some ((bW,c))) ((qn b d).bind fun f=>(vv f e).bind fun g=>some ((g.1,0)))
theorem ya (T:Nat→Prop) (W0:World) (hT:TW T W0) (hLv:dc T W0) (b:LU) (c:ai) (d:ae) (D:Value) (E:Value) (F:Value) (A:aC ar T W0 D b) (B:aC ab T W0 E c.Inputs) (C:aC aa T W0 F c.Records) (y:ByteArray×Int) (hM:jL b c d=some y):a7 aO No 31 [D,.agg (a6 c E F).toArray,.agg (aV d).toArray] W0 (fun v w'=>v = .tuple #[aZ y.1,al y.2]):=by
 refine en Tryz.func31 Tryz.ntmps31 hT fun a hS=>?_;replace hS:=(((hS.fact br (dc.dn hLv)).fS (aC.dn A)).fS (aC.dn B)).fS (aC.dn C);unfold jL at hM;refine am hS fun a hS=>?_;refine kb hS fun G U a w hk hS=>?_;refine kb hS fun H V a w hk hS=>?_;refine am hS fun a hS=>?_;refine ay ?_;refine am hS fun a hS=>?_;obtain⟨W,q,hM⟩:=bd hM;refine kc hS Lb (yb _ _ hS.dlt (hS.get 3 rfl) b c d _ _ _ (hS.get 2 rfl) (hS.get 1 rfl) (hS.get 0 rfl) _ q) fun _ w hR a hk hA=>?_;obtain rfl:=hR;have hS:=ce hA;refine am hS fun a hS=>?_;rcases cd hM with⟨t,hM⟩|⟨t,hM⟩
 ·refine am hS fun a hS=>?_;cases hM
  refine aG hS Tryz.results31 (aw hS rfl (aw hS rfl aF)) ?_;exact rfl
 refine am hS fun a hS=>?_;refine ay ?_;refine dr [(2,.bks []),(4,.any)] hS fun w hQ hS=>?_;refine gE [0,1] hS fun a hS=>?_;refine dy (l:=[.bks []]) 3 (v:=.agg (aV d).toArray) rfl (by kernel_rfl) (by kernel_rfl) (by kernel_rfl) (by kernel_rfl) hQ hS (dh hS rfl eJ 0 rfl (uT hS 0 rfl rfl [] rfl rfl bn) (us:=(aV d)) rfl rfl (fun h=>by cases h)) rfl rfl rfl fun a hS=>?_;obtain⟨z,r,hM⟩:=bd hM;replace hS:=hS.re [] [0,1];refine e1 2 (bv hS Ga rfl rfl (pD _ _ hS.dltD b c _ _ _ hS.dok (hS.getD 2 rfl) (hS.getD 1 rfl) (hS.getD 0 rfl) _ r) fun _ w hR a hk hA=>⟨ij rfl hk pQ,?_⟩);obtain⟨I,Y,Z,a0,J,P,L,K,Q,M,he,j,k,m,e,f,u⟩:=hR;obtain rfl:=he.symm;have hS:=hA _ u;replace hS:=((((hS.fS (j.sub (ap _))).fS (k.sub (ap _))).fS (m.sub (ap _))).fM (e.keep (aj _ _) (ap _))).fM (f.keep (aj _ _) (ap _));obtain⟨X,s,hM⟩:=bd hM;replace hS:=hS.re [0,1,2] [3,4];refine e1 4 (bv hS Es rfl rfl (LD _ _ hS.dltD z d _ _ _ _ _ _ _ _ _ _ hS.dok (hS.getD 4 rfl) (hS.getD 3 rfl) (hS.getD 2 rfl) (hS.getD 1 rfl) (hS.getD 0 rfl) (hS.getD 8 rfl) _ s) fun _ w hR a hk hA=>⟨ij rfl hk rS,?_⟩);obtain⟨a1,a2,a3,R,N,S,O,he,x,n,o,p,g,i⟩:=hR;obtain rfl:=he.symm;have hS:=hA _ x;replace hS:=((((hS.fS (n.sub (ap _))).fS (o.sub (ap _))).fS (p.sub (ap _))).fM (g.keep (aj _ _) (ap _))).fM (i.keep (aj _ _) (ap _));refine gE [5,6] hS fun a hS=>?_;refine eD ?_;refine am hS fun a hS=>?_;cases hM
 refine aG hS Tryz.results31 (aw hS rfl (aw hS rfl aF)) ?_;exact rfl
def dZ:Option Bool:=(lz).bind fun b=>some (b)
def d5 (h:(LU×ai×aY)) (c:(ai×Int)) (f:(LK×aY)) (d:(ai×LK×Int)) (b:Int):Option (Fl (Int) (Fl (Unit) Bool)):=cond (decide (b<(f.1.length:Int))) ((bk f.1 b).bind fun e=>(ir (ai.mk d.1.Revision d.1.Inputs d.1.Records) e).bind fun g=>(jL h.1 (ai.mk c.1.Revision c.1.Inputs c.1.Records) e).bind fun i=>cond (!(g.2)) (some (.out (.out false))) (cond (!(g.1.toList==i.1.toList)) (some (.out (.out false))) (some (.go (IntKind.i64.wrap (b+1)))))) (some (.out (.go ())))
def fU (b:(LU×ai×aY)) (g:Int) (h:Int) (i:LI) (j:LR):Option Bool:=(ip (aY.mk b.2.2.L b.2.2.At) 2).bind fun d=>(jE (ai.mk h i j) d.1).bind fun c=>(lm (aY.mk d.2.L d.2.At) b.1 3).bind fun e=>(iY uu b.1 (ai.mk c.1.Revision c.1.Inputs c.1.Records) e.1).bind fun f=>cond (g != 0) (some (false)) (cond (f.2.2 != 0) (some (false)) ((loop (fun s:Int=>d5 b c e f s) 0).bind fun r=>Fl.el r (fun s=>dZ) (fun y=>some (y))))
def eA (e:LN) (d:Int):Option Bool:=(ln e).bind fun f=>cond (!(f)) ((lz).bind fun g=>some (g)) ((u0 e).bind fun h=>(qj h 6).bind fun b=>(oZ d 250).bind fun i=>(jm (ai.mk b.2.1.Revision b.2.1.Inputs b.2.1.Records) i ([])).bind fun c=>fU b c.2.2 c.1.Revision c.1.Inputs c.1.Records)
theorem sT (T:Nat→Prop) (W0:World) (hT:TW T W0) (hLv:dc T W0) (Y:LN) (d:Int) (v1:Value) (fl:aC (aR.int .i64) T W0 v1 Y) (y:Bool) (hM:eA Y d=some y):a7 aO No 5 [v1,al d] W0 (fun v w'=>v = .bool y):=by
 refine en Tryz.func5 Tryz.ntmps5 hT fun a hS=>?_;replace hS:=(hS.fact br (dc.dn hLv)).fS (aC.dn fl);unfold eA at hM;refine am hS fun a hS=>?_;refine ay ?_;refine am hS fun a hS=>?_;obtain⟨h0,d3,hM⟩:=bd hM;refine kc hS MB (zA _ _ hS.dlt Y _ (hS.get 0 rfl) _ d3) fun _ w hR a hk hA=>?_;obtain rfl:=hR;have hS:=ce hA;refine am hS fun a hS=>?_;rcases cd hM with⟨e6,hM⟩|⟨e6,hM⟩
 ·refine am hS fun a hS=>?_;obtain⟨h1,d4,hM⟩:=bd hM;refine kc hS Mk (s6 _ _ hS.dlt (hS.get 1 rfl) _ d4) fun _ w hR a hk hA=>?_;obtain rfl:=hR;have hS:=ce hA;exact fz
 refine am hS fun a hS=>?_;obtain⟨c2,d6,hM⟩:=bd hM;refine kc hS KP (AU _ _ hS.dlt Y _ (hS.get 0 rfl) _ d6) fun _ w hR a hk hA=>?_;obtain⟨n,g,he,f5,a9,av⟩:=hR;obtain rfl:=he.symm;have hS:=hA [.box n (be c2 g) 73] (jj a9 (fun k hk=>by simp only [cc.dom,cE] at hk; omega)) (xa _);replace hS:=hS.fS (av.sub (ob _));refine am hS fun a hS=>?_;obtain⟨b,cl,hM⟩:=bd hM;refine wl rfl (lS hS KU rfl rfl 0 rfl (AS _ _ (hS.drop 0).dlt c2 6 _ _ (hS.boxRow 0 rfl) (hS.notin 0 rfl) (aC.lent (i:=0) rfl (hS.get 0 rfl)) (br.keep (hS.get 2 rfl) (aj _ _) (fun k hk=>.inl ((nE (i:=0) rfl k).1 hk))) _ cl) fun _ w hR hk=>?_);obtain⟨D,h4,u,o,h5,he,b0,b1,⟨af,a3,b2⟩,hrow,b3,G⟩:=hR;obtain rfl:=he.symm;subst G;refine⟨(be b.2.2 g),[ah u o],hrow,jj ⟨af,by decide⟩ a3,xa _,fun a hS=>?_⟩;replace hS:=(((hS.fR (b2.keep (aj _ _) (Nw.back2 (i:=0) rfl [ah u o] _))).fS (b0.sub (Nw.back2 (i:=0) rfl [ah u o] _))).fS (b1.sub (Nw.back2 (i:=0) rfl [ah u o] _))).fS (b3.sub (Nw.back2 (i:=0) rfl [ah u o] _));refine am hS fun a hS=>?_;refine ka hS lx fun fr g8 a w hk hS=>?_;refine go hS fun a w hS=>?_;refine aK (J:=fun a w=>∃ (Q:Int) (m:Int) (E:LI) (F:LR) (f:Nat) (x:Value) (K:LV) (z:Value) (M:LV),St W0 No T 92 [(5,pt n 0),(6,D),(8,pt f 0),(10,al Q)] [.box n (be b.2.2 g) 73,aQ x K,ah z M,.box f [al m,x,z] 25] [aL ar D b.1,aL (aR.int .i64) g b.2.2.L,an ab K E,an aa M F,br] a w∧fU b Q m E F=some y) ?_ ?_
 ·skip;obtain⟨N134,ca⟩:∃ N,N=w.heap.size:=⟨_,rfl⟩;replace hS:=hS.fact (Dc N134) (qB ca);refine dr [(3,.bks []),(9,.new N134)] hS fun w hQ hS=>?_;refine gE [0,1] hS fun a hS=>?_;obtain⟨U,W,hM⟩:=bd hM;refine dm (i:=2) (j:=8) rfl rfl (by kernel_rfl) rfl rfl ?_ ?_
  ·skip;skip;refine id (bz hS HY rfl rfl (tz _ _ hS.dlt d 250 _ W) fun _ w hR a hk hA=>⟨fA (hk),?_⟩);obtain rfl:=hR;have hS:=ce hA;replace hS:=(hS.freeze (R:=aa) 1 rfl 4 rfl).fact (aL ac (.slice none 0 0) []) (aC.nil_ _ _ _);obtain⟨h2,X,hM⟩:=bd hM;refine dm (i:=3) (j:=8) rfl rfl (by kernel_rfl) rfl rfl ?_ ?_
   ·skip;skip;replace hS:=hS.re [] [0,1];refine id (bv hS F6 rfl rfl (m7 _ _ hS.dltD (ai.mk b.2.1.Revision b.2.1.Inputs b.2.1.Records) U ([]) _ _ _ hS.dok (hS.getD 4 rfl) (hS.getD 1 rfl) (hS.getD 0 rfl) (hS.getD 9 rfl) _ X) fun _ w hR a hk hA=>⟨ij rfl hk pQ,?_⟩);obtain⟨h6,g0,h7,g1,h8,g2,he,b4,b5,b6,ea⟩:=hR;obtain rfl:=he.symm;have hS:=hA _ ea;replace hS:=((hS.fR (b4.keep (aj _ _) (ap _))).fR (b5.keep (aj _ _) (ap _))).fR (b6.keep (aj _ _) (ap _));refine gE [4,5,6,7] hS fun a hS=>?_;have eb:=(hS.get 5 rfl:N134≤w.heap.size);refine e1 8 (cC hS lx rfl fun ds ed a w hk hS=>⟨fA (hk),?_⟩);refine cL 9 (.blk (some ds)) _ (by kernel_rfl) (lR (cH eb ed)) ?_;refine es 9 hS fun w hS=>?_;refine gE [10,11] hS fun a hS=>?_;refine eD ?_;exact⟨_,_,_,_,_,_,_,_,_,hS.mt [5,1,2,0] [8,6,2,1,12],hM⟩
   skip;have ei:=(hS.get 2 rfl:N134≤w.heap.size);refine id (cC hS lx rfl fun e0 el a w hk hS=>⟨fA (hk),?_⟩);refine cL 9 (.blk (some e0)) _ (by kernel_rfl) (lR (cH ei el)) ?_;replace hS:=hS.re [] [0,1,2];refine e1 3 (bv hS F6 rfl rfl (m7 _ _ hS.dltD (ai.mk b.2.1.Revision b.2.1.Inputs b.2.1.Records) U ([]) _ _ _ hS.dok (hS.getD 4 rfl) (hS.getD 1 rfl) (hS.getD 0 rfl) (hS.getD 9 rfl) _ X) fun _ w hR a hk hA=>⟨ij rfl hk pQ,?_⟩);obtain⟨f2,e3,f3,e4,f4,e5,he,p,q,r,S⟩:=hR;obtain rfl:=he.symm;have hS:=hA _ S;replace hS:=((hS.fR (p.keep (aj _ _) (ap _))).fR (q.keep (aj _ _) (ap _))).fR (r.keep (aj _ _) (ap _));refine gE [4,5,6,7] hS fun a hS=>?_;refine es 9 hS fun w hS=>?_;refine gE [10,11] hS fun a hS=>?_;refine eD ?_;exact⟨_,_,_,_,_,_,_,_,_,hS.mt [5,0,1,3] [8,6,2,1,12],hM⟩
  skip;have ep:=(hS.get 0 rfl:N134≤w.heap.size);refine id (cC hS lx rfl fun e2 eq a w hk hS=>⟨fA (hk),?_⟩);refine cL 9 (.blk (some e2)) _ (by kernel_rfl) (lR (cH ep eq)) ?_;refine ec 2 hS HY (tz _ _ hS.dlt d 250 _ W) fun _ w hR a hk hA=>?_;obtain rfl:=hR;have hS:=ce hA;replace hS:=(hS.freeze (R:=aa) 2 rfl 4 rfl).fact (aL ac (.slice none 0 0) []) (aC.nil_ _ _ _);obtain⟨h3,dl,hM⟩:=bd hM;replace hS:=hS.re [] [0,1,2];refine e1 3 (bv hS F6 rfl rfl (m7 _ _ hS.dltD (ai.mk b.2.1.Revision b.2.1.Inputs b.2.1.Records) U ([]) _ _ _ hS.dok (hS.getD 4 rfl) (hS.getD 1 rfl) (hS.getD 0 rfl) (hS.getD 9 rfl) _ dl) fun _ w hR a hk hA=>⟨ij rfl hk pQ,?_⟩);obtain⟨f2,e3,f3,e4,f4,e5,he,p,q,r,S⟩:=hR;obtain rfl:=he.symm;have hS:=hA _ S;replace hS:=((hS.fR (p.keep (aj _ _) (ap _))).fR (q.keep (aj _ _) (ap _))).fR (r.keep (aj _ _) (ap _));refine gE [4,5,6,7] hS fun a hS=>?_;refine es 9 hS fun w hS=>?_;refine gE [10,11] hS fun a hS=>?_;refine eD ?_;exact⟨_,_,_,_,_,_,_,_,_,hS.mt [5,0,1,3] [8,6,2,1,12],hM⟩
 rintro a w ⟨Q,m,E,F,f,x,K,z,M,hS,hM⟩;unfold fU at hM;refine ay ?_;refine dr [(2,.blk (some n)),(7,.blk (some f))] hS fun w hQ hS=>?_;refine dy (l:=[.blk (some n)]) 0 (v:=.agg #[al m,x,z]) rfl (by kernel_rfl) (by kernel_rfl) (by kernel_rfl) (by kernel_rfl) hQ hS (dh hS rfl eZ 3 rfl (gA hS 3 rfl rfl 0 rfl rfl (by decide) bn) (us:=[al m,x,z]) rfl rfl (fun h=>by cases h)) rfl rfl rfl fun a hS=>?_;refine gE [1] hS fun a hS=>?_;obtain⟨C,d2,hM⟩:=bd hM;refine e1 2 (lS hS H1 rfl rfl 0 rfl (oX _ _ (hS.drop 0).dlt (aY.mk b.2.2.L b.2.2.At) 2 _ _ (hS.boxRow 0 rfl) (hS.notin 0 rfl) (aC.lent (i:=0) rfl (hS.get 1 rfl)) (br.keep (hS.get 4 rfl) (aj _ _) (fun k hk=>.inl ((nE (i:=0) rfl k).1 hk))) _ d2) fun _ w hR hk=>?_);obtain⟨V,O,h9,he,⟨ag,a4,b8⟩,hrow,b9,H⟩:=hR;obtain rfl:=he.symm;subst H;refine⟨(be C.2 g),[gL V O],hrow,jj ⟨ag,by decide⟩ a4,xa _,fun a hS=>⟨ij rfl hk hU,?_⟩⟩;replace hS:=((((hS.fR (b8.keep (aj _ _) (Nw.back2 (i:=0) rfl [gL V O] _))).fS (b9.sub (Nw.back2 (i:=0) rfl [gL V O] _))).freeze (R:=ab) 2 rfl 4 rfl).freeze (R:=aa) 2 rfl 6 rfl).freeze (R:=bc) 0 rfl 3 rfl;obtain⟨c,co,hM⟩:=bd hM;refine ec 3 hS H0 (pT _ _ hS.dlt (hS.get 9 rfl) (ai.mk m E F) C.1 _ _ _ (hS.get 2 rfl) (hS.get 1 rfl) (hS.get 0 rfl) _ co) fun _ w hR a hk hA=>?_;obtain⟨c3,g3,c4,g4,he,bb,bi,a2⟩:=hR;obtain rfl:=he.symm;have hS:=xN hA bb bi a2;refine gE [4,5,6] hS fun a hS=>?_;refine es 7 hS fun w hS=>?_;refine eD ?_;refine am hS fun a hS=>?_;obtain⟨t,cs,hM⟩:=bd hM;refine wl rfl (lS hS F7 rfl rfl 2 rfl (ou _ _ (hS.drop 2).dlt (aY.mk C.2.L C.2.At) b.1 3 _ _ _ (hS.boxRow 2 rfl) (hS.notin 2 rfl) (aC.lent (i:=2) rfl (hS.get 5 rfl)) (aC.lent (i:=2) rfl (hS.get 7 rfl)) (br.keep (hS.get 11 rfl) (aj _ _) (fun k hk=>.inl ((nE (i:=2) rfl k).1 hk))) _ cs) fun _ w hR hk=>?_);obtain⟨A,P,ha,he,⟨ak,a5,bl⟩,hrow,bs,I⟩:=hR;obtain rfl:=he.symm;subst I;refine⟨(be t.2 g),[ax A P],hrow,jj ⟨ak,by decide⟩ a5,xa _,fun a hS=>?_⟩;replace hS:=(hS.fR (bl.keep (aj _ _) (Nw.back2 (i:=2) rfl [ax A P] _))).fS (bs.sub (Nw.back2 (i:=2) rfl [ax A P] _));refine am hS fun a hS=>?_;replace hS:=((hS.freeze (R:=ab) 1 rfl 3 rfl).freeze (R:=aa) 1 rfl 3 rfl).freeze (R:=ac) 0 rfl 3 rfl;obtain⟨e,cv,hM⟩:=bd hM;refine kc hS JK (rE _ _ hS.dlt (hS.get 16 rfl) uu Mo b.1 (ai.mk c.1.Revision c.1.Inputs c.1.Records) t.1 _ _ _ _ (hS.get 12 rfl) (hS.get 2 rfl) (hS.get 1 rfl) (hS.get 0 rfl) _ cv) fun _ w hR a hk hA=>?_;obtain⟨c5,c9,a0,hb,g5,he,bt,c0,c1,a2⟩:=hR;obtain rfl:=he.symm;have hS:=xN hA c0 c1 a2;replace hS:=hS.fS (bt.sub (ob _));refine am hS fun a hS=>?_;refine ka hS lx fun Z gb a w hk hS=>?_;refine go hS fun a w hS=>?_;refine ay ?_;refine jg ?_;refine am hS fun a hS=>?_;rcases cd hM with⟨er,hM⟩|⟨er,hM⟩
 ·exact fz
 refine am hS fun a hS=>?_;rcases cd hM with⟨et,hM⟩|⟨et,hM⟩
 ·exact fz
 refine am hS fun a hS=>?_;refine aK (J:=fun a w=>St W0 No T 92 [] [] [br] a w∧dZ=some y) ?_ ?_
 ·skip;refine am hS fun a hS=>?_;obtain⟨r1,fd,hMo1⟩:=bd hM;refine bx _ (fun s a w=>∃ (B:Int),B=s∧St W0 No T 92 [(6,D),(8,pt f 0),(12,pt Z 0),(64,A),(65,al (t.1.length:Int)),(66,al B)] [.box f (a6 c.1 c3 c4) 25,ah c9 a0,.box Z (a6 e.1 c5 c9) 25] [aL ar D b.1,aL ac A t.1,aL ab c3 c.1.Inputs,aL aa c4 c.1.Records,aL ab c5 e.1.Inputs,an aa a0 e.1.Records,br] a w) fd ⟨_,rfl,hS.mt [4,1,0] [15,3,5,4,0,2,19]⟩ ?_;rintro s a w f1 ⟨B,rfl,hS⟩ hM hf1;have hM:d5 b c t e B=some f1:=hM;unfold d5 at hM;refine am hS fun a hS=>?_;refine ay ?_;rcases cd hM with⟨ew,hM⟩|⟨ew,hM⟩
  ·refine am hS fun a hS=>?_;refine ay ?_;refine am hS fun a hS=>?_;obtain⟨a1,ch,hM⟩:=bd hM;refine wl rfl (bu (R:=ac) hS mz eJ rfl rfl 1 rfl ch rfl fun fs gp g6 ex a hS=>?_);obtain rfl:=ex;refine am hS fun a hS=>?_;refine ka hS fE fun fM gi a w hk hS=>?_;refine go hS fun a w hS=>?_;have hL:=hS;replace hL:=hL.freeze (R:=aa) 2 rfl 6 rfl;obtain⟨gu,d0,hM⟩:=bd hM;refine kc hS JL (uw _ _ hL.dlt (ai.mk e.1.Revision e.1.Inputs e.1.Records) a1 _ _ (hL.get 6 rfl) (hL.get 0 rfl) _ d0) fun _ w hR a hk hA=>?_;obtain rfl:=hR;have hS:=ce hA;refine am hS fun a hS=>?_;obtain⟨gH,d1,hM⟩:=bd hM;refine kc hS KV (ya _ _ hS.dlt (hS.get 7 rfl) b.1 (ai.mk c.1.Revision c.1.Inputs c.1.Records) a1 _ _ _ (hS.get 1 rfl) (hS.get 3 rfl) (hS.get 4 rfl) _ d1) fun _ w hR a hk hA=>?_;obtain rfl:=hR;have hS:=ce hA;refine am hS fun a hS=>?_;refine jg ?_;exact fz
  exact fz
 rintro a w ⟨hS,hM⟩;unfold dZ at hM;refine am hS fun a hS=>?_;obtain⟨gs,ck,hM⟩:=bd hM;refine kc hS Mk (s6 _ _ hS.dlt (hS.get 0 rfl) _ ck) fun _ w hR a hk hA=>?_;obtain rfl:=hR;have hS:=ce hA;exact fz
end
end
section
open Go.RowKit
open Go.Lib hiding intOf
section
variable {l:List aI} {H:Int→ae→ByteArray} {b y:ai}
theorem G6 (hR:a8 l) (h:dt l b) {k:ae} (hk:kB l k):∃ v,jL l b k=some (v,0)∧v=vK l (inB b) k:=by
 have hl:=hR.high;have hb0:=(h.rm hl).2.1;have hD:=rQ (inB b) hR;have key:Ok (jL l b k) fun y=>y.2=0∧y.1=vK l (inB b) k:=by
  have hc:nO l b k=some 0:=by
   unfold nO;rw [yH hR.bnd,w8 hR,aD];simp only [im,cond_false];rw [ww h hl,aD,A6 hl hk];rfl
  unfold jL;rw [hc,aD];simp only [show ((0:Int) != 0)=false from rfl,cond_false];refine aN (v:=ao.mk l b [] []) rfl ?_;have hs:py l (Vd l (inB b)) b (ao.mk l b [] []):=⟨rfl,rfl,fun n _ v e=>(by cases e),fun c=>rfl⟩;rcases hk with⟨c,hc,rfl⟩|⟨n,hn,rfl⟩
  ·refine aJ (show Ok (vv (ao.mk l b [] []) (cJ c)) (fun y=>y.1=inB b (cJ c)∧y.2=ao.mk l b [] []) from tO (vrec:=FJ 39) hb0 hs) fun z hz=>aq ⟨rfl,?_⟩;show z.1=_;rw [hz.1,sQ]
  ·refine aJ (FI hR hD hb0 hs (.inr ⟨n,hn,rfl⟩)) fun z hz=>aq ⟨rfl,?_⟩;show z.1=_;rw [hz.2 n hn rfl,uH (by omega)]
 obtain⟨v,e,h1,h2⟩:=key;exact⟨v.1,by rw [e]; exact congrArg some (Prod.ext rfl h1),h2⟩
theorem EJ (hR:a8 l) (hb:dt l b) (hh:VI l H b I6) {k:ae} (hk:kB l k) (ht:(∃ c,k=cJ c)∨cA b k=true):ir b k=some (vK l (H b.Revision) k,true):=by
 have hl:=hR.high;unfold ir;rcases hk with⟨c,hc,rfl⟩|⟨n,hn,rfl⟩
 ·rw [mF,aD,cond_true,Cw (hb.rm hl).2.1,aD,hh.now,sQ]
 ·have hv:cA b (rk l n)=true:=by
   rcases ht with⟨c,e⟩ | h
   ·exact absurd e.symm oo
   ·exact h
  unfold cA at hv;rw [nX,decide_eq_true_eq] at hv;rw [pj,aD,cond_false,hb.find hl,aD,hv.1,cond_true,show ((aS b.Records (rk l n)).1.Verified==b.Revision)=true by simpa using hv.2];obtain⟨h1,h2⟩:=bR hv.1;show some ((aS b.Records (rk l n)).1.Value,true)=_;rw [hh.ver hR hb h1 hv.2,h2]
end
theorem wP (t:List Int) (n:Int):eA t n=some true:=by
 rcases ik 400 t.length with ht | ht
 ·unfold eA;rw [AL (by omega),aD,Ci]; rfl
 refine IS ?_;unfold eA;refine aN (BS ht) ?_;simp only [im,cond_false];refine aN (v:=aY.mk t 0) rfl (aJ (Ea (d:=t) (i:=0) ⟨by omega,by omega,ht⟩ (by omega) (by omega)) fun u ⟨hR,⟨hB,hH⟩,hrev,hd⟩=>aJ (IN n (by omega) (by omega)) fun m ⟨m0,m1⟩=>?_);have hl:=hR.high;have hn:=hB.nrec;obtain⟨s,h1,h2,h3⟩:=AZ (hB.co hl) (by omega);obtain⟨q,e⟩:=Au hB hl (n:=m) m0 (by omega) (keep:=[]) (by unfold Rm; simp) h1 h2;refine aN e.is ?_;unfold fU;have hB1:dt u.1 ⟨u.2.1.Revision,u.2.1.Inputs,lV u.2.1.Records (((cy [] s).take q).map ad.Key)⟩:=hB.filter _;have hH1:vT u.1 ⟨u.2.1.Revision,u.2.1.Inputs,lV u.2.1.Records (((cy [] s).take q).map ad.Key)⟩:=hH.sub fun m hm=>(gc.1 hm).1;refine aJ (tr hd (by omega) (by omega)) fun z ⟨z1,z2,d2⟩=>aJ (rN hR hB1 hH1 (by show u.2.1.Revision+1≤1000000; omega) z1 (by omega)) fun w ⟨w1,w2,⟨H,w3⟩,_⟩=>aJ (wS hR d2 (by omega) (by omega)) fun g ⟨g1,g2,d3⟩=>aJ (vJ hR w1 w3 g1 g2) fun y hy=>?_;simp only [show ((0:Int) != 0)=false from rfl,cond_false];rw [hy.e0];simp only [show ((0:Int) != 0)=false from rfl,cond_false];refine aN (fG (r:=Fl.go ()) g.1.length (fun k hk=>?_) ?_) ?_
 ·have hgk:=g1 _ (iL hk);obtain⟨v,v1,v2⟩:=G6 hR w1 hgk;have hkp:=EJ hR hy.lv.ok hy.vi hgk (hy.there _ (iL hk));unfold d5;rw [dlt hk,cond_true,bE hk,aD];show ((ir y.1 g.1[k]).bind _)=_;rw [hkp,aD];show ((jL u.1 w.1 g.1[k]).bind _)=_;rw [v1,aD,v2,hy.lv.rev,← w3.inB];simp only [im,cond_false,beq_self_eq_true];rw [cR (by omega)]
 ·unfold d5;rw [bS]; rfl
 show Ok dZ _;unfold dZ;rw [Ci];exact aq rfl
end
section
open Go.RowKit Go.ChangeShapes Go.WideShapes Go.ChangeAt
open Go.Lib hiding intOf
theorem LM:ownKnob Tryz.prog.godebug=none:=by kernel_rfl
theorem LaidVars.mem {P:Program} {w:World} {nm:String} {d:DataW Unit}:∀ {l:List (String×DataW Unit)} {ps:List MemPlace},DataW.LaidVars P w l ps→(nm,d)∈l →
  ∃ g t cs fuel p,P.globalNamed nm=some g∧(P.globals[g]?).map (·.type)=some t∧w.var? P nm=some cs∧DataW.trod (fun _=>()) P w 0 (fun _=>true) false fuel t cs.toList=some (d,p)
 | [],_,_,hm=>by cases hm
 | (n1,d1)::l,ps,h,hm=>by
  obtain⟨g,t,cs,f,p,q,hg,ht,hv,hd,hq,_⟩:=h;rcases dQ.1 hm with he | hm
  ·injection he with h1 h2;subst h1 h2;exact⟨g,t,cs,f,p,hg,ht,hv,hd⟩
  ·exact LaidVars.mem hq hm
theorem EN {W : World} {l : List (String × DataW Unit)} (h : laidMet aO l W) (hm : ("internal/strconv.uint64pow10", Lib.tabData .u64 pow10Tab) ∈ l) : TabIs aO W "internal/strconv.uint64pow10" .u64 pow10Tab := by
 obtain⟨ps, hl, _⟩ := h;obtain⟨g, t, cs, f, p, hg, ht, hv, hd⟩ := LaidVars.mem hl hm;obtain rfl := bO ((show Tryz.prog.globalNamed "internal/strconv.uint64pow10" = some 1 by kernel_rfl).symm.trans hg)
 obtain rfl:=bO ((show (Tryz.prog.globals[1]?).map (·.type)=some 366 by kernel_rfl).symm.trans ht);unfold TabIs;rw [hv,← cells_of_tab Tryz.underlying366 Tryz.underlying228 (by kernel_rfl) (by kernel_rfl) hd]
theorem AJ {W:World} {l:List (String×DataW Unit)} (h:laidMet aO l W) {nm:String} {d:DataW Unit} {s:String} {g0:Nat} (hm:(nm,DataW.iface s d)∈l) (hg0:Tryz.prog.globalNamed nm=some g0) (ht0:(Tryz.prog.globals[g0]?).map (·.type)=some 180) :
  ∃ ev,W.cell? ⟨g0,0,none⟩=some ev∧(ev = .nilIface∨∃ te pe,ev = .iface te pe):=by
 obtain⟨ps,hl,_⟩:=h;obtain⟨g,t,cs,f,p,hg,ht,hv,hd⟩:=LaidVars.mem hl hm;obtain rfl:=bO (hg0.symm.trans hg);obtain rfl:=bO (ht0.symm.trans ht);obtain⟨_,u,v,hcs,_,_⟩:=iface_of_trod Tryz.underlying180 hd;refine⟨.iface u v,?_,.inr ⟨u,v,rfl⟩⟩;have:=World.var?_cell hg0 hv 0;rw [Array.eq_one_of_toList hcs] at this;simpa using this
theorem J7 {W:World} {l:List (String×DataW Unit)} (h:laidMetH aO l W) (hp:(l.all fun x=>x.2.handleName?.isNone)=true)
  (h1 : ("internal/strconv.uint64pow10", Lib.tabData .u64 pow10Tab) ∈ l) (h2 : ("strconv.ErrSyntax", Rows.laid_strconv_ErrSyntax) ∈ l) (h3 : ("strconv.ErrRange", Rows.laid_strconv_ErrRange) ∈ l) : Lv W := by
 rw [MakeChecks.laidMetH_plain _ _ _ hp] at h;exact⟨AJ h h2 (by kernel_rfl) (by kernel_rfl),AJ h h3 (by kernel_rfl) (by kernel_rfl),EN h h1⟩
end
section
open Go.ChangeShapes Go.WideShapes Go.ChangeAt Go.RowKit Go.Deep Go.Joins
theorem CD {α:Type} {Q:Nat→α→Prop}:∀ (n:Nat),(∀ i,i<n→∃ x,Q i x)→∃ xs:List α,xs.length=n∧∀ i x,xs[i]? = some x→Q i x
 | 0,_=>⟨[],rfl,fun i x h=>by simp at h⟩
 | n+1,h=>by
  obtain⟨xs,h1,h2⟩:=CD n fun i hi=>h i (by omega);obtain⟨y,hy⟩:=h n (by omega);refine⟨xs++[y],by simp [h1],fun i x hx=>?_⟩;by_cases hi:i<xs.length
  ·rw [og hi] at hx; exact h2 i x hx
  ·have hl:=(bD.1 hx).1;simp only [cW,g9,rI] at hl;have:i=xs.length:=by omega
   subst this;rw [qA (cM _),yU] at hx;simp only [Br,cE] at hx;subst hx;rw [h1]; exact hy
def zZ {α:Type} (P:Program) (t:TypeId) (R:aR α) (Q:α→Prop):Prop :=
 ∀ {H:Type} {enc:TypeId×Value→H} {w:World} {base n:Nat} {sp:Nat→Bool} {held:Bool} {cs:ba} {d:DataW H} {p:List MemPlace},DataW.trod enc P w base sp held n t cs=some (d,p)→(∀ m∈d.weights P t,m≤reachBytes)→∃ x,R.rel No w cs x∧Q x
section
variable {P:Program} {t e:TypeId}
theorem zZ.int {k:IntKind} (ht:P.underlying t=some (.int k)):zZ P t (aR.int k) (fun n=>(Lit.int k n).wf=true):=fun h _=>by
 obtain⟨n,rfl,_,hw⟩:=DataW.trod_int ht h;exact⟨n,rfl,hw⟩
theorem zZ.bool (ht:P.underlying t=some .bool):zZ P t aR.bool (fun _=>True):=fun h _=>by
 obtain⟨b,rfl,_⟩:=DataW.trod_bool ht h;exact⟨b,rfl,trivial⟩
theorem zZ.str (ht:P.underlying t=some .string):zZ P t aR.str (fun s=>s.size≤140737488355328):=fun h hw=>by
 obtain⟨s,rfl,hx,_⟩:=DataW.trod_string ht h;simp only [xC] at hx;obtain⟨rfl,rfl⟩:=hx;refine⟨s,rfl,?_⟩;have:=hw s.data.toList.length (by simp [DataW.weights]);have hr:reachBytes≤140737488355328:=by decide
 have hz:s.size=s.data.toList.length:=by rw [Array.length_toList]; rfl
 omega
theorem xy {H:Type}:∀ {ds:List (DataW H)} {i:Nat} {d:DataW H},ds[i]? = some d→∀ n∈d.weights P e,n∈DataW.weightsAll P e ds
 | [],_,_,h,_,_=>by simp at h
 | d0::r,0,d,h,n,hn=>by
  simp only [Br,cE] at h;subst h;simp only [DataW.weightsAll,cg];exact .inl hn
 | d0::r,i+1,d,h,n,hn=>by
  simp only [yV] at h;simp only [DataW.weightsAll,cg];exact .inr (xy h n hn)
theorem zZ.slice {α:Type} {R:aR α} {Q:α→Prop} (ht:P.underlying t=some (.slice e)) (hc:P.cellsOf e=R.size) (hs:0<R.size) (ho:zZ P e R Q):zZ P t (aR.slice R) (fun xs=>(∀ x∈xs,Q x)∧xs.length*P.bytesOf e≤reachBytes∧xs.length≤maxLen):=fun {H enc w base n sp held cs d p} h hw=>by
 rcases open_slice ht h with⟨rfl,hx⟩|⟨a,len,cap,m,n,D,Pl,rfl,hb,hl,hm,hmm,hx,hi⟩
 ·exact⟨[],⟨_,rfl,aC.nil_ _ _ _⟩,fun x hx=>by simp at hx,by simp,by simp⟩
 ·simp only [xC] at hx;obtain⟨rfl,rfl⟩:=hx;have hlm:len≤m:=by rw [hmm]; split <;> omega
  obtain⟨xs,h1,h2⟩:=CD (α:=α) (Q:=fun i x=>Q x∧∃ cs,R.rel No w cs x∧∀ j u,cs[j]? = some u→w.cell? (a.add (i*R.size+j))=some u) len (fun i hil=>by
   obtain⟨cs',hcc,ht'⟩:=hi i (by omega);rw [hc] at hcc;obtain⟨x,hx,hq⟩:=ho ht' (fun k hk=>hw k (by
    simp only [DataW.weights,ht,dQ,cg];exact .inr (.inl (xy (i:=i) (d:=D i) (by rw [rH,List.getElem?_range hil]; rfl) k hk))))
   obtain⟨_,hcl,hat⟩:=World.cells?_some hcc;refine⟨x,hq,cs',hx,fun j u hu=>?_⟩;have hj:j<R.size:=by rw [← hcl]; exact (bD.1 hu).1
   rw [← Go.Deep.add_add,hat j hj,hu])
  subst h1;refine⟨xs,⟨_,rfl,some a,cap,rfl,hl,hm,?_⟩,fun x hx=>?_,?_,cH hl hm⟩
  ·cases xs with
   | nil=>exact .inl rfl
   | cons x0 xs =>
    right;obtain⟨_,cs0,hr0,hc0⟩:=h2 0 x0 rfl;have hl0:=R.len hr0;have hu:=hc0 0 _ (bC (show 0<cs0.length by omega));obtain⟨b,off,spot⟩:=a;have hsp:spot=none:=by
     unfold World.cell? at hu;split at hu
     ·cases spot with
      | none=>rfl
      | some q=>simp [Addr.add] at hu
     ·simp at hu
    subst hsp;refine⟨b,off,rfl,fun k x hx=>?_⟩;obtain⟨_,cs,hr,hcs⟩:=h2 k x hx;refine⟨cs,hr,fun h=>h,?_,fun j u hu=>?_⟩
    ·rw [Addr.add_lit] at hu; exact World.block_lt_of_cell? _ _ hu
    ·have:=hcs j u hu;rwa [Addr.add_lit,← vL] at this
  ·obtain⟨i,hi',e⟩:=CX hx;exact (h2 i x (by rw [← e]; exact bC hi')).1
  ·have:=hw ((xs.length+(m-xs.length))*P.bytesOf e) (by
    simp only [DataW.weights,ht,dQ,od,List.length_range]
    first | exact .inl trivial | exact .inl rfl | trivial)
   exact cH (mD _ (by omega)) this
theorem zZ.arg {α:Type} {R:aR α} {Q:List α→Prop} {H:Type} {enc:TypeId×Value→H} {w:World} {base:Nat} {sp:Nat→Bool} {held:Bool} {v:Value} {d:DataW H} {p:List MemPlace} {ts:List TypeId} {ds:List (DataW H)} {j0:Nat}
  (ho:zZ P t (aR.slice R) Q) (ht:P.underlying t=some (.slice e)) (hsz:(DataW.weightsEach P ts ds).all (·≤reachBytes)=true) (htj:ts[j0]? = some t) (hdj:ds[j0]? = some d)
  {r:Reach} {b0:Nat} (hv:Value.okWide P w r b0 t v) (h:DataW.Trod enc P w base sp held t v d p):∃ xs,aC R No w v xs∧Q xs:=by
 obtain⟨A,len,cap,rfl⟩:=okWide_slice ht hv;obtain⟨fuel,hf⟩:=h;obtain⟨xs,⟨v',he,hs⟩,hq⟩:=ho hf (fun m hm=>by
  have:=List.all_eq_true.1 hsz m (DataW.weights_mem_each htj hdj m hm);simpa using this)
 simp only [Value.cells,List.cons.injEq,and_true] at he;subst he;exact⟨xs,hs,hq⟩
end
end
section
open Go.ChangeShapes Go.WideShapes Go.ChangeAt Go.RowKit Go.Deep Go.Joins
def aR.unit:aR Unit where
 size:=0
 rel:=fun _ _ cs _=>cs=[]
 len:=by rintro _ _ _ _ rfl; rfl
 one:=by rintro _ _ _ _ rfl u hu; cases hu
 keep:=fun h _ _=>h
def C8 {α:Type} (P:Program) (fs:List Field) (off:Nat) (R:aR α) (Q:α→Prop):Prop :=
 (∀ f∈fs,off≤f.offset) ∧
 ∀ {H:Type} {enc:TypeId×Value→H} {w:World} {base n:Nat} {sp:Nat→Bool} {held:Bool} {cs:ba} {xs:List (DataW H×List MemPlace)},cs.length=R.size→xs.length=fs.length →
  (∀ (i:Nat) (f:Field),fs[i]? = some f→DataW.trod enc P w base sp held n f.type ((cs.drop (f.offset-off)).take (P.cellsOf f.type))=xs[i]?) →
  (∀ m∈DataW.weightsEach P (fs.map (·.type)) (xs.map (·.1)),m≤reachBytes)→∃ x,R.rel No w cs x∧Q x
section
variable {P:Program} {t:TypeId}
theorem C8.nil (off:Nat):C8 P [] off aR.unit (fun _=>True) :=
 ⟨fun f hf=>(by cases hf),fun {H enc w base n sp held cs xs} hl _ _ _=>⟨(),xJ hl,trivial⟩⟩
theorem C8.cons {α β:Type} {R:aR α} {S:aR β} {Q:α→Prop} {Q2:β→Prop} {f:Field} {fs:List Field} {off:Nat} (ho:zZ P f.type R Q) (hf:f.offset=off) (hc:P.cellsOf f.type=R.size) (h:C8 P fs (off+R.size) S Q2):C8 P (f::fs) off (R.prod S) (fun x=>Q x.1∧Q2 x.2):=by
 refine⟨fun g hg=>?_,fun {H enc w base n sp held cs xs} hl hx ht hw=>?_⟩
 ·rcases dQ.1 hg with rfl | hg
  ·omega
  ·have:=h.1 g hg; omega
 ·cases xs with
  | nil=>simp at hx
  | cons y xs =>
   have hl:cs.length=R.size+S.size:=hl;have h0:=ht 0 f rfl;rw [hf,yU,List.drop_zero,hc] at h0;obtain⟨x1,k1,k2⟩:=ho h0 (fun m hm=>hw m (by simp only [uL,DataW.weightsEach,cg]; exact .inl hm));obtain⟨x2,k3,k4⟩:=h.2 (H:=H) (enc:=enc) (w:=w) (base:=base) (n:=n) (sp:=sp) (held:=held) (cs:=cs.drop R.size) (xs:=xs) (by rw [rJ]; omega) (by simpa using hx) (fun i g hg=>by
    have h1:=ht (i+1) g (by simpa using hg);have h2:=h.1 g (aH hg);rw [List.drop_drop,show R.size+(g.offset-(off+R.size))=g.offset-off by omega];simpa using h1) (fun m hm=>hw m (by simp only [uL,DataW.weightsEach,cg]; exact .inr hm))
   exact⟨(x1,x2),⟨cs.take R.size,cs.drop R.size,(Bt _ _).symm,k1,k3⟩,k2,k4⟩
theorem zZ.struct {α:Type} {R:aR α} {Q:α→Prop} {fs:Array Field} (ht:P.underlying t=some (.struct fs)) (hc:P.cellsOf t=R.size) (h:C8 P fs.toList 0 R Q):zZ P t R Q:=fun {H enc w base n sp held cs d p} h0 hw=>by
 obtain⟨xs,m,_,hx,hl,hlen,hf⟩:=DataW.trod_struct ht h0;simp only [xC] at hx;obtain⟨rfl,rfl⟩:=hx;refine h.2 (H:=H) (enc:=enc) (w:=w) (base:=base) (n:=m) (sp:=sp) (held:=held) (xs:=xs) (hl.trans hc) (by simpa using hlen) (fun i f hi=>?_) (fun k hk=>hw k ?_)
 ·have:=hf i f (by simpa using hi);simpa using this
 ·simp only [DataW.weights,ht];exact hk
end
end
section
open Go
theorem yr {P:Program} (h:P.funcs.any Func.goes=false) (f:FuncId):P.goes f=false:=by
 unfold Program.goes;rw [h,Bool.and_false,Bool.or_false];rw [Bool.eq_false_iff];intro hc;rw [rx] at hc;obtain⟨g,_,hg⟩:=hc;cases hf:P.funcs[g]? with
 | none=>rw [hf] at hg; cases hg
 | some fn =>
  rw [hf] at hg;have:P.funcs.any Func.goes=true:=(C5).2 ⟨fn,Array.mem_of_getElem? hf,by simpa using hg⟩;rw [h] at this;cases this
theorem Ay {P:Program} (h:P.funcs.any Func.goes=false) (st:Start) (func:String):P.goesAt st func=false:=by
 have hf:P.goesFrom func=false:=by
  unfold Program.goesFrom;cases P.funcNamed func with
  | none=>rfl
  | some f=>exact yr h f
 have hi:P.inits.toList.any P.goes=false:=by
  rw [Bool.eq_false_iff];intro hc;obtain⟨g,_,hg⟩:=rx.1 hc;rw [yr h g] at hg;cases hg
 unfold Program.goesAt;rw [hf,Bool.false_or];cases st <;> first | rfl | exact hi
end
end Go.Proofs.YtdcojaccpnabkaaGreatDoor
