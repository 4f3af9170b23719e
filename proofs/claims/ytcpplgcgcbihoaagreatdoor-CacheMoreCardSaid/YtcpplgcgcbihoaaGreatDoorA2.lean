/- Texts of the proof, joined (2). -/
import Derived.Test.YtcpplgcgcbihoaaGreatDoorA1
import Derived.Test.YtcpplgcgcbihoaaGreatDoorA0
set_option linter.unusedVariables false
set_option linter.unusedSimpArgs false
set_option linter.unusedSectionVars false
namespace Go.Proofs.YtcpplgcgcbihoaaGreatDoor
open Go.RowKit
section
set_option maxRecDepth 100000
set_option maxHeartbeats 4000000
variable (T:Nat->Prop) (L:World) (hT:TW T L)
include hT
noncomputable section
def rU (b:Bool):=some (b)
def mM (b:Bool):=some (b)
def mN (b c:Int):=cond (decide ((0:Int)<=b)) (mM (decide (b<c))) (mM false)
def sh (b:LU) (e:Int) (h:dd) (c:Int):=cond h.b1 (cond (decide ((0:Int)<=c)) (rU (decide (c<=15))) (rU false)) ((oG b e).bind fun d=>(bu b e).bind fun g=>cond (!(g.f)) (mN c d.1) (mN c d.2))
theorem AF (b:LU) (g:Int) (k:dd) (f:Int) (o:Value) (n:aF an T L o b) (y:Bool) (B:sh b g k f=some y):bg aR No 206 [o,aj g,.agg (JV k).toArray,aj f] L (fun v w'=>v = .bool y):=by
 refine en Tryz.func206 Tryz.ntmps206 hT fun a I=>?_;replace I:=I.fS (aF.dn n);unfold sh at B;refine kB I fun p t a w O I=>?_;refine am I fun a I=>?_;refine aC ?_;refine am I fun a I=>?_;rcases cd B with⟨l,B⟩|⟨l,B⟩
 ·refine am I fun a I=>?_;refine aM (J:=fun a w=>∃ (d:Bool),St L No T 39 [(8,.bool d)] [] [] a w/\rU d=some y) ?_ ?_
  ·exact fz
  rintro a w ⟨d,I,B⟩;unfold rU at B;exact fz
 refine am I fun a I=>?_;obtain⟨x,i,B⟩:=bd B;refine kF I Nl (xp _ _ I.dlt b g _ I.g0 _ i) fun w a I=>?_;refine aM (J:=fun a w=>∃ (c:Int),St L No T 39 [(3,aj f),(10,aj c)] [] [] a w/\mN f c=some y) ?_ ?_
 ·refine am I fun a I=>?_;obtain⟨s,h,B⟩:=bd B;refine wl rfl (bn (R:=an) I uF nN rfl rfl 0 rfl h rfl fun q u r m a I=>?_);obtain⟨z,rfl,j⟩:=m;replace I:=I.fS j;exact fz
 rintro a w ⟨c,I,B⟩;unfold mN at B;refine aM (J:=fun a w=>∃ (e:Bool),St L No T 39 [(8,.bool e)] [] [] a w/\mM e=some y) ?_ ?_
 ·exact fz
 rintro a w ⟨e,I,B⟩;unfold mM at B;exact fz
def pn (b:LU):=some (decide ((b.length:Int)<=24))
def po (b:Int):Option (Fl (Int) (Fl (Unit) Bool)):=some (.go (IntKind.i64.wrap (b+1)))
def dA (b:Int) (c:Bool):=cond c (some (.out (.out false))) (po b)
def hS (c:Int) (b:aN):=cond b.f (cond (b.n != 5) (dA c true) (cond (decide (b.C<0)) (dA c true) (cond (decide ((65535:Int)<b.C)) (dA c true) (dA c false)))) (cond (decide (b.n<1)) (dA c true) (cond (decide ((4:Int)<b.n)) (dA c true) (cond (decide (b.C<0)) (dA c true) (dA c (decide ((999:Int)<b.C))))))
def ew (b:Int) (c:Bool):Option (Fl (Int) (Fl (Unit) Bool)):=cond c (some (.out (.out false))) (some (.go (IntKind.i64.wrap (b+1))))
def fx (e:LU) (h:Int) (g:aN) (b:Int):=cond (decide (b<(g.c.length:Int))) ((bu g.c b).bind fun d=>(sh e h d d.N).bind fun i=>cond (!(i)) (ew b true) (cond d.u1 (cond g.f (ew b true) (cond (b==0) (ew b true) ((sh e h d d.t1).bind fun j=>cond (!(j)) (ew b true) (ew b false)))) (ew b (d.t1 != 0)))) (some (.out (.go ())))
def hU (b:LU) (d:Int):=cond (decide (d<(b.length:Int))) ((bu b d).bind fun e=>cond (decide ((6:Int)<(e.c.length:Int))) (some (.out (.out false))) ((loop (fun s:Int=>fx b d e s) 0).bind fun r=>Fl.el r (fun s=>hS d e) (fun y=>some (.out (.out y))))) (some (.out (.go ())))
def oH (b:LU):=(loop (fun s:Int=>hU b s) 0).bind fun r=>Fl.el r (fun s=>pn b) (fun y=>some (y))
theorem xq (b:LU) (e:Value) (Q:aF an T L e b) (y:Bool) (B:oH b=some y):bg aR No 170 [e] L (fun v w'=>v = .bool y):=by
 refine en Tryz.func170 Tryz.ntmps170 hT fun a I=>?_;replace I:=I.fS (aF.dn Q);unfold oH at B;refine am I fun a I=>?_;refine aM (J:=fun a w=>St L No T 111 [(0,e)] [] [aL an e b] a w/\pn b=some y) ?_ ?_
 ·refine am I fun a I=>?_;obtain⟨r1,M,hMo1⟩:=bd B;refine bF _ (fun s a w=>∃ (d:Int),d=s/\St L No T 111 [(0,e),(7,e),(8,aj (b.length:Int)),(9,aj d)] [] [aL an e b] a w) M ⟨_,rfl,I.mt [] [0]⟩ ?_;rintro s a w n ⟨d,rfl,I⟩ B hf1;have B:hU b d=some n:=B;unfold hU at B;refine am I fun a I=>?_;refine aC ?_;rcases cd B with⟨u,B⟩|⟨u,B⟩
  ·refine am I fun a I=>?_;refine aM (J:=fun a w=>St L No T 111 [(0,e),(7,e),(8,aj (b.length:Int)),(9,aj d)] [] [aL an e b] a w/\po d=some n) ?_ ?_
   ·refine am I fun a I=>?_;obtain⟨f,o,B⟩:=bd B;refine wl rfl (bn (R:=an) I uF nN rfl rfl 0 rfl o rfl fun S a1 X x a I=>?_);obtain⟨g,rfl,t⟩:=x;replace I:=I.fS t;refine kA I ti fun h Z a w O I=>?_;refine go I fun a w I=>?_;refine aC ?_;refine am I fun a I=>?_;rcases cd B with⟨z,B⟩|⟨z,B⟩
    ·exact fz
    refine am I fun a I=>?_;refine aM (J:=fun a w=>St L No T 111 [(0,e),(4,pt h 0),(7,e),(8,aj (b.length:Int)),(9,aj d)] [.box h (vY f g) 150] [aL an e b,aL dG g f.c] a w/\hS d f=some n) ?_ ?_
    ·refine am I fun a I=>?_;obtain⟨r2,P,hMo2⟩:=bd B;refine bF _ (fun s a w=>∃ (i:Int),i=s/\St L No T 111 [(0,e),(3,aj d),(4,pt h 0),(7,e),(8,aj (b.length:Int)),(9,aj d),(19,g),(20,aj (f.c.length:Int)),(21,aj i)] [.box h (vY f g) 150] [aL an e b,aL dG g f.c] a w) P ⟨_,rfl,I.mt [0] [2,0]⟩ ?_;rintro s a w K ⟨i,rfl,I⟩ B hf2;have B:fx b d f i=some K:=B;unfold fx at B;refine am I fun a I=>?_;refine aC ?_;rcases cd B with⟨A,B⟩|⟨A,B⟩
     ·refine am I fun a I=>?_;refine aC ?_;refine am I fun a I=>?_;obtain⟨j,p,B⟩:=bd B;refine wl rfl (bn (R:=dG) I Is Iy rfl rfl 1 rfl p rfl fun V a2 Y D a I=>?_);obtain rfl:=D;refine kA I xG fun W a0 a w O I=>?_;refine go I fun a w I=>?_;refine aM (J:=fun a w=>∃ (l:Bool),St L No T 111 [(0,e),(3,aj d),(4,pt h 0),(7,e),(8,aj (b.length:Int)),(9,aj d),(19,g),(20,aj (f.c.length:Int)),(21,aj i),(63,.bool l)] [.box h (vY f g) 150] [aL an e b,aL dG g f.c] a w/\ew i l=some K) ?_ ?_
      ·refine am I fun a I=>?_;obtain⟨a3,q,B⟩:=bd B;refine kF I NC (AF _ _ I.dlt b d j j.N _ I.g1 _ q) fun w a I=>?_;rcases cd B with⟨E,B⟩|⟨E,B⟩
       ·exact fz
       refine am I fun a I=>?_;rcases cd B with⟨F,B⟩|⟨F,B⟩
       ·refine am I fun a I=>?_;rcases cd B with⟨G,B⟩|⟨G,B⟩
        ·exact fz
        refine am I fun a I=>?_;rcases cd B with⟨m,B⟩|⟨m,B⟩
        ·exact fz
        refine am I fun a I=>?_;obtain⟨a4,r,B⟩:=bd B;refine wg I rfl rfl rfl m (bB I NC rfl rfl (AF _ _ I.dlt b d j j.t1 _ I.g1 _ r) fun _ w C a O U=>?_);obtain rfl:=C;have I:=eL U;exact fz
       exact fz
      rintro a w ⟨l,I,B⟩;unfold ew at B;rcases cd B with⟨H,B⟩|⟨H,B⟩
      ·refine am I fun a I=>?_;cases B
       have hr:=hf2 _ rfl;subst hr;replace hMo2:=iE hMo2;have B:=hMo2;cases B
       have hr:=hf1 _ rfl;subst hr;replace hMo1:=iE hMo1;have B:=hMo1;cases B
       refine aG I rfl (aw I rfl aI) ?_;exact rfl
      exact fz
     exact fz
    rintro a w ⟨I,B⟩;unfold hS at B;refine aM (J:=fun a w=>∃ (k:Bool),St L No T 111 [(0,e),(7,e),(8,aj (b.length:Int)),(9,aj d),(106,.bool k)] [] [aL an e b] a w/\dA d k=some n) ?_ ?_
    ·exact fz
    rintro a w ⟨k,I,B⟩;unfold dA at B;exact fz
   rintro a w ⟨I,B⟩;unfold po at B;exact fz
  exact fz
 rintro a w ⟨I,B⟩;unfold pn at B;exact fz
def qY (c:ByteArray) (b:Int):=some ((ae.mk b c))
def jQ (c:LU) (b:Int):=cond (decide (b<0)) (some ((ae.mk 0 cp))) (cond (decide ((c.length:Int)<=b)) (some ((ae.mk 0 cp))) (cond (decide ((99:Int)<b)) (some ((ae.mk 0 cp))) ((yJ b).bind fun d=>(bu c b).bind fun e=>cond e.f (qY d 32) (qY d 31))))
theorem oo (hLv:dh T L) (c:LU) (g:Int) (p:Value) (o:aF an T L p c) (y:ae) (B:jQ c g=some y):bg aR No 92 [p,aj g] L (fun v w'=>v = .agg (aX y).toArray):=by
 refine en Tryz.func92 Tryz.ntmps92 hT fun a I=>?_;replace I:=(I.fact bH (dh.dn hLv)).fS (aF.dn o);unfold jQ at B;refine kA I fH fun e t a w O I=>?_;refine am I fun a I=>?_;refine aC ?_;refine io ?_;refine am I fun a I=>?_;rcases cd B with⟨k,B⟩|⟨k,B⟩
 ·refine am I fun a I=>?_;refine qy I (bw (ps:=[]) I BU fH rfl (us:=[]) trivial (ws:=[aj 0,a8 cp]) rfl) fun a I=>?_;refine go I fun a w I=>?_;cases B
  refine aG I rfl (rC 0 I) ?_;exact rfl
 refine am I fun a I=>?_;rcases cd B with⟨l,B⟩|⟨l,B⟩
 ·refine am I fun a I=>?_;refine qy I (bw (ps:=[]) I BU fH rfl (us:=[]) trivial (ws:=[aj 0,a8 cp]) rfl) fun a I=>?_;refine go I fun a w I=>?_;cases B
  refine aG I rfl (rC 0 I) ?_;exact rfl
 refine am I fun a I=>?_;rcases cd B with⟨m,B⟩|⟨m,B⟩
 ·refine am I fun a I=>?_;refine qy I (bw (ps:=[]) I BU fH rfl (us:=[]) trivial (ws:=[aj 0,a8 cp]) rfl) fun a I=>?_;refine go I fun a w I=>?_;cases B
  refine aG I rfl (rC 0 I) ?_;exact rfl
 refine am I fun a I=>?_;obtain⟨b,i,B⟩:=bd B;refine kE I Fq (yK _ _ I.dlt I.g1 g _ i) fun w a I=>?_;refine qy I (bw (ps:=[(0,.const (aj 31)),(1,.tmp 20)]) I BU fH rfl (us:=[[aj 31],[a8 b]]) ⟨rfl,⟨rfl,trivial⟩⟩ (ws:=[aj 31,a8 b]) rfl) fun a I=>?_;refine ka I fH fun f u a w O I=>?_;refine go I fun a w I=>?_;refine aM (J:=fun a w=>∃ (d:Int),St L No T 29 [(4,pt e 0),(5,pt f 0)] [.box e [aj 0,a8 cp] 30,.box f [aj d,a8 b] 30] [bH] a w/\qY b d=some y) ?_ ?_
 ·refine am I fun a I=>?_;obtain⟨s,h,B⟩:=bd B;refine wl rfl (bn (R:=an) I uF nN rfl rfl 0 rfl h rfl fun q x r n a I=>?_);obtain⟨z,rfl,j⟩:=n;replace I:=I.fS j;exact fz
 rintro a w ⟨d,I,B⟩;unfold qY at B;refine go I fun a w I=>?_;cases B
 refine aG I rfl (rC 0 I) ?_;exact rfl
def fE (b:Bool):=some (b)
def l7 (c:LU) (b:ae):=(dz b).bind fun f=>cond f (cond (b.v != 31) (cond (b.v != 32) (fE true) ((iT b).bind fun g=>(jQ c g).bind fun d=>fE (d.v==b.v&&d.x.toList==b.x.toList))) ((iT b).bind fun h=>(jQ c h).bind fun e=>fE (e.v==b.v&&e.x.toList==b.x.toList))) (fE false)
theorem tU (hLv:dh T L) (c:LU) (b:ae) (s:Value) (r:aF an T L s c) (y:Bool) (B:l7 c b=some y):bg aR No 171 [s,.agg (aX b).toArray] L (fun v w'=>v = .bool y):=by
 refine en Tryz.func171 Tryz.ntmps171 hT fun a I=>?_;replace I:=(I.fact bH (dh.dn hLv)).fS (aF.dn r);unfold l7 at B;refine kB I fun t u a w O I=>?_;refine am I fun a I=>?_;refine aM (J:=fun a w=>∃ (e:Bool),St L No T 25 [(4,.bool e)] [] [bH] a w/\fE e=some y) ?_ ?_
 ·refine dr [] I fun w hQ I=>?_;refine gE [0] I fun a I=>?_;obtain⟨z,h,B⟩:=bd B;refine ec 1 I He (jl _ _ I.dlt b _ h) fun _ w C a O U=>?_;obtain rfl:=C;have I:=eL U;refine gE [2] I fun a I=>?_;rcases cd B with⟨n,B⟩|⟨n,B⟩
  ·refine gE [3,4,5,6] I fun a I=>?_;rcases cd B with⟨o,B⟩|⟨o,B⟩
   ·refine gE [7,8,9,10,11] I fun a I=>?_;rcases cd B with⟨d,B⟩|⟨d,B⟩
    ·refine gE [12,13,14,15,16,17,18,19,20] I fun a I=>?_;refine eD ?_;exact fin
    refine gE [12,13,16] I fun a I=>?_;obtain⟨p,j,B⟩:=bd B;refine cR (i:=14) rfl (by kernel_rfl) I rfl rfl rfl d (bB I H6 rfl rfl (pj _ _ I.dlt b _ j) fun _ w C a O U=>⟨fq (O),?_⟩);obtain rfl:=C;have I:=eL U;obtain⟨f,k,B⟩:=bd B;refine cR (i:=15) rfl (by kernel_rfl) I rfl rfl rfl d (bB I Hd rfl rfl (oo _ _ I.dlt I.g1 c p _ I.g0 _ k) fun _ w C a O U=>⟨fq (O),?_⟩);obtain rfl:=C;have I:=eL U;refine dg 17 I d (v:=.bool (f.v==b.v&&f.x.toList==b.x.toList)) (CZ I rfl rfl) fun a I=>?_;refine gE [18,19,20] I fun a I=>?_;refine eD ?_;exact fin
   refine gE [7,8,9,10,11,12,13,16] I fun a I=>?_;obtain⟨q,l,B⟩:=bd B;refine cR (i:=14) rfl (by kernel_rfl) I rfl rfl rfl rfl (bB I H6 rfl rfl (pj _ _ I.dlt b _ l) fun _ w C a O U=>⟨fq (O),?_⟩);obtain rfl:=C;have I:=eL U;obtain⟨g,m,B⟩:=bd B;refine cR (i:=15) rfl (by kernel_rfl) I rfl rfl rfl rfl (bB I Hd rfl rfl (oo _ _ I.dlt I.g1 c q _ I.g0 _ m) fun _ w C a O U=>⟨fq (O),?_⟩);obtain rfl:=C;have I:=eL U;refine dg 17 I rfl (v:=.bool (g.v==b.v&&g.x.toList==b.x.toList)) (CZ I rfl rfl) fun a I=>?_;refine gE [18,19,20] I fun a I=>?_;refine eD ?_;exact fin
  refine gE [3,4,5,6,7,8,9,10,11,12,13,14,15,16,17,18,19,20] I fun a I=>?_;refine eD ?_;exact fin
 rintro a w ⟨e,I,B⟩;unfold fE at B;exact fz
def s5:Option Int:=some (0)
def mc (d:LU) (b:LK) (c:Int):Option (Fl (Int) (Fl (Unit) Int)):=cond (decide (c<(b.length:Int))) ((bu b c).bind fun e=>(l7 d e).bind fun f=>cond (!(f)) (some (.out (.out 40))) (some (.go (IntKind.i64.wrap (c+1))))) (some (.out (.go ())))
def mb (c:LU) (f:ah) (b:LK):=(oH c).bind fun d=>cond (!(d)) (some (41)) ((iZ f).bind fun e=>cond (!(e)) (some (42)) (cond (decide ((32:Int)<(b.length:Int))) (some (3)) ((loop (fun s:Int=>mc c b s) 0).bind fun r=>Fl.el r (fun s=>s5) (fun y=>some (y)))))
theorem tV (hLv:dh T L) (b:LU) (e:ah) (c:LK) (k D:Value) (E l:Value) (u:aF an T L k b) (x:aF ac T L D e.i) (z:aF aa T L E e.s) (A:aF ad T L l c) (y:Int) (B:mb b e c=some y):bg aR No 117 [k,.agg (aU e D E).toArray,l] L (fun v w'=>v=aj y):=by
 refine en Tryz.func117 Tryz.ntmps117 hT fun a I=>?_;replace I:=((((I.fact bH (dh.dn hLv)).fS (aF.dn u)).fS (aF.dn x)).fS (aF.dn z)).fS (aF.dn A);unfold mb at B;refine kB I fun F N a w O I=>?_;refine am I fun a I=>?_;refine aC ?_;refine am I fun a I=>?_;obtain⟨V,h,B⟩:=bd B;refine kF I Nu (xq _ _ I.dlt b _ I.g3 _ h) fun w a I=>?_;rcases cd B with⟨n,B⟩|⟨n,B⟩
 ·exact fz
 refine am I fun a I=>?_;obtain⟨W,j,B⟩:=bd B;refine kF I Ke (nF _ _ I.dlt I.g4 e _ _ I.g2 I.g1 _ j) fun w a I=>?_;rcases cd B with⟨o,B⟩|⟨o,B⟩
 ·exact fz
 refine am I fun a I=>?_;rcases cd B with⟨p,B⟩|⟨p,B⟩
 ·exact fz
 refine am I fun a I=>?_;refine aM (J:=fun a w=>St L No T 32 [] [] [bH] a w/\s5=some y) ?_ ?_
 ·refine am I fun a I=>?_;obtain⟨X,t,hMo1⟩:=bd B;refine bF _ (fun s a w=>∃ (d:Int),d=s/\St L No T 32 [(0,k),(21,l),(22,aj (c.length:Int)),(23,aj d)] [] [aL an k b,aL ad l c,bH] a w) t ⟨_,rfl,I.mt [] [3,0,4]⟩ ?_;rintro s a w M ⟨d,rfl,I⟩ B hf1;have B:mc b c d=some M:=B;unfold mc at B;refine am I fun a I=>?_;refine aC ?_;rcases cd B with⟨q,B⟩|⟨q,B⟩
  ·refine am I fun a I=>?_;refine aC ?_;refine am I fun a I=>?_;obtain⟨m,f,B⟩:=bd B;refine wl rfl (bn (R:=ad) I j7 dB rfl rfl 1 rfl f rfl fun G Q K r a I=>?_);obtain rfl:=r;refine kA I fH fun H P a w O I=>?_;refine go I fun a w I=>?_;obtain⟨S,g,B⟩:=bd B;refine kE I J8 (tU _ _ I.dlt I.g3 b m _ I.g1 _ g) fun w a I=>?_;exact fz
  exact fz
 rintro a w ⟨I,B⟩;unfold s5 at B;exact fz
def kv (b:LU):=some (b)
def ik (g e:LU) (d:Int):Option (Fl (LU×Int) (LU)):=cond (decide (d<(g.length:Int))) ((bu g d).bind fun b=>gd (bP (([]:List dd).length+b.c.length)) <| gd (bP (e.length+([(aN.mk b.f (([]:List dd)++b.c) b.n b.C)]).length)) <| some (.go ((e++([(aN.mk b.f (([]:List dd)++b.c) b.n b.C)])),IntKind.i64.wrap (d+1)))) (some (.out e))
def kY (b:LU):=(loop (fun s:LU×Int=>ik b s.1 s.2) (([]:List aN),0)).bind fun r=>kv r
theorem zj (j:LU) (r:Value) (F:aF an T L r j) (y:LU) (B:kY j=some y):bg aR No 182 [r] L (fun v w'=>∃ (D:Value) (rN:bI),v=D/\gG an T L w' [cr D rN] 150 D rN y):=by
 refine en Tryz.func182 Tryz.ntmps182 hT fun a I=>?_;replace I:=I.fS (aF.dn F);unfold kY at B;refine am I fun a I=>?_;refine aM (J:=fun a w=>∃ (l:LU) (h:Value) (e:LV),St L No T 22 [(3,h)] [cr h e] [ap an e l] a w/\kv l=some y) ?_ ?_
 ·refine am I fun a I=>?_;replace I:=I.zn an 150 (by decide);obtain⟨Y,E,hMo1⟩:=bd B;refine bF _ (fun s a w=>∃ (d:LU) (g:Int) (m:Value) (k:LV),(d,g)=s/\St L No T 22 [(3,m),(6,r),(7,aj (j.length:Int)),(8,aj g)] [cr m k] [ap an k d,aL an r j] a w) E ⟨_,_,_,_,rfl,I.mt [0] [0,1]⟩ ?_;rintro s a w Q ⟨d,g,m,k,rfl,I⟩ B hf1;have B:ik j d g=some Q:=B;unfold ik at B;refine am I fun a I=>?_;refine aC ?_;rcases cd B with⟨t,B⟩|⟨t,B⟩
  ·refine am I fun a I=>?_;refine aC ?_;refine am I fun a I=>?_;obtain⟨b,p,B⟩:=bd B;refine wl rfl (bn (R:=an) I uF nN rfl rfl 1 rfl p rfl fun G V M u a I=>?_);obtain⟨W,rfl,q⟩:=u;replace I:=I.fS q;refine kA I ti fun H S a w O I=>?_;refine go I fun a w I=>?_;replace I:=I.zn dG 147 (by decide);obtain⟨z,B⟩:=aW B;refine wl rfl (bG (R:=dG) (xs:=([]:List dd)) (ys:=b.c) I If (by decide) (by decide) rfl rfl 0 rfl 0 rfl 1 rfl z rfl fun o N a w O I=>?_);refine go I fun a w I=>?_;refine wl rfl (bf (ps:=[(0,.tmp 17)]) I Ko ti (zl:=[.bool false,.slice none 0 0,aj 0,aj 0]) (by kernel_rfl) rfl (us:=[(vY b o)]) ⟨rfl,trivial⟩ (ws:=(vY b o)) rfl rfl rfl rfl fun K a w O I=>?_);replace I:=I.zf (R:=dG) 1 rfl 0 rfl;replace I:=(I.lit (R:=an) (us:=(vY b o)) (xs:=[(aN.mk b.f (([]:List dd)++b.c) b.n b.C)]) 0 rfl (by decide) (aP (R:=an) (x:=(aN.mk b.f (([]:List dd)++b.c) b.n b.C)) (⟨_,rfl,I.g0⟩)) rfl rfl).zf (R:=an) 0 rfl 0 rfl;obtain⟨A,B⟩:=aW B;refine wl rfl (bG (R:=an) (xs:=d) (ys:=[(aN.mk b.f (([]:List dd)++b.c) b.n b.C)]) I Ko (by decide) (by decide) rfl rfl 1 rfl 7 rfl 0 rfl A rfl fun X P a w O I=>?_);exact fz
  exact fz
 rintro a w ⟨l,h,e,I,B⟩;unfold kv at B;refine am I fun a I=>?_;cases B
 refine aG I rfl (aw I rfl aI) ?_;exact⟨h,e,rfl,I.zo ⟨.inr (aO (i:=0) rfl),trivial⟩ 0 rfl 0 rfl⟩
def cX (b:LF):=some (b)
def cn (f e:LF) (c:Int):Option (Fl (LF×Int) (LF)):=cond (decide (c<(f.length:Int))) ((bu f c).bind fun b=>gd (bP (([]:List ae).length+b.k.length)) <| gd (bP (([]:List ByteArray).length+b.q.length)) <| gd (bP (e.length+([(bp.mk b.d b.m b.r1 (([]:List ae)++b.k) (([]:List ByteArray)++b.q))]).length)) <| some (.go ((e++([(bp.mk b.d b.m b.r1 (([]:List ae)++b.k) (([]:List ByteArray)++b.q))])),IntKind.i64.wrap (c+1)))) (some (.out e))
def eo (b:LF):=(loop (fun s:LF×Int=>cn b s.1 s.2) (([]:List bp),0)).bind fun r=>cX r
theorem xW (h:LF) (E:Value) (Q:aF aB T L E h) (y:LF) (B:eo h=some y):bg aR No 183 [E] L (fun v w'=>∃ (N:Value) (rN:bI),v=N/\gG aB T L w' [dP N rN] 202 N rN y):=by
 refine en Tryz.func183 Tryz.ntmps183 hT fun a I=>?_;replace I:=I.fS (aF.dn Q);unfold eo at B;refine am I fun a I=>?_;refine aM (J:=fun a w=>∃ (n:LF) (g:Value) (e:LV),St L No T 26 [(3,g)] [dP g e] [ap aB e n] a w/\cX n=some y) ?_ ?_
 ·refine am I fun a I=>?_;replace I:=I.zn aB 202 (by decide);obtain⟨r1,P,hMo1⟩:=bd B;refine bF _ (fun s a w=>∃ (c:LF) (f:Int) (o:Value) (j:LV),(c,f)=s/\St L No T 26 [(3,o),(6,E),(7,aj (h.length:Int)),(8,aj f)] [dP o j] [ap aB j c,aL aB E h] a w) P ⟨_,_,_,_,rfl,I.mt [0] [0,1]⟩ ?_;rintro s a w f1 ⟨c,f,o,j,rfl,I⟩ B hf1;have B:cn h c f=some f1:=B;unfold cn at B;refine am I fun a I=>?_;refine aC ?_;rcases cd B with⟨F,B⟩|⟨F,B⟩
  ·refine am I fun a I=>?_;refine aC ?_;refine am I fun a I=>?_;obtain⟨b,z,B⟩:=bd B;refine wl rfl (bn (R:=aB) I wE wF rfl rfl 1 rfl z rfl fun S a2 W G a I=>?_);obtain⟨a3,u,rfl,A,D⟩:=G;replace I:=(I.fS A).fS D;refine kA I uS fun t a1 a w O I=>?_;refine go I fun a w I=>?_;refine aC ?_;replace I:=(I.zn ad 30 (by decide)).zn a6.str 9 (by decide);refine dr [(2,.blk (Value.ownBlock (.slice none 0 0))),(5,.blk (Value.ownBlock (.slice none 0 0))),(7,.blk (some t)),(9,.blk (some t))] I fun w hQ I=>?_;refine gE [0,1,3] I fun a I=>?_;refine dq 4 I (l:=[.blk (Value.ownBlock (.slice none 0 0))]) (v:=u) (dm I rfl HO 2 rfl (gA I 2 rfl rfl 0 rfl rfl (by decide) bO) (us:=[u]) rfl rfl (fun _=>rfl)) fun a I=>?_;obtain⟨H,B⟩:=aW B;refine e1 2 (bG (R:=ad) (xs:=([]:List ae)) (ys:=b.k) I iA (by decide) (by decide) rfl rfl 1 rfl 1 rfl 3 rfl H rfl fun p X a w O I=>⟨jf rfl O kO,?_⟩);refine gE [6] I fun a I=>?_;obtain⟨K,B⟩:=aW B;refine e1 5 (bG (R:=a6.str) (xs:=([]:List ByteArray)) (ys:=b.q) I zK (by decide) (by decide) rfl rfl 0 rfl 1 rfl 3 rfl K rfl fun r Y a w O I=>⟨jf rfl O kO,?_⟩);refine es 7 I fun w I=>?_;refine gE [8] I fun a I=>?_;refine es 9 I fun w I=>?_;refine eD ?_;refine am I fun a I=>?_;refine wl rfl (bf (ps:=[(0,.tmp 21)]) I yG uS (zl:=[aj 0,a8 cp,.bool false,aj 0,.slice none 0 0,.slice none 0 0]) (by kernel_rfl) rfl (us:=[(m7 b p r)]) ⟨rfl,trivial⟩ (ws:=(m7 b p r)) rfl rfl rfl rfl fun V a w O I=>?_);replace I:=(I.zf (R:=ad) 2 rfl 1 rfl).zf (R:=a6.str) 1 rfl 1 rfl;replace I:=(I.lit (R:=aB) (us:=(m7 b p r)) (xs:=[(bp.mk b.d b.m b.r1 (([]:List ae)++b.k) (([]:List ByteArray)++b.q))]) 0 rfl (by decide) (aP (R:=aB) (x:=(bp.mk b.d b.m b.r1 (([]:List ae)++b.k) (([]:List ByteArray)++b.q))) (⟨_,_,rfl,I.g1,I.g0⟩)) rfl rfl).zf (R:=aB) 0 rfl 0 rfl;obtain⟨M,B⟩:=aW B;refine wl rfl (bG (R:=aB) (xs:=c) (ys:=[(bp.mk b.d b.m b.r1 (([]:List ae)++b.k) (([]:List ByteArray)++b.q))]) I yG (by decide) (by decide) rfl rfl 1 rfl 11 rfl 0 rfl M rfl fun a4 Z a w O I=>?_);exact fz
  exact fz
 rintro a w ⟨n,g,e,I,B⟩;unfold cX at B;refine am I fun a I=>?_;cases B
 refine aG I rfl (aw I rfl aI) ?_;exact⟨g,e,rfl,I.zo ⟨.inr (aO (i:=0) rfl),trivial⟩ 0 rfl 0 rfl⟩
def ot (c:dX):=(kY c.l).bind fun d=>(fg c.b).bind fun e=>gd (bP (([]:List ae).length+c.s1.length)) <| (eo c.o).bind fun f=>gd (bP (([]:List ae).length+c.y.length)) <| some ((dX.mk d e (([]:List ae)++c.s1) f (([]:List ae)++c.y)))
theorem vu (d:dX) (v1 v2:Value) (v3 v4:Value) (N P:Value) (hD:xH T L []) (a3:aF an (dT T []) L v1 d.l) (a4:aF ac (dT T []) L v2 d.b.i) (a5:aF aa (dT T []) L v3 d.b.s) (a9:aF ad (dT T []) L v4 d.s1) (ab:aF aB (dT T []) L N d.o) (af:aF ad (dT T []) L P d.y) (y:dX) (B:ot d=some y):bg aR (MD []) 140 [.agg (xi d v1 v2 v3 v4 N P).toArray] L (fun v w'=>∃ (z:Value) (zD:bI) (A:Value) (sB:bI) (h:Value) (uY:bI) (j:Value) (e:bI) (k:Value) (f:bI) (m:Value) (g:bI),v = .agg (xi y z A h j k m).toArray/\bk an (dT T [cr z zD,be A sB,aJ h uY,aA j e,dP k f,aA m g]) w' zD y.l/\bk ac (dT T [cr z zD,be A sB,aJ h uY,aA j e,dP k f,aA m g]) w' sB y.b.i/\bk aa (dT T [cr z zD,be A sB,aJ h uY,aA j e,dP k f,aA m g]) w' uY y.b.s/\bk ad (dT T [cr z zD,be A sB,aJ h uY,aA j e,dP k f,aA m g]) w' e y.s1/\bk aB (dT T [cr z zD,be A sB,aJ h uY,aA j e,dP k f,aA m g]) w' f y.o/\bk ad (dT T [cr z zD,be A sB,aJ h uY,aA j e,dP k f,aA m g]) w' g y.y/\mx L w' [] [cr z zD,be A sB,aJ h uY,aA j e,dP k f,aA m g]):=by
 refine fT (c:=_) Tryz.func140 rfl T 19 Tryz.ntmps140 hT rfl hD fun a I=>?_;replace I:=(((((I.fS a3).fS a4).fS a5).fS a9).fS ab).fS af;unfold ot at B;refine kB I fun b0 b1 a w O I=>?_;refine ka I wL fun Q b2 a w O I=>?_;refine am I fun a I=>?_;refine aC ?_;replace I:=(I.zn ad 30 (by decide)).zn ad 30 (by decide);refine dr [(8,.blk (Value.ownBlock (.slice none 0 0))),(14,.blk (Value.ownBlock (.slice none 0 0))),(16,.blk (some Q))] I fun w hQ I=>?_;refine gE [0,1,3,4,6,7,9] I fun a I=>?_;refine dq 10 I (l:=[.blk (Value.ownBlock (.slice none 0 0))]) (v:=N) (dm I rfl N1 3 rfl (gA I 3 rfl rfl 0 rfl rfl (by decide) bO) (us:=[N]) rfl rfl (fun _=>rfl)) fun a I=>?_;refine gE [12] I fun a I=>?_;refine dq 13 I (l:=[.blk (Value.ownBlock (.slice none 0 0))]) (v:=P) (dm I rfl HN 3 rfl (gA I 3 rfl rfl 0 rfl rfl (by decide) bO) (us:=[P]) rfl rfl (fun _=>rfl)) fun a I=>?_;obtain⟨b3,J,B⟩:=bd B;refine ec 2 I Qc (zj _ _ I.dlt d.l _ I.g7 _ J) fun _ w C a O U=>?_;obtain⟨n,S,he,E⟩:=C;obtain rfl:=he.symm;have I:=qs U E;obtain⟨D,K,B⟩:=bd B;refine ec 5 I Bq (eA _ _ I.dlt d.b _ _ I.g7 I.g6 _ K) fun _ w C a O U=>?_;obtain⟨p,V,q,W,he,F,G,a2⟩:=C;obtain rfl:=he.symm;have I:=Ar U F G a2;obtain⟨a0,B⟩:=aW B;refine e1 8 (bG (R:=ad) (xs:=([]:List ae)) (ys:=d.s1) I iA (by decide) (by decide) rfl rfl 4 rfl 3 rfl 7 rfl a0 rfl fun t X a w O I=>⟨jf rfl O kO,?_⟩);obtain⟨b4,M,B⟩:=bd B;refine ec 11 I Nx (xW _ _ I.dlt d.o _ I.g7 _ M) fun _ w C a O U=>?_;obtain⟨u,Y,he,H⟩:=C;obtain rfl:=he.symm;have I:=qs U H;obtain⟨a1,B⟩:=aW B;refine e1 14 (bG (R:=ad) (xs:=([]:List ae)) (ys:=d.y) I iA (by decide) (by decide) rfl rfl 4 rfl 5 rfl 7 rfl a1 rfl fun x Z a w O I=>⟨jf rfl O kO,?_⟩);refine dq 15 I (v:=.agg #[n,aj D.r,p,q,t,u,x]) (bw (ps:=[(0,.tmp 5),(1,.tmp 8),(2,.tmp 11),(3,.tmp 14),(4,.tmp 17)]) I KZ wL rfl (us:=[[n],(aU D p q),[t],[u],[x]]) ⟨(m8 (iS (I.own _ (aO (i:=3) rfl)).1)),⟨rfl,⟨(m8 (iS (I.own _ (aO (i:=5) rfl)).1)),⟨(m8 (iS (I.own _ (aO (i:=0) rfl)).1)),⟨(m8 (iS (I.own _ (aO (i:=4) rfl)).1)),trivial⟩⟩⟩⟩⟩ (ws:=[n,aj D.r,p,q,t,u,x]) rfl) fun a I=>?_;refine es 16 I fun w I=>?_;refine eD ?_;refine am I fun a I=>?_;cases B
 refine aG I rfl (rC 6 I) ?_;have hZ:=I.sl [3,1,2,5,0,4] [5,4,3,2,1,0];exact⟨n,S,p,V,q,W,t,X,u,Y,x,Z,rfl,hZ.g0,hZ.g1,hZ.g2,hZ.g3,hZ.g4,hZ.g5,hZ.zd⟩
def rh (c:LU) (e:ah) (b:LK):=(mb c e b).bind fun d=>cond (d != 0) (some (((dX.mk ([]:List aN) (ah.mk 0 ([]:List a7) ([]:List au)) ([]:List ae) ([]:List bp) ([]:List ae)),d))) ((ot (dX.mk c e b ([]) ([]))).bind fun f=>some ((f,0)))
theorem tW (g:LU) (j:ah) (f:LK) (H J:Value) (K M:Value) (hD:xH T L []) (a4:aF an (dT T []) L H g) (a5:aF ac (dT T []) L J j.i) (a9:aF aa (dT T []) L K j.s) (ab:aF ad (dT T []) L M f) (hLv:dh (dT T []) L) (y:dX×Int) (B:rh g j f=some y):bg aR (MD []) 87 [H,.agg (aU j J K).toArray,M] L (fun v w'=>∃ (p:Value) (Ba:bI) (q:Value) (zD:bI) (t:Value) (sB:bI) (k:Value) (uY:bI) (m:Value) (d:bI) (n:Value) (e:bI),v = .tuple #[.agg (xi y.1 p q t k m n).toArray,aj y.2]/\bk an (dT T [cr p Ba,be q zD,aJ t sB,aA k uY,dP m d,aA n e]) w' Ba y.1.l/\bk ac (dT T [cr p Ba,be q zD,aJ t sB,aA k uY,dP m d,aA n e]) w' zD y.1.b.i/\bk aa (dT T [cr p Ba,be q zD,aJ t sB,aA k uY,dP m d,aA n e]) w' sB y.1.b.s/\bk ad (dT T [cr p Ba,be q zD,aJ t sB,aA k uY,dP m d,aA n e]) w' uY y.1.s1/\bk aB (dT T [cr p Ba,be q zD,aJ t sB,aA k uY,dP m d,aA n e]) w' d y.1.o/\bk ad (dT T [cr p Ba,be q zD,aJ t sB,aA k uY,dP m d,aA n e]) w' e y.1.y/\mx L w' [] [cr p Ba,be q zD,aJ t sB,aA k uY,dP m d,aA n e]):=by
 refine fT (c:=_) Tryz.func87 rfl T 22 Tryz.ntmps87 hT rfl hD fun a I=>?_;replace I:=((((I.fact bH hLv).fS a4).fS a5).fS a9).fS ab;unfold rh at B;refine kB I fun af ak a w O I=>?_;refine ka I wL fun ag ao a w O I=>?_;refine am I fun a I=>?_;refine aC ?_;refine am I fun a I=>?_;obtain⟨av,F,B⟩:=bd B;refine kF I J3 (tV _ _ I.dlt I.g4 g j f _ _ _ _ I.g3 I.g2 I.g1 I.g0 _ F) fun w a I=>?_;rcases cd B with⟨W,B⟩|⟨W,B⟩
 ·refine am I fun a I=>?_;refine qy I (bw (ps:=[]) I KZ wL rfl (us:=[]) trivial (ws:=[.slice none 0 0,aj 0,.slice none 0 0,.slice none 0 0,.slice none 0 0,.slice none 0 0,.slice none 0 0]) rfl) fun a I=>?_;refine go I fun a w I=>?_;replace I:=(((((I.zn an 150 (by decide)).zn ac 91 (by decide)).zn aa 33 (by decide)).zn ad 30 (by decide)).zn aB 202 (by decide)).zn ad 30 (by decide);cases B
  refine aG I Tryz.results87 (bC I rfl 6 rfl uL rfl (fun h=>by cases h) (aw I rfl aI)) ?_;have hZ:=I.sl [5,4,3,2,1,0] [5,4,3,0,1];exact⟨(.slice none 0 0),[],(.slice none 0 0),[],(.slice none 0 0),[],(.slice none 0 0),[],(.slice none 0 0),[],(.slice none 0 0),[],rfl,hZ.g0,hZ.g1,hZ.g2,hZ.g3,hZ.g4,hZ.g3,hZ.zd⟩
 refine am I fun a I=>?_;refine qy I (bw (ps:=[(0,.tmp 17),(1,.tmp 18),(2,.tmp 19)]) I KZ wL rfl (us:=[[H],(aU j J K),[M]]) ⟨(m8 (aF.one (I.g3:aF an _ _ _ _))),⟨rfl,⟨(m8 (aF.one (I.g0:aF ad _ _ _ _))),trivial⟩⟩⟩ (ws:=[H,aj j.r,J,K,M,.slice none 0 0,.slice none 0 0]) rfl) fun a I=>?_;replace I:=(I.fact (aL aB (.slice none 0 0) []) (aF.nil_ _ _ _)).fact (aL ad (.slice none 0 0) []) (aF.nil_ _ _ _);obtain⟨b0,G,B⟩:=bd B;replace I:=I.re [] [0,1];refine wl rfl (ci I J6 rfl rfl (vu _ _ I.zt (dX.mk g j f ([]) ([])) _ _ _ _ _ _ I.dok I.d5 I.d4 I.d3 I.d2 I.d1 I.d0 _ G) fun _ w C a O U=>?_);obtain⟨Y,N,Z,P,a0,Q,a1,R,a2,S,a3,V,he,u,x,z,A,D,E,X⟩:=C;obtain rfl:=he.symm;have I:=U _ X;replace I:=(((((I.fR (u.keep (al _ _) (ay _))).fR (x.keep (al _ _) (ay _))).fR (z.keep (al _ _) (ay _))).fR (A.keep (al _ _) (ay _))).fR (D.keep (al _ _) (ay _))).fR (E.keep (al _ _) (ay _));refine go I fun a w I=>?_;cases B
 refine aG I Tryz.results87 (bC I rfl 6 rfl uL rfl (fun h=>by cases h) (aw I rfl aI)) ?_;have hZ:=I.sl [0,1,2,3,4,5] [5,4,3,2,1,0];exact⟨Y,N,Z,P,a0,Q,a1,R,a2,S,a3,V,rfl,hZ.g0,hZ.g1,hZ.g2,hZ.g3,hZ.g4,hZ.g5,hZ.zd⟩
def uq (k:bj) (b:LU):=(cj k 8).bind fun c=>cond (c.1==1) ((cj (bj.mk c.2.L c.2.r1) 4).bind fun e=>(km e.1).bind fun h=>some ((h,(bj.mk e.2.L e.2.r1)))) ((cj (bj.mk c.2.L c.2.r1) 2).bind fun d=>cond (d.1==0) ((cj (bj.mk d.2.L d.2.r1) (min 3 (b.length:Int))).bind fun f=>(jQ b (IntKind.i64.wrap ((IntKind.i64.wrap ((b.length:Int)-1))-f.1))).bind fun i=>some ((i,(bj.mk f.2.L f.2.r1)))) ((cj (bj.mk d.2.L d.2.r1) (b.length:Int)).bind fun g=>(jQ b g.1).bind fun j=>some ((j,(bj.mk g.2.L g.2.r1)))))
theorem F5 (e:bj) (b:LU) (d W:Value) (h:Nat) (R:L.heap[h]? = some (.cells (bo e d).toArray 84 (0,0))) (Q:¬ T h) (S:aF (a6.int .i64) (dT T [.box h (bo e d) 84]) L d e.L) (V:aF an (dT T [.box h (bo e d) 84]) L W b) (hLv:dh (dT T [.box h (bo e d) 84]) L) (y:ae×bj) (B:uq e b=some y):bg aR (fun k=>k=h) 116 [pt h 0,W] L (fun v w'=>∃ (M:Value),v = .agg (aX y.1).toArray/\w'.heap[h]? = some (.cells (bo y.2 M).toArray 84 (0,0))/\aF (a6.int .i64) (dT T [.box h (bo y.2 M) 84]) w' M y.2.L/\d=M):=by
 refine tO (c:=_) Tryz.func116 rfl T 31 Tryz.ntmps116 hT rfl R Q fun a I=>?_;replace I:=((I.fact bH hLv).fS S).fS V;unfold uq at B;refine kA I fH fun X Y a w O I=>?_;refine am I fun a I=>?_;refine aC ?_;refine am I fun a I=>?_;obtain⟨f,A,B⟩:=bd B;refine wl rfl (cN I oh rfl rfl 1 rfl (bL _ _ (I.drop 1).dlt e 8 _ _ (I.zb 1 rfl) (I.zi 1 rfl) (aF.lent (i:=1) rfl I.g1) _ A) fun _ w C O=>?_);obtain⟨a2,he,hrow,p,l⟩:=C;obtain rfl:=he.symm;subst l;refine⟨(bo f.2 d),hrow,fun a I=>?_⟩;replace I:=I.fS (aF.back (i:=1) rfl p);refine am I fun a I=>?_;rcases cd B with⟨N,B⟩|⟨N,B⟩
 ·refine am I fun a I=>?_;obtain⟨u,D,B⟩:=bd B;refine wl rfl (cN I oh rfl rfl 1 rfl (bL _ _ (I.drop 1).dlt (bj.mk f.2.L f.2.r1) 4 _ _ (I.zb 1 rfl) (I.zi 1 rfl) (aF.lent (i:=1) rfl I.g0) _ D) fun _ w C O=>?_);obtain⟨a3,he,hrow,q,m⟩:=C;obtain rfl:=he.symm;subst m;refine⟨(bo u.2 d),hrow,fun a I=>?_⟩;replace I:=I.fS (aF.back (i:=1) rfl q);obtain⟨Z,E,B⟩:=bd B;refine kE I Ml (rT _ _ I.dlt I.g4 u.1 _ E) fun w a I=>?_;refine go I fun a w I=>?_;cases B
  refine aG I rfl (rC 0 I) ?_;exact⟨d,rfl,I.zb 1 rfl,(aF.up ⟨.inr (aO (i:=1) rfl),trivial⟩ I.g0),rfl⟩
 refine am I fun a I=>?_;refine aC ?_;refine am I fun a I=>?_;obtain⟨g,F,B⟩:=bd B;refine wl rfl (cN I oh rfl rfl 1 rfl (bL _ _ (I.drop 1).dlt (bj.mk f.2.L f.2.r1) 2 _ _ (I.zb 1 rfl) (I.zi 1 rfl) (aF.lent (i:=1) rfl I.g0) _ F) fun _ w C O=>?_);obtain⟨a4,he,hrow,r,n⟩:=C;obtain rfl:=he.symm;subst n;refine⟨(bo g.2 d),hrow,fun a I=>?_⟩;replace I:=I.fS (aF.back (i:=1) rfl r);refine am I fun a I=>?_;rcases cd B with⟨P,B⟩|⟨P,B⟩
 ·refine am I fun a I=>?_;refine qy I (N6 I rfl rfl) fun a I=>?_;obtain⟨x,G,B⟩:=bd B;refine wl rfl (cN I oh rfl rfl 1 rfl (bL _ _ (I.drop 1).dlt (bj.mk g.2.L g.2.r1) (min 3 (b.length:Int)) _ _ (I.zb 1 rfl) (I.zi 1 rfl) (aF.lent (i:=1) rfl I.g0) _ G) fun _ w C O=>?_);obtain⟨a5,he,hrow,s,o⟩:=C;obtain rfl:=he.symm;subst o;refine⟨(bo x.2 d),hrow,fun a I=>?_⟩;replace I:=I.fS (aF.back (i:=1) rfl s);refine am I fun a I=>?_;obtain⟨a0,H,B⟩:=bd B;refine kE I Hd (oo _ _ I.dlt I.g5 b (IntKind.i64.wrap ((IntKind.i64.wrap ((b.length:Int)-1))-x.1)) _ I.g3 _ H) fun w a I=>?_;refine go I fun a w I=>?_;cases B
  refine aG I rfl (rC 0 I) ?_;exact⟨d,rfl,I.zb 1 rfl,(aF.up ⟨.inr (aO (i:=1) rfl),trivial⟩ I.g0),rfl⟩
 refine am I fun a I=>?_;obtain⟨z,J,B⟩:=bd B;refine wl rfl (cN I oh rfl rfl 1 rfl (bL _ _ (I.drop 1).dlt (bj.mk g.2.L g.2.r1) (b.length:Int) _ _ (I.zb 1 rfl) (I.zi 1 rfl) (aF.lent (i:=1) rfl I.g0) _ J) fun _ w C O=>?_);obtain⟨a9,he,hrow,t,j⟩:=C;obtain rfl:=he.symm;subst j;refine⟨(bo z.2 d),hrow,fun a I=>?_⟩;replace I:=I.fS (aF.back (i:=1) rfl t);obtain⟨a1,K,B⟩:=bd B;refine kE I Hd (oo _ _ I.dlt I.g5 b z.1 _ I.g3 _ K) fun w a I=>?_;refine go I fun a w I=>?_;cases B
 refine aG I rfl (rC 0 I) ?_;exact⟨d,rfl,I.zb 1 rfl,(aF.up ⟨.inr (aO (i:=1) rfl),trivial⟩ I.g0),rfl⟩
def qz (d:LK) (b:LN) (c:Int):=some ((d,(bj.mk b c)))
def qA (g:LU) (c:LK) (f:Int) (d:LN) (e:Int):Option (Fl (LK×Int×LN×Int) (LK×LN×Int)):=cond (decide ((0:Int)<f)) ((uq (bj.mk d e) g).bind fun b=>gd (bP (c.length+([(ae.mk b.1.v b.1.x)]).length)) <| some (.go ((c++([(ae.mk b.1.v b.1.x)])),IntKind.i64.wrap (f-1),b.2.L,b.2.r1))) (some (.out (c,d,e)))
def lL (e:bj) (c:LU) (d:Int):=(cj e d).bind fun b=>(loop (fun s:LK×Int×LN×Int=>qA c s.1 s.2.1 s.2.2.1 s.2.2.2) (([]:List ae),IntKind.i64.wrap (b.1+1),b.2.L,b.2.r1)).bind fun r=>qz r.1 r.2.1 r.2.2
theorem pb (l:bj) (d:LU) (o:Int) (j M:Value) (e:Nat) (W:L.heap[e]? = some (.cells (bo l j).toArray 84 (0,0))) (S:¬ T e) (Y:aF (a6.int .i64) (dT T [.box e (bo l j) 84]) L j l.L) (Z:aF an (dT T [.box e (bo l j) 84]) L M d) (hLv:dh (dT T [.box e (bo l j) 84]) L) (y:LK×bj) (B:lL l d o=some y):bg aR (fun k=>k=e) 36 [pt e 0,M,aj o] L (fun v w'=>∃ (N:Value) (Ei:bI) (G:Value),v=N/\gG ad T L w' [aA N Ei,.box e (bo y.2 G) 84] 30 N Ei y.1/\w'.heap[e]? = some (.cells (bo y.2 G).toArray 84 (0,0))/\aF (a6.int .i64) (dT T [aA N Ei,.box e (bo y.2 G) 84]) w' G y.2.L/\j=G):=by
 refine tO (c:=_) Tryz.func36 rfl T 24 Tryz.ntmps36 hT rfl W S fun a I=>?_;replace I:=((I.fact bH hLv).fS Y).fS Z;unfold lL at B;refine am I fun a I=>?_;refine aM (J:=fun a w=>∃ (A:LK) (u:LN) (z:Int) (p:Value) (m:LV),St L (fun k=>k=e) T 24 [(7,p)] [aA p m,.box e [j,aj z] 84] [ap ad m A,aL (a6.int .i64) j u,bH] a w/\qz A u z=some y) ?_ ?_
 ·refine am I fun a I=>?_;obtain⟨V,K,B⟩:=bd B;refine wl rfl (cN I oh rfl rfl 0 rfl (bL _ _ (I.drop 0).dlt l o _ _ (I.zb 0 rfl) (I.zi 0 rfl) (aF.lent (i:=0) rfl I.g1) _ K) fun _ w C O=>?_);obtain⟨a3,he,hrow,E,q⟩:=C;obtain rfl:=he.symm;subst q;refine⟨(bo V.2 j),hrow,fun a I=>?_⟩;replace I:=I.fS (aF.back (i:=0) rfl E);refine am I fun a I=>?_;replace I:=I.zn ad 30 (by decide);obtain⟨r1,X,hMo1⟩:=bd B;refine bF _ (fun s a w=>∃ (h:LK) (n:Int) (f:LN) (g:Int) (D:Value) (t:LV),(h,n,f,g)=s/\St L (fun k=>k=e) T 24 [(0,pt e 0),(1,M),(7,D),(8,aj n)] [aA D t,.box e [j,aj g] 84] [aL an M d,ap ad t h,aL (a6.int .i64) j f,bH] a w) X ⟨_,_,_,_,_,_,rfl,I.mt [0,1] [2,0,1,4]⟩ ?_;rintro s a w f1 ⟨h,n,f,g,D,t,rfl,I⟩ B hf1;have B:qA d h n f g=some f1:=B;unfold qA at B;refine aC ?_;refine am I fun a I=>?_;rcases cd B with⟨P,B⟩|⟨P,B⟩
  ·refine am I fun a I=>?_;refine aC ?_;refine am I fun a I=>?_;obtain⟨b,H,B⟩:=bd B;refine wl rfl (cN I PD rfl rfl 1 rfl (F5 _ _ (I.drop 1).dlt (bj.mk f g) d _ _ _ (I.zb 1 rfl) (I.zi 1 rfl) (aF.lent (i:=1) rfl I.g2) (aF.lent (i:=1) rfl I.g0) (bH.keep I.g3 (al _ _) (fun k O=>.inl ((mZ (i:=1) rfl k).1 O))) _ H) fun _ w C O=>?_);obtain⟨a4,he,hrow,F,r⟩:=C;obtain rfl:=he.symm;subst r;refine⟨(bo b.2 j),hrow,fun a I=>?_⟩;replace I:=I.fS (aF.back (i:=1) rfl F);refine wl rfl (bf (ps:=[(0,.tmp 20)]) I iA fH (zl:=[aj 0,a8 cp]) (by kernel_rfl) rfl (us:=[(aX b.1)]) ⟨rfl,trivial⟩ (ws:=(aX b.1)) rfl rfl rfl rfl fun a0 a w O I=>?_);replace I:=(I.lit (R:=ad) (us:=(aX b.1)) (xs:=[(ae.mk b.1.v b.1.x)]) 0 rfl (by decide) (aP (R:=ad) (x:=(ae.mk b.1.v b.1.x)) rfl) rfl rfl).zf (R:=ad) 0 rfl 0 rfl;obtain⟨Q,B⟩:=aW B;refine wl rfl (bG (R:=ad) (xs:=h) (ys:=[(ae.mk b.1.v b.1.x)]) I iA (by decide) (by decide) rfl rfl 0 rfl 4 rfl 0 rfl Q rfl fun a5 a1 a w O I=>?_);refine am I fun a I=>?_;exact fin
  refine am I fun a I=>?_;cases B
  have hr:=hf1 _ rfl;subst hr;have B:qz h f g=some y:=hMo1;exact fin
 rintro a w ⟨A,u,z,p,m,I,B⟩;unfold qz at B;refine am I fun a I=>?_;cases B
 refine aG I rfl (aw I rfl aI) ?_;exact⟨p,m,j,rfl,I.zm ⟨.inr (aO (i:=0) rfl),⟨.inr (aO (i:=1) rfl),trivial⟩⟩ 0 rfl 0 rfl 1 rfl (by decide),I.zb 1 rfl,(aF.up ⟨.inr (aO (i:=0) rfl),⟨.inr (aO (i:=1) rfl),trivial⟩⟩ I.g1),rfl⟩
def tR:=some (((au.mk (ae.mk 0 cp) cp ([]) 0 0 0 false),false))
def jm (f:LR) (e:ae) (c:Int):Option (Fl (Int) (Fl (Unit) (au×Bool))):=cond (decide (c<(f.length:Int))) ((bu f c).bind fun b=>cond (b.d.v==e.v&&b.d.x.toList==e.x.toList) ((gD b).bind fun g=>some (.out (.out (g,true)))) (some (.go (IntKind.i64.wrap (c+1))))) (some (.out (.go ())))
def cm (c:LR) (b:ae):=(loop (fun s:Int=>jm c b s) 0).bind fun r=>Fl.el r (fun s=>tR) (fun y=>some (y))
theorem bR (f:LR) (b:ae) (p:Value) (E:aF aa T L p f) (y:au×Bool) (B:cm f b=some y):bg aR No 40 [p,.agg (aX b).toArray] L (fun v w'=>∃ (A:Value) (rN:bI),v = .tuple #[.agg (bh y.1 A).toArray,.bool y.2]/\gG ad T L w' [aA A rN] 30 A rN y.1.k):=by
 refine en Tryz.func40 Tryz.ntmps40 hT fun a I=>?_;replace I:=I.fS (aF.dn E);unfold cm at B;refine kB I fun j M a w O I=>?_;refine ka I eJ fun c N a w O I=>?_;refine am I fun a I=>?_;refine aM (J:=fun a w=>St L No T 22 [(4,pt c 0)] [.box c [aj 0,a8 cp,a8 cp,.slice none 0 0,aj 0,aj 0,aj 0,.bool false] 33] [] a w/\tR=some y) ?_ ?_
 ·refine am I fun a I=>?_;obtain⟨W,D,hMo1⟩:=bd B;refine bF _ (fun s a w=>∃ (e:Int),e=s/\St L No T 22 [(3,pt j 0),(4,pt c 0),(8,p),(9,aj (f.length:Int)),(10,aj e)] [.box j (aX b) 30,.box c [aj 0,a8 cp,a8 cp,.slice none 0 0,aj 0,aj 0,aj 0,.bool false] 33] [aL aa p f] a w) D ⟨_,rfl,I.mt [1,0] [0]⟩ ?_;rintro s a w K ⟨e,rfl,I⟩ B hf1;have B:jm f b e=some K:=B;unfold jm at B;refine am I fun a I=>?_;refine aC ?_;rcases cd B with⟨r,B⟩|⟨r,B⟩
  ·refine am I fun a I=>?_;refine aC ?_;refine am I fun a I=>?_;obtain⟨g,m,B⟩:=bd B;refine wl rfl (bn (R:=aa) I mV j6 rfl rfl 0 rfl m rfl fun F Q H t a I=>?_);obtain⟨V,rfl,o⟩:=t;replace I:=I.fS o;refine kA I eJ fun G P a w O I=>?_;refine go I fun a w I=>?_;refine wl rfl (ky (v:=.bool (g.d.v==b.v&&g.d.x.toList==b.x.toList)) I (CZ I rfl rfl) rfl rfl fun a I=>?_);refine am I fun a I=>?_;rcases cd B with⟨u,B⟩|⟨u,B⟩
   ·refine am I fun a I=>?_;obtain⟨S,n,B⟩:=bd B;refine kc I H4 (nZ _ _ I.dlt g _ I.g0 _ n) fun _ w C a O U=>?_;obtain⟨z,q,he,l⟩:=C;obtain rfl:=he.symm;have I:=qs U l;refine go I fun a w I=>?_;cases B
    have hr:=hf1 _ rfl;subst hr;replace hMo1:=iE hMo1;have B:=hMo1;cases B
    refine aG I Tryz.results40 (bC I rfl 3 rfl j6 rfl (fun h=>by cases h) (aw I rfl aI)) ?_;exact⟨z,q,rfl,I.zo ⟨.inr (aO (i:=0) rfl),trivial⟩ 0 rfl 0 rfl⟩
   exact fz
  exact fz
 rintro a w ⟨I,B⟩;unfold tR at B;refine am I fun a I=>?_;refine qy I (bw (ps:=[]) I OH eJ rfl (us:=[]) trivial (ws:=[aj 0,a8 cp,a8 cp,.slice none 0 0,aj 0,aj 0,aj 0,.bool false]) rfl) fun a I=>?_;refine go I fun a w I=>?_;cases B
 refine aG I Tryz.results40 (bC I rfl 0 rfl j6 rfl (fun h=>by cases h) (aw I rfl aI)) ?_;exact⟨.slice none 0 0,[],rfl,og _ _ _ _ _ _⟩
def vo:=some (false)
def mL (e:LK) (d:ae) (b:Int):Option (Fl (Int) (Fl (Unit) Bool)):=cond (decide (b<(e.length:Int))) ((bu e b).bind fun c=>cond (c.v==d.v&&c.x.toList==d.x.toList) (some (.out (.out true))) (some (.go (IntKind.i64.wrap (b+1))))) (some (.out (.go ())))
def jO (c:LK) (b:ae):=(loop (fun s:Int=>mL c b s) 0).bind fun r=>Fl.el r (fun s=>vo) (fun y=>some (y))
theorem qX (d:LK) (b:ae) (h:Value) (l:aF ad T L h d) (y:Bool) (B:jO d b=some y):bg aR No 38 [h,.agg (aX b).toArray] L (fun v w'=>v = .bool y):=by
 refine en Tryz.func38 Tryz.ntmps38 hT fun a I=>?_;replace I:=I.fS (aF.dn l);unfold jO at B;refine kB I fun e q a w O I=>?_;refine am I fun a I=>?_;refine aM (J:=fun a w=>St L No T 17 [] [] [] a w/\vo=some y) ?_ ?_
 ·refine am I fun a I=>?_;obtain⟨u,k,hMo1⟩:=bd B;refine bF _ (fun s a w=>∃ (c:Int),c=s/\St L No T 17 [(3,pt e 0),(7,h),(8,aj (d.length:Int)),(9,aj c)] [.box e (aX b) 30] [aL ad h d] a w) k ⟨_,rfl,I.mt [0] [0]⟩ ?_;rintro s a w p ⟨c,rfl,I⟩ B hf1;have B:mL d b c=some p:=B;unfold mL at B;refine am I fun a I=>?_;refine aC ?_;rcases cd B with⟨i,B⟩|⟨i,B⟩
  ·refine am I fun a I=>?_;refine aC ?_;refine am I fun a I=>?_;obtain⟨f,g,B⟩:=bd B;refine wl rfl (bn (R:=ad) I j7 dB rfl rfl 0 rfl g rfl fun m t o j a I=>?_);obtain rfl:=j;refine kA I fH fun n r a w O I=>?_;refine go I fun a w I=>?_;refine wl rfl (ky (v:=.bool (f.v==b.v&&f.x.toList==b.x.toList)) I (CZ I rfl rfl) rfl rfl fun a I=>?_);exact fz
  exact fz
 rintro a w ⟨I,B⟩;unfold vo at B;exact fz
def n5 (b:(List de)):=some (b)
def n7 (b:Int) (c:(List de)):Option (Fl ((List de)×Int) ((List de))):=some (.go (c,IntKind.i64.wrap (b+1)))
def kV (b:Int) (c:(List de)):Option (Fl ((List de)×Int) ((List de))):=some (.go (c,IntKind.i64.wrap (b+1)))
def iI (f:LK) (e:ae) (g:(au×Bool)) (c:(List de)) (b:Int):=cond (decide (b<(g.1.k.length:Int))) ((bu g.1.k b).bind fun d=>(jO f d).bind fun h=>cond (!(h)) (gd (bP (c.length+([(de.mk e d)]).length)) <| kV b (c++([(de.mk e d)]))) (kV b c)) (some (.out c))
def kW (g:LR) (b:LK) (e:(List de)) (c:Int):=cond (decide (c<(b.length:Int))) ((bu b c).bind fun d=>(cm g d).bind fun f=>(loop (fun s:(List de)×Int=>iI b d f s.1 s.2) (e,0)).bind fun r=>n7 c r) (some (.out e))
def i7 (c:LR) (b:LK):=(loop (fun s:(List de)×Int=>kW c b s.1 s.2) (([]:List de),0)).bind fun r=>n5 r
theorem pu (j:LR) (b:LK) (n f:Value) (ao:aF aa T L n j) (av:aF ad T L f b) (y:(List de)) (B:i7 j b=some y):bg aR No 211 [n,f] L (fun v w'=>∃ (v3:Value) (uZ:bI),v=v3/\gG ga T L w' [nV v3 uZ] 257 v3 uZ y):=by
 refine en Tryz.func211 Tryz.ntmps211 hT fun a I=>?_;replace I:=(I.fS (aF.dn ao)).fS (aF.dn av);unfold i7 at B;refine am I fun a I=>?_;refine aM (J:=fun a w=>∃ (F:(List de)) (t:Value) (p:LV),St L No T 44 [(5,t)] [nV t p] [ap ga p F] a w/\n5 F=some y) ?_ ?_
 ·refine am I fun a I=>?_;replace I:=I.zn ga 257 (by decide);obtain⟨r1,ag,hMo1⟩:=bd B;refine bF _ (fun s a w=>∃ (r:(List de)) (e:Int) (K:Value) (z:LV),(r,e)=s/\St L No T 44 [(0,n),(1,f),(5,K),(12,f),(13,aj (b.length:Int)),(14,aj e)] [nV K z] [aL aa n j,aL ad f b,ap ga z r] a w) ag ⟨_,_,_,_,rfl,I.mt [0] [2,1,0]⟩ ?_;rintro s a w f1 ⟨r,e,K,z,rfl,I⟩ B hf1;have B:kW j b r e=some f1:=B;unfold kW at B;refine am I fun a I=>?_;refine aC ?_;rcases cd B with⟨Y,B⟩|⟨Y,B⟩
  ·refine am I fun a I=>?_;refine aM (J:=fun a w=>∃ (G:(List de)) (M:Value) (A:LV),St L No T 44 [(0,n),(1,f),(5,M),(12,f),(13,aj (b.length:Int)),(14,aj e)] [nV M A] [aL aa n j,aL ad f b,ap ga A G] a w/\n7 e G=some f1) ?_ ?_
   ·refine am I fun a I=>?_;obtain⟨c,S,B⟩:=bd B;refine wl rfl (bn (R:=ad) I j7 dB rfl rfl 1 rfl S rfl fun b0 bi b5 Z a I=>?_);obtain rfl:=Z;refine kA I fH fun o b8 a w O I=>?_;refine go I fun a w I=>?_;obtain⟨m,W,B⟩:=bd B;refine kc I rM (bR _ _ I.dlt j c _ I.g1 _ W) fun _ w C a O U=>?_;obtain⟨u,q,he,Q⟩:=C;obtain rfl:=he.symm;have I:=qs U Q;refine kA I eJ fun b1 b9 a w O I=>?_;refine go I fun a w I=>?_;obtain⟨r2,ak,hMo2⟩:=bd B;refine bF _ (fun s a w=>∃ (l:(List de)) (g:Int) (N:Value) (D:LV),(l,g)=s/\St L No T 44 [(0,n),(1,f),(5,N),(7,pt o 0),(12,f),(13,aj (b.length:Int)),(14,aj e),(25,u),(26,aj (m.1.k.length:Int)),(27,aj g)] [nV N D,aA u q,.box o (aX c) 30] [aL aa n j,aL ad f b,ap ga D l,ap ad q m.1.k] a w) ak ⟨_,_,_,_,rfl,I.mt [3,1,2] [2,3,4,0]⟩ ?_;rintro s a w f2 ⟨l,g,N,D,rfl,I⟩ B hf2;have B:iI b c m l g=some f2:=B;unfold iI at B;refine am I fun a I=>?_;refine aC ?_;rcases cd B with⟨a0,B⟩|⟨a0,B⟩
    ·refine am I fun a I=>?_;refine aM (J:=fun a w=>∃ (H:(List de)) (P:Value) (E:LV),St L No T 44 [(0,n),(1,f),(5,P),(7,pt o 0),(12,f),(13,aj (b.length:Int)),(14,aj e),(25,u),(26,aj (m.1.k.length:Int)),(27,aj g)] [nV P E,aA u q,.box o (aX c) 30] [aL aa n j,aL ad f b,ap ga E H,ap ad q m.1.k] a w/\kV g H=some f2) ?_ ?_
     ·refine am I fun a I=>?_;obtain⟨d,V,B⟩:=bd B;refine wl rfl (dx (R:=ad) I j7 dB rfl rfl 1 rfl 3 rfl V rfl fun b2 bl bs b6 a1 a2 a3 a I=>?_);obtain rfl:=a1;refine qy I (cg (k:=0) I dB 1 rfl a2 a3 rfl id (us:=(aX d)) rfl rfl (fun h=>by cases h)) fun a I=>?_;refine ka I fH fun b3 bb a w O I=>?_;refine go I fun a w I=>?_;obtain⟨bt,X,B⟩:=bd B;refine kF I Kg (qX _ _ I.dlt b d _ I.g1 _ X) fun w a I=>?_;rcases cd B with⟨a4,B⟩|⟨a4,B⟩
      ·refine am I fun a I=>?_;refine qy I (bw (ps:=[(0,.tmp 36),(1,.tmp 37)]) I Q5 IN rfl (us:=[(aX c),(aX d)]) ⟨rfl,⟨rfl,trivial⟩⟩ (ws:=[aj c.v,a8 c.x,aj d.v,a8 d.x]) rfl) fun a I=>?_;refine wl rfl (bf (ps:=[(0,.tmp 38)]) I NP IN (zl:=[aj 0,a8 cp,aj 0,a8 cp]) (by kernel_rfl) rfl (us:=[[aj c.v,a8 c.x,aj d.v,a8 d.x]]) ⟨rfl,trivial⟩ (ws:=[aj c.v,a8 c.x,aj d.v,a8 d.x]) rfl rfl rfl rfl fun b4 a w O I=>?_);replace I:=(I.lit (R:=ga) (us:=[aj c.v,a8 c.x,aj d.v,a8 d.x]) (xs:=[(de.mk c d)]) 0 rfl (by decide) (aP (R:=ga) (x:=(de.mk c d)) rfl) rfl rfl).zf (R:=ga) 0 rfl 0 rfl;obtain⟨a5,B⟩:=aW B;refine wl rfl (bG (R:=ga) (xs:=l) (ys:=[(de.mk c d)]) I NP (by decide) (by decide) rfl rfl 1 rfl 4 rfl 0 rfl a5 rfl fun c1 b7 a w O I=>?_);exact fz
      exact fz
     rintro a w ⟨H,P,E,I,B⟩;unfold kV at B;exact fz
    exact fz
   rintro a w ⟨G,M,A,I,B⟩;unfold n7 at B;exact fz
  exact fz
 rintro a w ⟨F,t,p,I,B⟩;unfold n5 at B;refine am I fun a I=>?_;cases B
 refine aG I rfl (aw I rfl aI) ?_;exact⟨t,p,rfl,I.zo ⟨.inr (aO (i:=0) rfl),trivial⟩ 0 rfl 0 rfl⟩
def rD (b:LK):=some (b)
def iH (b:Int) (c:LK):Option (Fl (LK×Int) (LK)):=some (.go (c,IntKind.i64.wrap (b+1)))
def eO (c:LK) (e:Int) (d:ae) (f:Int) (h:Bool):=cond h ((pU c 0 f).bind fun b=>(pU c f c.length).bind fun g=>gd (bP (([]:List ae).length+b.length)) <| gd (bP ((([]:List ae)++b).length+([d]).length)) <| gd (bP (((([]:List ae)++b)++([d])).length+g.length)) <| iH e (((([]:List ae)++b)++([d]))++g)) (iH e c)
def kS (d:LK) (f:Int) (b:ae) (c:Int):=cond (c==(d.length:Int)) (eO d f b c true) ((bu d c).bind fun e=>eO d f b c (!(e.v==b.v&&e.x.toList==b.x.toList)))
def fW (c:LK) (d:ae) (b:Int):Option (Fl (Int) (Int)):=cond (decide (b<(c.length:Int))) ((bu c b).bind fun e=>(jN e d).bind fun f=>cond (decide (f<0)) (some (.go (IntKind.i64.wrap (b+1)))) (some (.out b))) (some (.out b))
def nW (e c:LK) (b:Int):=cond (decide (b<(e.length:Int))) ((bu e b).bind fun d=>(loop (fun s:Int=>fW c d s) 0).bind fun r=>kS c b d r) (some (.out c))
def ko (b:LK):=(loop (fun s:LK×Int=>nW b s.1 s.2) (([]:List ae),0)).bind fun r=>rD r
theorem wo (hLv:dh T L) (e:LK) (o:Value) (c2:aF ad T L o e) (y:LK) (B:ko e=some y):bg aR No 119 [o] L (fun v w'=>∃ (v2:Value) (rN:bI),v=v2/\gG ad T L w' [aA v2 rN] 30 v2 rN y):=by
 refine en Tryz.func119 Tryz.ntmps119 hT fun a I=>?_;replace I:=(I.fact bH (dh.dn hLv)).fS (aF.dn c2);unfold ko at B;refine am I fun a I=>?_;refine aM (J:=fun a w=>∃ (K:LK) (A:Value) (q:LV),St L No T 53 [(3,A)] [aA A q] [ap ad q K,bH] a w/\rD K=some y) ?_ ?_
 ·refine am I fun a I=>?_;replace I:=I.zn ad 30 (by decide);obtain⟨r1,bt,hMo1⟩:=bd B;refine bF _ (fun s a w=>∃ (d:LK) (c:Int) (g:Value) (f:LV),(d,c)=s/\St L No T 53 [(3,g),(7,o),(8,aj (e.length:Int)),(9,aj c)] [aA g f] [ap ad f d,aL ad o e,bH] a w) bt ⟨_,_,_,_,rfl,I.mt [0] [0,1,2]⟩ ?_;rintro s a w W ⟨d,c,g,f,rfl,I⟩ B hf1;have B:nW e d c=some W:=B;unfold nW at B;refine am I fun a I=>?_;refine aC ?_;rcases cd B with⟨ab,B⟩|⟨ab,B⟩
  ·refine am I fun a I=>?_;refine aM (J:=fun a w=>∃ (M:LK) (N:Value) (D:LV),St L No T 53 [(3,N),(7,o),(8,aj (e.length:Int)),(9,aj c)] [aA N D] [ap ad D M,aL ad o e,bH] a w/\iH c M=some W) ?_ ?_
   ·refine am I fun a I=>?_;obtain⟨b,X,B⟩:=bd B;refine wl rfl (bn (R:=ad) I j7 dB rfl rfl 1 rfl X rfl fun c3 cv c9 af a I=>?_);obtain rfl:=af;refine kA I fH fun m cs a w O I=>?_;refine go I fun a w I=>?_;refine aM (J:=fun a w=>∃ (p:Int),St L No T 53 [(3,g),(5,pt m 0),(6,aj p),(7,o),(8,aj (e.length:Int)),(9,aj c)] [aA g f,.box m (aX b) 30] [ap ad f d,aL ad o e,bH] a w/\kS d c b p=some W) ?_ ?_
    ·refine am I fun a I=>?_;obtain⟨r2,c1,hMo2⟩:=bd B;refine bF _ (fun s a w=>∃ (z:Int),z=s/\St L No T 53 [(3,g),(5,pt m 0),(6,aj z),(7,o),(8,aj (e.length:Int)),(9,aj c)] [aA g f,.box m (aX b) 30] [ap ad f d,aL ad o e,bH] a w) c1 ⟨_,rfl,I.mt [1,0] [1,2,3]⟩ ?_;rintro s a w f2 ⟨z,rfl,I⟩ B hf2;have B:fW d b z=some f2:=B;unfold fW at B;refine aC ?_;refine aC ?_;refine dr [] I fun w hQ I=>?_;refine gE [0,1,2,3,4] I fun a I=>?_;rcases cd B with⟨t,B⟩|⟨t,B⟩
     ·refine gE [5,6] I fun a I=>?_;obtain⟨E,Z,B⟩:=bd B;obtain⟨a3,b7,d0,ca,ag,ak,ao,av⟩:=kL (R:=ad) I j7 dB 0 rfl 0 rfl Z;obtain rfl:=ag;refine dg 7 I t (v:=pt a3 b7) (av rfl rfl) fun a I=>?_;refine dg 8 I t (l:=[]) (v:=.agg (aX E).toArray) (cg (k:=0) I dB 0 rfl ak ao rfl bO (us:=(aX E)) rfl rfl (fun h=>by cases h)) fun a I=>?_;refine gE [9] I fun a I=>?_;obtain⟨d2,a2,B⟩:=bd B;refine cR (i:=10) rfl (by kernel_rfl) I rfl rfl rfl t (bB I Hf rfl rfl (lQ _ _ I.dlt I.g2 E b _ a2) fun _ w C a O U=>⟨fq (O),?_⟩);obtain rfl:=C;have I:=eL U;refine gE [11,12] I fun a I=>?_;refine eD ?_;exact fz
     refine gE [5,6,7,8,9,10,11,12] I fun a I=>?_;refine eD ?_;exact fz
    rintro a w ⟨p,I,B⟩;unfold kS at B;refine aM (J:=fun a w=>∃ (F:Bool),St L No T 53 [(3,g),(5,pt m 0),(6,aj p),(7,o),(8,aj (e.length:Int)),(9,aj c),(39,.bool F)] [aA g f,.box m (aX b) 30] [ap ad f d,aL ad o e,bH] a w/\eO d c b p F=some W) ?_ ?_
    ·refine dr [] I fun w hQ I=>?_;refine gE [0,1,2,3,4] I fun a I=>?_;rcases cd B with⟨u,B⟩|⟨u,B⟩
     ·refine gE [5,6,7,8,9,10,11] I fun a I=>?_;refine eD ?_;exact fin
     refine gE [5,6] I fun a I=>?_;obtain⟨r,Y,B⟩:=bd B;obtain⟨a4,b8,d1,cb,b0,b1,b2,b3⟩:=kL (R:=ad) I j7 dB 0 rfl 0 rfl Y;obtain rfl:=b0;refine dg 7 I u (v:=pt a4 b8) (b3 rfl rfl) fun a I=>?_;refine dg 8 I u (l:=[]) (v:=.agg (aX r).toArray) (cg (k:=0) I dB 0 rfl b1 b2 rfl bO (us:=(aX r)) rfl rfl (fun h=>by cases h)) fun a I=>?_;refine gE [9] I fun a I=>?_;refine dg 10 I u (v:=.bool (!(r.v==b.v&&r.x.toList==b.x.toList))) (BD I rfl rfl) fun a I=>?_;refine gE [11] I fun a I=>?_;refine eD ?_;exact fin
    rintro a w ⟨F,I,B⟩;unfold eO at B;rcases cd B with⟨b4,B⟩|⟨b4,B⟩
    ·refine am I fun a I=>?_;replace I:=I.zn ad 30 (by decide);refine dr [(3,.blk (Value.ownBlock (.slice none 0 0))),(6,.any),(10,.any)] I fun w hQ I=>?_;refine gE [0,1] I fun a I=>?_;obtain⟨n,a0,B⟩:=bd B;obtain⟨b9,P,b5⟩:=wc (R:=ad) I j7 dB 1 rfl 1 rfl a0;refine dq 2 I (v:=b9) (b5 (k1:=.i64) rfl (.inr ⟨rfl,rfl⟩) (.inl ⟨_,rfl,rfl⟩)) fun a I=>?_;refine dq 4 I (l:=[.blk (Value.ownBlock (.slice none 0 0))]) (v:=.agg (aX b).toArray) (dm I rfl dB 2 rfl (gA I 2 rfl rfl 0 rfl rfl (by decide) bO) (us:=(aX b)) rfl rfl (fun h=>by cases h)) fun a I=>?_;refine gE [7,8] I fun a I=>?_;obtain⟨V,a1,B⟩:=bd B;obtain⟨bb,Q,b6⟩:=wc (R:=ad) I j7 dB 1 rfl 1 rfl a1;refine dq 9 I (v:=bb) (b6 (k2:=.i64) rfl (.inl ⟨_,rfl,rfl⟩) (.inr ⟨rfl,rfl⟩)) fun a I=>?_;obtain⟨S,B⟩:=aW B;refine dQ (i:=3) (j:=5) rfl rfl (by kernel_rfl) rfl rfl ?_ ?_
     ·skip;replace I:=I.zf (R:=ad) 1 rfl 1 rfl;replace I:=I.fS (P _ _ I.g0);refine id (bG (R:=ad) (xs:=([]:List ae)) (ys:=n) I iA (by decide) (by decide) rfl rfl 0 rfl 2 rfl 0 rfl S rfl fun d3 ch a w O I=>⟨jf rfl O kO,?_⟩);refine e1 5 (bf (ps:=[(0,.tmp 44)]) I iA fH (zl:=[aj 0,a8 cp]) (by kernel_rfl) rfl (us:=[(aX b)]) ⟨rfl,trivial⟩ (ws:=(aX b)) rfl rfl rfl rfl fun c4 a w O I=>⟨fq (O),?_⟩);replace I:=(I.lit (R:=ad) (us:=(aX b)) (xs:=[b]) 0 rfl (by decide) (aP (R:=ad) (x:=b) rfl) rfl rfl).zf (R:=ad) 0 rfl 0 rfl;obtain⟨G,B⟩:=aW B;refine e1 6 (bG (R:=ad) (xs:=(([]:List ae)++n)) (ys:=[b]) I iA (by decide) (by decide) rfl rfl 0 rfl 2 rfl 0 rfl G rfl fun bi a5 a w O I=>⟨jf rfl O qS,?_⟩);replace I:=I.fS (Q _ _ I.g5);obtain⟨H,B⟩:=aW B;refine e1 10 (bG (R:=ad) (xs:=((([]:List ae)++n)++([b]))) (ys:=V) I iA (by decide) (by decide) rfl rfl 0 rfl 1 rfl 0 rfl H rfl fun bl a9 a w O I=>⟨jf rfl O qS,?_⟩);refine gE [11] I fun a I=>?_;refine eD ?_;exact fin
     skip;refine id (bf (ps:=[(0,.tmp 44)]) I iA fH (zl:=[aj 0,a8 cp]) (by kernel_rfl) rfl (us:=[(aX b)]) ⟨rfl,trivial⟩ (ws:=(aX b)) rfl rfl rfl rfl fun c5 a w O I=>⟨fq (O),?_⟩);replace I:=I.zf (R:=ad) 2 rfl 1 rfl;replace I:=I.fS (P _ _ I.g0);refine e1 3 (bG (R:=ad) (xs:=([]:List ae)) (ys:=n) I iA (by decide) (by decide) rfl rfl 1 rfl 2 rfl 0 rfl S rfl fun d4 ck a w O I=>⟨jf rfl O kO,?_⟩);replace I:=(I.lit (R:=ad) (us:=(aX b)) (xs:=[b]) 0 rfl (by decide) (aP (R:=ad) (x:=b) rfl) rfl rfl).zf (R:=ad) 0 rfl 0 rfl;obtain⟨G,B⟩:=aW B;refine e1 6 (bG (R:=ad) (xs:=(([]:List ae)++n)) (ys:=[b]) I iA (by decide) (by decide) rfl rfl 0 rfl 2 rfl 0 rfl G rfl fun bi a5 a w O I=>⟨jf rfl O qS,?_⟩);replace I:=I.fS (Q _ _ I.g5);obtain⟨H,B⟩:=aW B;refine e1 10 (bG (R:=ad) (xs:=((([]:List ae)++n)++([b]))) (ys:=V) I iA (by decide) (by decide) rfl rfl 0 rfl 1 rfl 0 rfl H rfl fun bl a9 a w O I=>⟨jf rfl O qS,?_⟩);refine gE [11] I fun a I=>?_;refine eD ?_;exact fin
    exact fz
   rintro a w ⟨M,N,D,I,B⟩;unfold iH at B;exact fz
  exact fz
 rintro a w ⟨K,A,q,I,B⟩;unfold rD at B;refine am I fun a I=>?_;cases B
 refine aG I rfl (aw I rfl aI) ?_;exact⟨A,q,rfl,I.zo ⟨.inr (aO (i:=0) rfl),trivial⟩ 0 rfl 0 rfl⟩
def jo (b:Bool):=some (b)
def qj (f:LR) (b:Int) (d:ae):=(cm f d).bind fun c=>cond c.2 ((cO d).bind fun e=>cond e (cond (decide (c.1.t<b)) (jo (!(c.1.w))) (jo false)) (jo false)) (jo false)
theorem y9 (g:LR) (b:Int) (d:ae) (k:Value) (j:aF aa T L k g) (y:Bool) (B:qj g b d=some y):bg aR No 246 [k,aj b,.agg (aX d).toArray] L (fun v w'=>v = .bool y):=by
 refine en Tryz.func246 Tryz.ntmps246 hT fun a I=>?_;replace I:=I.fS (aF.dn j);unfold qj at B;refine kB I fun l o a w O I=>?_;refine am I fun a I=>?_;obtain⟨q,h,B⟩:=bd B;refine kc I rM (bR _ _ I.dlt g d _ I.g0 _ h) fun _ w C a O U=>?_;obtain⟨s,n,he,f⟩:=C;obtain rfl:=he.symm;have I:=qs U f;refine kA I eJ fun m p a w O I=>?_;refine go I fun a w I=>?_;refine aM (J:=fun a w=>∃ (c:Bool),St L No T 31 [(6,.bool c)] [] [] a w/\jo c=some y) ?_ ?_
 ·refine am I fun a I=>?_;rcases cd B with⟨e,B⟩|⟨e,B⟩
  ·refine am I fun a I=>?_;obtain⟨r,i,B⟩:=bd B;refine wg I rfl rfl rfl e (bB I uf rfl rfl (cY _ _ I.dlt d _ i) fun _ w C a O U=>?_);obtain rfl:=C;have I:=eL U;exact fz
  exact fz
 rintro a w ⟨c,I,B⟩;unfold jo at B;exact fz
def pv (b:LO):=some (b)
def l8 (b:Int) (d:LO) (c:LK):Option (Fl (LO×LK×Int) (LO)):=some (.go (d,c,IntKind.i64.wrap (b+1)))
def l9 (b:Int) (d:LO) (c:LK):Option (Fl (LO×LK×Int) (LO×LK)):=some (.go (d,c,IntKind.i64.wrap (b+1)))
def ma (e:LO) (c:LK) (d:Int) (b:ae) (f:Bool):=cond f (gd (bP (c.length+([b]).length)) <| l9 d (dS aK b true e) (c++([b]))) (l9 d e c)
def fF (j:LR) (e:Int) (g:(au×Bool)) (d:LO) (f:LK) (c:Int):=cond (decide (c<(g.1.k.length:Int))) ((bu g.1.k c).bind fun b=>(qj j e b).bind fun h=>cond h ((some ((cF aK b d).getD false)).bind fun i=>ma d f c b (!(i))) (ma d f c b false)) (some (.out (d,f)))
def ig (f:LR) (b:Int) (e:LO) (d:LK) (c:Int):=cond (decide (c<(d.length:Int))) ((bu d c).bind fun g=>(cm f g).bind fun h=>(loop (fun s:LO×LK×Int=>fF f b h s.1 s.2.1 s.2.2) (e,d,0)).bind fun r=>l8 c r.1 r.2) (some (.out e))
def oO (d:LR) (b:Int) (c:ae):=(loop (fun s:LO×LK×Int=>ig d b s.1 s.2.1 s.2.2) (([]:LO),[c],0)).bind fun r=>pv r
theorem xz (l:LR) (b:Int) (u:ae) (q:Value) (ch:aF aa T L q l) (y:LO) (B:oO l b u=some y):bg aR No 247 [q,aj b,.agg (aX u).toArray] L (fun v w'=>∃ (b2:Nat) (b4:Array MapEntry) (b3:Nat),v = .map (some b2)/\N8 ad true a6.bool false T L w' [om b2 b4 b3] b2 b4 b3 y):=by
 refine en Tryz.func247 Tryz.ntmps247 hT fun a I=>?_;replace I:=I.fS (aF.dn ch);unfold oO at B;refine kB I fun ck d9 a w O I=>?_;refine am I fun a I=>?_;refine wl rfl (qu ad true a6.bool false I rfl fun e dc a w O I=>?_);refine am I fun a I=>?_;refine wl rfl (bf (ps:=[(0,.tmp 15)]) I iA fH (zl:=[aj 0,a8 cp]) (by kernel_rfl) rfl (us:=[(aX u)]) ⟨rfl,trivial⟩ (ws:=(aX u)) rfl rfl rfl rfl fun cl a w O I=>?_);refine am I fun a I=>?_;refine aM (J:=fun a w=>∃ (X:LO) (A:AM) (F:Nat),St L No T 57 [(7,.map (some e))] [om e A F] [uw A X] a w/\pv X=some y) ?_ ?_
 ·refine am I fun a I=>?_;replace I:=I.lit (R:=ad) (us:=(aX u)) (xs:=[u]) 0 rfl (by decide) (aP (R:=ad) (x:=u) rfl) rfl rfl;obtain⟨r1,ca,hMo1⟩:=bd B;refine bF _ (fun s a w=>∃ (E:LO) (D:LK) (f:Int) (N:AM) (a4:Nat) (a0:Value) (G:LV),(E,D,f)=s/\St L No T 57 [(0,q),(1,aj b),(7,.map (some e)),(8,a0),(9,aj f)] [om e N a4,aA a0 G] [aL aa q l,uw N E,ap ad G D] a w) ca ⟨_,_,_,_,_,_,_,rfl,I.mt [1,0] [2,1,0]⟩ ?_;rintro s a w f1 ⟨E,D,f,N,a4,a0,G,rfl,I⟩ B hf1;have B:ig l b E D f=some f1:=B;unfold ig at B;refine aC ?_;refine am I fun a I=>?_;rcases cd B with⟨b8,B⟩|⟨b8,B⟩
  ·refine am I fun a I=>?_;refine aM (J:=fun a w=>∃ (Y:LO) (V:LK) (P:AM) (a5:Nat) (a1:Value) (H:LV),St L No T 57 [(0,q),(1,aj b),(7,.map (some e)),(8,a1),(9,aj f)] [om e P a5,aA a1 H] [aL aa q l,uw P Y,ap ad H V] a w/\l8 f Y V=some f1) ?_ ?_
   ·refine am I fun a I=>?_;obtain⟨ab,ao,B⟩:=bd B;refine wl rfl (dx (R:=ad) I j7 dB rfl rfl 1 rfl 2 rfl ao rfl fun cs ds e2 d3 b9 bb bi a I=>?_);obtain rfl:=b9;refine qy I (cg (k:=0) I dB 1 rfl bb bi rfl id (us:=(aX ab)) rfl rfl (fun h=>by cases h)) fun a I=>?_;obtain⟨n,av,B⟩:=bd B;refine kc I rM (bR _ _ I.dlt l ab _ I.g0 _ av) fun _ w C a O U=>?_;obtain⟨p,o,he,ag⟩:=C;obtain rfl:=he.symm;have I:=qs U ag;refine kA I eJ fun d0 dk a w O I=>?_;refine go I fun a w I=>?_;obtain⟨r2,cb,hMo2⟩:=bd B;refine bF _ (fun s a w=>∃ (m:LO) (j:LK) (g:Int) (t:AM) (K:Nat) (z:Value) (r:LV),(m,j,g)=s/\St L No T 57 [(0,q),(1,aj b),(7,.map (some e)),(8,z),(9,aj f),(33,p),(34,aj (n.1.k.length:Int)),(35,aj g)] [om e t K,aA z r,aA p o] [aL aa q l,uw t m,ap ad r j,ap ad o n.1.k] a w) cb ⟨_,_,_,_,_,_,_,rfl,I.mt [2,3,1] [1,2,3,0]⟩ ?_;rintro s a w f2 ⟨m,j,g,t,K,z,r,rfl,I⟩ B hf2;have B:fF l b n m j g=some f2:=B;unfold fF at B;refine am I fun a I=>?_;refine aC ?_;rcases cd B with⟨bl,B⟩|⟨bl,B⟩
    ·refine am I fun a I=>?_;refine aM (J:=fun a w=>∃ (Z:LO) (W:LK) (Q:AM) (a9:Nat) (a2:Value) (M:LV),St L No T 57 [(0,q),(1,aj b),(7,.map (some e)),(8,a2),(9,aj f),(33,p),(34,aj (n.1.k.length:Int)),(35,aj g)] [om e Q a9,aA a2 M,aA p o] [aL aa q l,uw Q Z,ap ad M W,ap ad o n.1.k] a w/\l9 g Z W=some f2) ?_ ?_
     ·refine am I fun a I=>?_;obtain⟨d,ak,B⟩:=bd B;refine wl rfl (dx (R:=ad) I j7 dB rfl rfl 2 rfl 3 rfl ak rfl fun d1 e0 e3 d4 bs bt c1 a I=>?_);obtain rfl:=bs;refine qy I (cg (k:=0) I dB 2 rfl bt c1 rfl id (us:=(aX d)) rfl rfl (fun h=>by cases h)) fun a I=>?_;refine ka I fH fun a3 dl a w O I=>?_;refine go I fun a w I=>?_;refine aM (J:=fun a w=>∃ (S:Bool),St L No T 57 [(0,q),(1,aj b),(7,.map (some e)),(8,z),(9,aj f),(13,pt a3 0),(33,p),(34,aj (n.1.k.length:Int)),(35,aj g),(48,.bool S)] [om e t K,aA z r,aA p o,.box a3 (aX d) 30] [aL aa q l,uw t m,ap ad r j,ap ad o n.1.k] a w/\ma m j g d S=some f2) ?_ ?_
      ·refine am I fun a I=>?_;obtain⟨e4,b0,B⟩:=bd B;refine kF I NL (y9 _ _ I.dlt l b d _ I.g0 _ b0) fun w a I=>?_;rcases cd B with⟨af,B⟩|⟨af,B⟩
       ·refine am I fun a I=>?_;obtain⟨c9,b1,B⟩:=bd B;obtain⟨d5,c2,c3⟩:=jr I ur c6 1 rfl 1 rfl (c:=(aX d)) (key:=d) rfl O1 (zc:=[.bool false]) rfl rfl b1;obtain rfl:=c2;refine wg I rfl rfl rfl af (ky (v:=.bool c9) I (c3 rfl rfl id) rfl rfl fun a I=>?_);exact fz
       exact fz
      rintro a w ⟨S,I,B⟩;unfold ma at B;rcases cd B with⟨c4,B⟩|⟨c4,B⟩
      ·refine am I fun a I=>?_;refine wl rfl (sN I ur c6 0 rfl 1 rfl (c:=(aX d)) (cv:=[.bool true]) (key:=d) (val:=true) rfl rfl rfl rfl rfl fun d8 d6 w O I=>?_);refine am I fun a I=>?_;refine wl rfl (bf (ps:=[(0,.tmp 52)]) I iA fH (zl:=[aj 0,a8 cp]) (by kernel_rfl) rfl (us:=[(aX d)]) ⟨rfl,trivial⟩ (ws:=(aX d)) rfl rfl rfl rfl fun d2 a w O I=>?_);replace I:=(I.lit (R:=ad) (us:=(aX d)) (xs:=[d]) 0 rfl (by decide) (aP (R:=ad) (x:=d) rfl) rfl rfl).zf (R:=ad) 0 rfl 0 rfl;obtain⟨c5,B⟩:=aW B;refine wl rfl (bG (R:=ad) (xs:=j) (ys:=[d]) I iA (by decide) (by decide) rfl rfl 1 rfl 5 rfl 0 rfl c5 rfl fun e5 d7 a w O I=>?_);exact fz
      exact fz
     rintro a w ⟨Z,W,Q,a9,a2,M,I,B⟩;unfold l9 at B;exact fz
    refine am I fun a I=>?_;cases B
    have hr:=hf2 _ rfl;subst hr;have B:l8 f m j=some f1:=hMo2;exact fin
   rintro a w ⟨Y,V,P,a5,a1,H,I,B⟩;unfold l8 at B;exact fz
  exact fz
 rintro a w ⟨X,A,F,I,B⟩;unfold pv at B;refine am I fun a I=>?_;cases B
 refine aG I rfl (aw I rfl aI) ?_;exact⟨e,A,F,rfl,I.retMap ⟨.inr (aO (i:=0) rfl),trivial⟩ 0 rfl 0 rfl⟩
def tB (b:LK):=(ko b).bind fun c=>some (c)
def rf (b:Int) (c:LK):Option (Fl (LK×Int) (LK)):=some (.go (c,IntKind.i64.wrap (b+1)))
def oM (b:LK) (e:Int) (c:au) (f:Bool):=cond f (gd (bP (b.length+([c.d]).length)) <| rf e (b++([c.d]))) (rf e b)
def oN (h:LR) (f:Int) (g:ae) (i:LO) (e:LK) (c:Int):=cond (decide (c<(h.length:Int))) ((bu h c).bind fun b=>cond (!(b.d.v==g.v&&b.d.x.toList==g.x.toList)) ((some ((cF aK b.d i).getD false)).bind fun j=>cond j ((oO h f b.d).bind fun k=>(some ((cF aK g k).getD false)).bind fun l=>oM e c b l) (oM e c b false)) (oM e c b false)) (some (.out e))
def nG (d:LR) (b:Int) (c:ae):=(qj d b c).bind fun f=>cond (!(f)) (some ([c])) ((oO d b c).bind fun e=>(loop (fun s:LK×Int=>oN d b c e s.1 s.2) ([c],0)).bind fun r=>tB r)
theorem vr (hLv:dh T L) (g:LR) (b:Int) (e:ae) (q:Value) (c3:aF aa T L q g) (y:LK) (B:nG g b e=some y):bg aR No 210 [q,aj b,.agg (aX e).toArray] L (fun v w'=>∃ (v2:Value) (rN:bI),v=v2/\gG ad T L w' [aA v2 rN] 30 v2 rN y):=by
 refine en Tryz.func210 Tryz.ntmps210 hT fun a I=>?_;replace I:=(I.fact bH (dh.dn hLv)).fS (aF.dn c3);unfold nG at B;refine kB I fun o cl a w O I=>?_;refine am I fun a I=>?_;refine aC ?_;refine am I fun a I=>?_;obtain⟨d2,ak,B⟩:=bd B;refine kF I NL (y9 _ _ I.dlt g b e _ I.g0 _ ak) fun w a I=>?_;rcases cd B with⟨b4,B⟩|⟨b4,B⟩
 ·refine am I fun a I=>?_;refine wl rfl (bf (ps:=[(0,.tmp 16)]) I iA fH (zl:=[aj 0,a8 cp]) (by kernel_rfl) rfl (us:=[(aX e)]) ⟨rfl,trivial⟩ (ws:=(aX e)) rfl rfl rfl rfl fun av a w O I=>?_);refine am I fun a I=>?_;replace I:=I.lit (R:=ad) (us:=(aX e)) (xs:=[e]) 0 rfl (by decide) (aP (R:=ad) (x:=e) rfl) rfl rfl;cases B
  refine aG I rfl (aw I rfl aI) ?_;exact⟨(.slice (some ⟨av,0,none⟩) 1 1),(aX e),rfl,I.zo ⟨.inr (aO (i:=0) rfl),trivial⟩ 0 rfl 0 rfl⟩
 refine am I fun a I=>?_;refine wl rfl (bf (ps:=[(0,.tmp 18)]) I iA fH (zl:=[aj 0,a8 cp]) (by kernel_rfl) rfl (us:=[(aX e)]) ⟨rfl,trivial⟩ (ws:=(aX e)) rfl rfl rfl rfl fun c4 a w O I=>?_);refine am I fun a I=>?_;obtain⟨z,a9,B⟩:=bd B;refine kc I NM (xz _ _ I.dlt g b e _ I.g0 _ a9) fun _ w C a O U=>?_;obtain⟨j,m,t,he,⟨W,Q,Z⟩⟩:=C;obtain rfl:=he.symm;have I:=U [om j m t] (gc W (yU Q)) (wX _);replace I:=I.fM (Z.keep (al _ _) (eY _));refine am I fun a I=>?_;refine aM (J:=fun a w=>∃ (u:LK) (H:Value) (A:LV),St L No T 57 [(7,H)] [aA H A] [ap ad A u,bH] a w/\tB u=some y) ?_ ?_
 ·refine am I fun a I=>?_;replace I:=I.lit (R:=ad) (us:=(aX e)) (xs:=[e]) 1 rfl (by decide) (aP (R:=ad) (x:=e) rfl) rfl rfl;obtain⟨r1,c2,hMo1⟩:=bd B;refine bF _ (fun s a w=>∃ (n:LK) (h:Int) (r:Value) (p:LV),(n,h)=s/\St L No T 57 [(0,q),(1,aj b),(5,pt o 0),(7,r),(8,.map (some j)),(24,q),(25,aj (g.length:Int)),(26,aj h)] [aA r p,om j m t,.box o (aX e) 30] [aL aa q g,ap ad p n,uw m z,bH] a w) c2 ⟨_,_,_,_,rfl,I.mt [1,0,2] [2,0,1,3]⟩ ?_;rintro s a w f1 ⟨n,h,r,p,rfl,I⟩ B hf1;have B:oN g b e z n h=some f1:=B;unfold oN at B;refine am I fun a I=>?_;refine aC ?_;rcases cd B with⟨b5,B⟩|⟨b5,B⟩
  ·refine am I fun a I=>?_;refine aM (J:=fun a w=>∃ (G:LK) (K:Value) (D:LV),St L No T 57 [(0,q),(1,aj b),(5,pt o 0),(7,K),(8,.map (some j)),(24,q),(25,aj (g.length:Int)),(26,aj h)] [aA K D,om j m t,.box o (aX e) 30] [aL aa q g,ap ad D G,uw m z,bH] a w/\rf h G=some f1) ?_ ?_
   ·refine am I fun a I=>?_;obtain⟨f,a4,B⟩:=bd B;refine wl rfl (bn (R:=aa) I mV j6 rfl rfl 0 rfl a4 rfl fun c5 cv ca b6 a I=>?_);obtain⟨a2,rfl,ao⟩:=b6;replace I:=I.fS ao;refine kA I eJ fun M cs a w O I=>?_;refine go I fun a w I=>?_;refine aM (J:=fun a w=>∃ (E:Bool),St L No T 57 [(0,q),(1,aj b),(5,pt o 0),(7,r),(8,.map (some j)),(10,pt M 0),(24,q),(25,aj (g.length:Int)),(26,aj h),(48,.bool E)] [aA r p,om j m t,.box o (aX e) 30,.box M (bh f a2) 33] [aL aa q g,ap ad p n,uw m z,aL ad a2 f.k,bH] a w/\oM n h f E=some f1) ?_ ?_
    ·refine dr [] I fun w hQ I=>?_;refine gE [0,1,2] I fun a I=>?_;refine dq 3 I (v:=.bool (!(f.d.v==e.v&&f.d.x.toList==e.x.toList))) (BD I rfl rfl) fun a I=>?_;refine gE [4] I fun a I=>?_;rcases cd B with⟨P,B⟩|⟨P,B⟩
     ·refine gE [5,6,7] I fun a I=>?_;obtain⟨bs,ab,B⟩:=bd B;obtain⟨cb,b7,b8⟩:=jr I ur c6 2 rfl 4 rfl (c:=(aX f.d)) (key:=f.d) rfl O1 (zc:=[.bool false]) rfl rfl ab;obtain rfl:=b7;refine dg 8 I P (l:=[]) (v:=.bool bs) (b8 rfl rfl bO) fun a I=>?_;refine gE [9,10] I fun a I=>?_;rcases cd B with⟨F,B⟩|⟨F,B⟩
      ·refine gE [11,12,13,14,16] I fun a I=>?_;obtain⟨d1,af,B⟩:=bd B;refine cR (i:=15) rfl (by kernel_rfl) I rfl rfl rfl F (bB I NM rfl rfl (xz _ _ I.dlt g b f.d _ I.g2 _ af) fun _ w C a O U=>⟨fq (O),?_⟩);obtain⟨b0,b2,b1,he,⟨X,S,a0⟩⟩:=C;obtain rfl:=he.symm;have I:=U [om b0 b2 b1] (gc X (yU S)) (wX _);replace I:=I.fM (a0.keep (al _ _) (eY _));obtain⟨bt,ag,B⟩:=bd B;obtain⟨ch,b9,bb⟩:=jr I ur c6 0 rfl 0 rfl (c:=(aX e)) (key:=e) rfl O1 (zc:=[.bool false]) rfl rfl ag;obtain rfl:=b9;refine dg 17 I F (l:=[]) (v:=.bool bt) (bb rfl rfl bO) fun a I=>?_;refine gE [18] I fun a I=>?_;refine eD ?_;exact fin
      refine gE [11,12,13,14,15,16,17,18] I fun a I=>?_;refine eD ?_;exact fin
     refine gE [5,6,7,8,9,10,11,12,13,14,15,16,17,18] I fun a I=>?_;refine eD ?_;exact fin
    rintro a w ⟨E,I,B⟩;unfold oM at B;rcases cd B with⟨bi,B⟩|⟨bi,B⟩
    ·refine am I fun a I=>?_;refine wl rfl (bf (ps:=[(0,.tmp 51)]) I iA fH (zl:=[aj 0,a8 cp]) (by kernel_rfl) rfl (us:=[(aX f.d)]) ⟨rfl,trivial⟩ (ws:=(aX f.d)) rfl rfl rfl rfl fun c9 a w O I=>?_);replace I:=(I.lit (R:=ad) (us:=(aX f.d)) (xs:=[f.d]) 0 rfl (by decide) (aP (R:=ad) (x:=f.d) rfl) rfl rfl).zf (R:=ad) 0 rfl 0 rfl;obtain⟨bl,B⟩:=aW B;refine wl rfl (bG (R:=ad) (xs:=n) (ys:=[f.d]) I iA (by decide) (by decide) rfl rfl 0 rfl 3 rfl 0 rfl bl rfl fun d3 ck a w O I=>?_);exact fz
    exact fz
   rintro a w ⟨G,K,D,I,B⟩;unfold rf at B;exact fz
  exact fz
 rintro a w ⟨u,H,A,I,B⟩;unfold tB at B;refine am I fun a I=>?_;have hL:=I;replace hL:=hL.zf (R:=ad) 0 rfl 0 rfl;obtain⟨d0,a5,B⟩:=bd B;refine kc I Nk (wo _ _ hL.dlt hL.g2 u _ hL.g0 _ a5) fun _ w C a O U=>?_;obtain⟨a3,N,he,⟨Y,V,a1⟩⟩:=C;obtain rfl:=he.symm;have I:=U [aA a3 N] (gc ⟨Y,by decide⟩ V) (wX _);replace I:=I.fR a1;refine am I fun a I=>?_;cases B
 refine aG I rfl (aw I rfl aI) ?_;exact⟨a3,N,rfl,I.zo ⟨.inr (aO (i:=0) rfl),trivial⟩ 0 rfl 0 rfl⟩
end
end
section
set_option maxRecDepth 100000
set_option maxHeartbeats 4000000
variable (T:Nat->Prop) (L:World) (hT:TW T L)
include hT
noncomputable section
def lM (b:LN):=some (decide ((b.length:Int)<=400))
theorem yS (b:LN) (d:Value) (c:aF (a6.int .i64) T L d b) (y:Bool) (B:lM b=some y):bg aR No 9 [d] L (fun v w'=>v = .bool y):=by
 refine en Tryz.func9 Tryz.ntmps9 hT fun a I=>?_;replace I:=I.fS (aF.dn c);unfold lM at B;exact fz
def zI:Option Int:=some (0)
def ug (c:LN) (b:Int):Option (Fl (Int) (Fl (Unit) Int)):=cond (decide (b<(c.length:Int))) ((bu c b).bind fun d=>cond (d != 0) (some (.out (.out d))) (some (.go (IntKind.i64.wrap (b+1))))) (some (.out (.go ())))
def Bs (b:LN):=(loop (fun s:Int=>ug b s) 0).bind fun r=>Fl.el r (fun s=>zI) (fun y=>some (y))
theorem Kj (b:LN) (e:Value) (i:aF (a6.int .i64) T L e b) (y:Int) (B:Bs b=some y):bg aR No 178 [e] L (fun v w'=>v=aj y):=by
 refine en Tryz.func178 Tryz.ntmps178 hT fun a I=>?_;replace I:=I.fS (aF.dn i);unfold Bs at B;refine am I fun a I=>?_;refine aM (J:=fun a w=>St L No T 18 [(3,aj 0)] [] [] a w/\zI=some y) ?_ ?_
 ·refine am I fun a I=>?_;obtain⟨o,h,hMo1⟩:=bd B;refine bF _ (fun s a w=>∃ (c:Int),c=s/\St L No T 18 [(3,aj 0),(6,e),(7,aj (b.length:Int)),(8,aj c)] [] [aL (a6.int .i64) e b] a w) h ⟨_,rfl,I.mt [] [0]⟩ ?_;rintro s a w m ⟨c,rfl,I⟩ B hf1;have B:ug b c=some m:=B;unfold ug at B;refine am I fun a I=>?_;refine aC ?_;rcases cd B with⟨f,B⟩|⟨f,B⟩
  ·refine am I fun a I=>?_;refine aC ?_;refine am I fun a I=>?_;obtain⟨l,d,B⟩:=bd B;refine wl rfl (bn (R:=(a6.int .i64)) I Jx EY rfl rfl 0 rfl d rfl fun j n k g a I=>?_);obtain rfl:=g;exact fz
  exact fz
 rintro a w ⟨I,B⟩;unfold zI at B;exact fz
def nn (b:Int):=some (b != b)
theorem vL (b:Int) (y:Bool) (B:nn b=some y):bg aR No 221 [aj b] L (fun v w'=>v = .bool y):=by
 refine en Tryz.func221 Tryz.ntmps221 hT fun a I=>?_;unfold nn at B;exact fz
def qQ (c d:Int):=(nn c).bind fun e=>(nn d).bind fun b=>cond e (cond b (some (0)) (some ((-1)))) (cond b (some (1)) (cond (decide (c<d)) (some ((-1))) (cond (decide (d<c)) (some (1)) (some (0)))))
theorem CT (b c y:Int) (B:qQ b c=some y):bg aR No 179 [aj b,aj c] L (fun v w'=>v=aj y):=by
 refine en Tryz.func179 Tryz.ntmps179 hT fun a I=>?_;unfold qQ at B;refine am I fun a I=>?_;obtain⟨i,d,B⟩:=bd B;refine kF I NI (vL _ _ I.dlt b _ d) fun w a I=>?_;obtain⟨j,e,B⟩:=bd B;refine kF I NI (vL _ _ I.dlt c _ e) fun w a I=>?_;refine aC ?_;refine am I fun a I=>?_;rcases cd B with⟨f,B⟩|⟨f,B⟩
 ·refine am I fun a I=>?_;refine aC ?_;exact fz
 refine am I fun a I=>?_;refine aC ?_;refine am I fun a I=>?_;rcases cd B with⟨g,B⟩|⟨g,B⟩
 ·exact fz
 refine am I fun a I=>?_;refine aC ?_;refine am I fun a I=>?_;rcases cd B with⟨h,B⟩|⟨h,B⟩
 ·exact fz
 refine am I fun a I=>?_;refine aC ?_;exact fz
def ve (b c:ae):=(qQ b.v c.v).bind fun d=>(r8 b.x c.x).bind fun e=>(Bs ([d,e])).bind fun f=>some (f)
theorem zR (hLv:dh T L) (d e:ae) (y:Int) (B:ve d e=some y):bg aR No 124 [.agg (aX d).toArray,.agg (aX e).toArray] L (fun v w'=>v=aj y):=by
 refine en Tryz.func124 Tryz.ntmps124 hT fun a I=>?_;replace I:=I.fact bH (dh.dn hLv);unfold ve at B;refine kB I fun i l a w O I=>?_;refine kb I fun j m a w O I=>?_;refine am I fun a I=>?_;refine aC ?_;refine dr [] I fun w hQ I=>?_;refine gE [0,1,2,3,5,6,7,8] I fun a I=>?_;obtain⟨b,f,B⟩:=bd B;refine ec 4 I Qa (CT _ _ I.dlt d.v e.v _ f) fun _ w C a O U=>?_;obtain rfl:=C;have I:=eL U;obtain⟨c,g,B⟩:=bd B;refine ec 9 I Fr (qR _ _ I.dlt I.g0 d.x e.x _ g) fun _ w C a O U=>?_;obtain rfl:=C;have I:=eL U;refine e1 10 (bf (ps:=[(0,.tmp 9),(1,.tmp 14)]) I Ms Ry (zl:=[aj 0,aj 0]) (by kernel_rfl) rfl (us:=[[aj b],[aj c]]) ⟨rfl,⟨rfl,trivial⟩⟩ (ws:=[aj b,aj c]) rfl rfl rfl rfl fun k a w O I=>⟨fq (O),?_⟩);replace I:=I.lit (R:=(a6.int .i64)) (us:=[aj b,aj c]) (xs:=[b,c]) 0 rfl (by decide) ((aP (R:=(a6.int .i64)) (x:=b) rfl).append (aP (R:=(a6.int .i64)) (x:=c) rfl)) rfl rfl;have hL:=I;replace hL:=hL.zf (R:=(a6.int .i64)) 0 rfl 0 rfl;obtain⟨n,h,B⟩:=bd B;refine ec 11 I P9 (Kj _ _ hL.dlt ([b,c]) _ hL.g0 _ h) fun _ w C a O U=>?_;obtain rfl:=C;have I:=eL U;refine gE [12] I fun a I=>?_;refine eD ?_;exact fz
def vf (b:Bool):=some (b)
def qw (b:Int):=cond (decide ((30:Int)<=b)) (vf (decide (b<=32))) (vf false)
theorem DC (c:Int) (y:Bool) (B:qw c=some y):bg aR No 196 [aj c] L (fun v w'=>v = .bool y):=by
 refine en Tryz.func196 Tryz.ntmps196 hT fun a I=>?_;unfold qw at B;refine am I fun a I=>?_;refine aM (J:=fun a w=>∃ (b:Bool),St L No T 9 [(2,.bool b)] [] [] a w/\vf b=some y) ?_ ?_
 ·exact fz
 rintro a w ⟨b,I,B⟩;unfold vf at B;exact fz
def kj (c:ae):=(qw c.v).bind fun d=>cond (!(d)) (some ((-1))) ((Bm c.x).bind fun b=>cond b.2 (some ((-1))) (cond (decide (b.1<0)) (some ((-1))) (cond (decide ((99:Int)<b.1)) (some ((-1))) ((yJ b.1).bind fun e=>cond (!(e.toList==c.x.toList)) (some ((-1))) (some (b.1))))))
theorem yM (hLv:dh T L) (b:ae) (y:Int) (B:kj b=some y):bg aR No 160 [.agg (aX b).toArray] L (fun v w'=>v=aj y):=by
 refine en Tryz.func160 Tryz.ntmps160 hT fun a I=>?_;replace I:=I.fact bH (dh.dn hLv);unfold kj at B;refine kB I fun m n a w O I=>?_;refine am I fun a I=>?_;refine aC ?_;refine am I fun a I=>?_;obtain⟨o,f,B⟩:=bd B;refine kF I NA (DC _ _ I.dlt b.v _ f) fun w a I=>?_;rcases cd B with⟨j,B⟩|⟨j,B⟩
 ·exact fz
 refine am I fun a I=>?_;obtain⟨e,g,B⟩:=bd B;refine kc I Qj (Mb _ _ I.dlt I.g0 b.x _ g) fun _ w C a O U=>?_;obtain⟨q,he,d⟩:=C;obtain rfl:=he.symm;have I:=U [] (fun r hr=>by cases hr) pY;refine am I fun a I=>?_;refine aC ?_;refine aC ?_;refine dr [] I fun w hQ I=>?_;refine gE [0] I fun a I=>?_;refine dq 1 I (v:=.bool e.2) (MY I rfl d QS) fun a I=>?_;refine gE [2] I fun a I=>?_;rcases cd B with⟨k,B⟩|⟨k,B⟩
 ·refine gE [3,4,5,6,7,8,9,10,11,12,13,14,15,16] I fun a I=>?_;refine eD ?_;exact fz
 refine gE [3,4,5,6] I fun a I=>?_;rcases cd B with⟨l,B⟩|⟨l,B⟩
 ·refine gE [7,8,9,10,11,12,13,14,15,16] I fun a I=>?_;refine eD ?_;exact fz
 refine gE [7,8,9,10] I fun a I=>?_;rcases cd B with⟨c,B⟩|⟨c,B⟩
 ·refine gE [11,12,13,14,15,16] I fun a I=>?_;refine eD ?_;exact fz
 refine gE [11,13,14] I fun a I=>?_;obtain⟨p,h,B⟩:=bd B;refine cR (i:=12) rfl (by kernel_rfl) I rfl rfl rfl c (bB I Fq rfl rfl (yK _ _ I.dlt I.g0 e.1 _ h) fun _ w C a O U=>⟨fq (O),?_⟩);obtain rfl:=C;have I:=eL U;refine gE [15,16] I fun a I=>?_;refine eD ?_;exact fz
def kQ (b:Bool):=some (b)
def o9 (b:Int):=cond (decide ((1:Int)<=b)) (kQ (decide (b<=22))) (kQ false)
theorem wi (c:Int) (y:Bool) (B:o9 c=some y):bg aR No 197 [aj c] L (fun v w'=>v = .bool y):=by
 refine en Tryz.func197 Tryz.ntmps197 hT fun a I=>?_;unfold o9 at B;refine am I fun a I=>?_;refine aM (J:=fun a w=>∃ (b:Bool),St L No T 9 [(2,.bool b)] [] [] a w/\kQ b=some y) ?_ ?_
 ·exact fz
 rintro a w ⟨b,I,B⟩;unfold kQ at B;exact fz
def mJ (b:Bool):=some (b)
def rR (b:ae) (c:Bool):=(o9 b.v).bind fun d=>cond d (cond (decide (((b.x.size:Int):Int)<=1073741824)) (cond (!(c)) (mJ true) (mJ (b.x.toList==cp.toList))) (mJ false)) (mJ false)
def ff (b:ae):=(qw b.v).bind fun c=>cond c ((kj b).bind fun d=>some (decide ((0:Int)<=d))) (cond (b.v==1) (rR b true) (rR b (b.v==21)))
theorem oD (hLv:dh T L) (b:ae) (y:Bool) (B:ff b=some y):bg aR No 157 [.agg (aX b).toArray] L (fun v w'=>v = .bool y):=by
 refine en Tryz.func157 Tryz.ntmps157 hT fun a I=>?_;replace I:=I.fact bH (dh.dn hLv);unfold ff at B;refine kB I fun e j a w O I=>?_;refine am I fun a I=>?_;refine aC ?_;refine am I fun a I=>?_;obtain⟨l,g,B⟩:=bd B;refine kF I NA (DC _ _ I.dlt b.v _ g) fun w a I=>?_;rcases cd B with⟨i,B⟩|⟨i,B⟩
 ·refine am I fun a I=>?_;obtain⟨m,h,B⟩:=bd B;refine kE I Ns (yM _ _ I.dlt I.g0 b _ h) fun w a I=>?_;exact fz
 refine am I fun a I=>?_;refine aM (J:=fun a w=>∃ (c:Bool),St L No T 36 [(1,pt e 0),(3,.bool c)] [.box e (aX b) 30] [bH] a w/\rR b c=some y) ?_ ?_
 ·exact fz
 rintro a w ⟨c,I,B⟩;unfold rR at B;refine aM (J:=fun a w=>∃ (d:Bool),St L No T 36 [(2,.bool d)] [] [bH] a w/\mJ d=some y) ?_ ?_
 ·refine am I fun a I=>?_;obtain⟨k,f,B⟩:=bd B;refine kE I NB (wi _ _ I.dlt b.v _ f) fun w a I=>?_;exact fz
 rintro a w ⟨d,I,B⟩;unfold mJ at B;exact fz
def o8 (b:Bool):=some (b)
def qd (b:ae):=cond (b.v==1) (o8 true) (cond (b.v==2) (o8 true) (o8 (b.v==30)))
theorem tw (c:ae) (y:Bool) (B:qd c=some y):bg aR No 177 [.agg (aX c).toArray] L (fun v w'=>v = .bool y):=by
 refine en Tryz.func177 Tryz.ntmps177 hT fun a I=>?_;unfold qd at B;refine kB I fun d e a w O I=>?_;refine am I fun a I=>?_;refine aM (J:=fun a w=>∃ (b:Bool),St L No T 16 [(2,.bool b)] [] [] a w/\o8 b=some y) ?_ ?_
 ·exact fz
 rintro a w ⟨b,I,B⟩;unfold o8 at B;exact fz
def ly:=some (false)
def eu (b:Bool):=cond b (some (true)) (ly)
def ph (b:Int):=cond (b==7) (eu (b==7)) (cond (b==14) (eu (b==14)) (cond (b==17) (eu (b==17)) (eu (b==18))))
theorem zX (c:Int) (y:Bool) (B:ph c=some y):bg aR No 249 [aj c] L (fun v w'=>v = .bool y):=by
 refine en Tryz.func249 Tryz.ntmps249 hT fun a I=>?_;unfold ph at B;refine am I fun a I=>?_;refine aM (J:=fun a w=>St L No T 9 [] [] [] a w/\ly=some y) ?_ ?_
 ·refine am I fun a I=>?_;refine aM (J:=fun a w=>∃ (b:Bool),St L No T 9 [(4,.bool b)] [] [] a w/\eu b=some y) ?_ ?_
  ·exact fz
  rintro a w ⟨b,I,B⟩;unfold eu at B;exact fz
 rintro a w ⟨I,B⟩;unfold ly at B;exact fz
def k6 (b:Bool):=some (b)
def sQ (b:ae):=cond (b.v==32) (k6 true) ((o9 b.v).bind fun c=>cond c ((ph b.v).bind fun d=>k6 d) (k6 false))
theorem EG (c:ae) (y:Bool) (B:sQ c=some y):bg aR No 218 [.agg (aX c).toArray] L (fun v w'=>v = .bool y):=by
 refine en Tryz.func218 Tryz.ntmps218 hT fun a I=>?_;unfold sQ at B;refine kB I fun h i a w O I=>?_;refine am I fun a I=>?_;refine aM (J:=fun a w=>∃ (b:Bool),St L No T 16 [(2,.bool b)] [] [] a w/\k6 b=some y) ?_ ?_
 ·refine am I fun a I=>?_;rcases cd B with⟨d,B⟩|⟨d,B⟩
  ·exact fz
  refine am I fun a I=>?_;obtain⟨j,f,B⟩:=bd B;refine wg I rfl rfl rfl d (bB I NB rfl rfl (wi _ _ I.dlt c.v _ f) fun _ w C a O U=>?_);obtain rfl:=C;have I:=eL U;refine am I fun a I=>?_;rcases cd B with⟨e,B⟩|⟨e,B⟩
  ·refine am I fun a I=>?_;obtain⟨k,g,B⟩:=bd B;refine wg I rfl rfl rfl e (bB I Qz rfl rfl (zX _ _ I.dlt c.v _ g) fun _ w C a O U=>?_);obtain rfl:=C;have I:=eL U;exact fz
  exact fz
 rintro a w ⟨b,I,B⟩;unfold k6 at B;exact fz
def lP (c:ae):=(ff c).bind fun b=>some (!(b))
theorem zZ (hLv:dh T L) (b:ae) (y:Bool) (B:lP b=some y):bg aR No 219 [.agg (aX b).toArray] L (fun v w'=>v = .bool y):=by
 refine en Tryz.func219 Tryz.ntmps219 hT fun a I=>?_;replace I:=I.fact bH (dh.dn hLv);unfold lP at B;refine kB I fun d e a w O I=>?_;refine am I fun a I=>?_;obtain⟨f,c,B⟩:=bd B;refine kE I Dq (oD _ _ I.dlt I.g0 b _ c) fun w a I=>?_;exact fz
def tQ:=some ((-1))
def nu (c:LK) (f:ae->Option Bool) (b:Int):Option (Fl (Int) (Fl (Unit) Int)):=cond (decide (b<(c.length:Int))) ((bu c b).bind fun d=>(f d).bind fun e=>cond e (some (.out (.out b))) (some (.go (IntKind.i64.wrap (b+1))))) (some (.out (.go ())))
def sJ (b:ae->Option Bool) (c:LK):=(loop (fun s:Int=>nu c b s) 0).bind fun r=>Fl.el r (fun s=>tQ) (fun y=>some (y))
theorem ED (hLv:dh T L) (f_1g:Nat) (f:aS aR f_1g=true) (f_1k:bI) (f_1P:cq) (d:ae->Option Bool) (m:∀ (T:Nat->Prop) (L:World) (hT:TW T L) (hLv:dh T L) (hP:f_1P.p T L) (q:ae) (y:Bool) (B:d q=some y),bg aR No f_1g ([.agg (aX q).toArray]++f_1k) L (fun v w'=>v = .bool y)) (e:f_1P.p T L) (c:LK) (i:Value) (o:aF ad T L i c) (y:Int) (B:sJ d c=some y):bg aR No 250 [i,.func (.func f_1g) #[] f_1k.toArray] L (fun v w'=>v=aj y):=by
 refine en Tryz.func250 Tryz.ntmps250 hT fun a I=>?_;replace I:=((I.fact f_1P (cq.dn _ e)).fact bH (dh.dn hLv)).fS (aF.dn o);unfold sJ at B;refine am I fun a I=>?_;refine aM (J:=fun a w=>St L No T 19 [] [] [bH,f_1P] a w/\tQ=some y) ?_ ?_
 ·refine am I fun a I=>?_;obtain⟨A,n,hMo1⟩:=bd B;refine bF _ (fun s a w=>∃ (b:Int),b=s/\St L No T 19 [(0,i),(1,.func (.func f_1g) #[] f_1k.toArray),(7,aj (c.length:Int)),(8,aj b)] [] [aL ad i c,bH,f_1P] a w) n ⟨_,rfl,I.mt [] [0,1,2]⟩ ?_;rintro s a w u ⟨b,rfl,I⟩ B hf1;have B:nu c d b=some u:=B;unfold nu at B;refine am I fun a I=>?_;refine aC ?_;rcases cd B with⟨k,B⟩|⟨k,B⟩
  ·refine am I fun a I=>?_;refine aC ?_;refine am I fun a I=>?_;obtain⟨j,g,B⟩:=bd B;refine wl rfl (bn (R:=ad) I j7 dB rfl rfl 0 rfl g rfl fun r x t l a I=>?_);obtain rfl:=l;refine am I fun a I=>?_;obtain⟨z,h,B⟩:=bd B;refine wl rfl (yL (cap:=f_1k) I rfl f rfl rfl (m _ _ I.dlt I.g2 I.g3 j _ h) fun _ w C a O U=>?_);obtain rfl:=C;have I:=eL U;exact fz
  exact fz
 rintro a w ⟨I,B⟩;unfold tQ at B;exact fz
def np (c:ae->Option Bool) (d:LK):=(sJ c d).bind fun b=>some (decide ((0:Int)<=b))
theorem A1 (hLv:dh T L) (f_1g:Nat) (e:aS aR f_1g=true) (f_1k:bI) (f_1P:cq) (b:ae->Option Bool) (g:∀ (T:Nat->Prop) (L:World) (hT:TW T L) (hLv:dh T L) (hP:f_1P.p T L) (j:ae) (y:Bool) (B:b j=some y),bg aR No f_1g ([.agg (aX j).toArray]++f_1k) L (fun v w'=>v = .bool y)) (d:f_1P.p T L) (c:LK) (i:Value) (h:aF ad T L i c) (y:Bool) (B:np b c=some y):bg aR No 220 [i,.func (.func f_1g) #[] f_1k.toArray] L (fun v w'=>v = .bool y):=by
 refine en Tryz.func220 Tryz.ntmps220 hT fun a I=>?_;replace I:=((I.fact f_1P (cq.dn _ d)).fact bH (dh.dn hLv)).fS (aF.dn h);unfold np at B;refine am I fun a I=>?_;obtain⟨k,f,B⟩:=bd B;refine kE I QA (ED _ _ I.dlt I.g1 f_1g e f_1k f_1P b g I.g2 c _ I.g0 _ f) fun w a I=>?_;exact fz
def eN (b:Bool):=some (b)
def dD (b:au) (c:Bool):=cond c (some (false)) (cond (decide ((0:Int)<=b.a)) (cond (decide (b.a<=b.t)) (cond (decide (b.t<=1073741824)) (cond (decide ((1:Int)<=b.j)) (cond (decide (b.j<=1073741824)) ((np lP b.k).bind fun d=>eN (!(d))) (eN false)) (eN false)) (eN false)) (eN false)) (eN false))
def pi (b:au):=(ff b.d).bind fun c=>cond (!(c)) (dD b true) ((qd b.d).bind fun e=>cond e (dD b true) (cond (decide ((1073741824:Int)<(b.u.size:Int))) (dD b true) (cond (decide ((4000:Int)<(b.k.length:Int))) (dD b true) (cond b.w ((sQ b.d).bind fun f=>dD b (!(f))) (dD b false)))))
theorem BV (hLv:dh T L) (b:au) (o:Value) (A:aF ad T L o b.k) (y:Bool) (B:pi b=some y):bg aR No 176 [.agg (bh b o).toArray] L (fun v w'=>v = .bool y):=by
 refine en Tryz.func176 Tryz.ntmps176 hT fun a I=>?_;replace I:=(I.fact bH (dh.dn hLv)).fS (aF.dn A);unfold pi at B;refine kB I fun f D a w O I=>?_;refine am I fun a I=>?_;refine aC ?_;refine aM (J:=fun a w=>∃ (e:Bool),St L No T 67 [(1,pt f 0),(34,.bool e)] [.box f (bh b o) 33] [aL ad o b.k,bH] a w/\dD b e=some y) ?_ ?_
 ·refine am I fun a I=>?_;obtain⟨F,l,B⟩:=bd B;refine kF I Dq (oD _ _ I.dlt I.g1 b.d _ l) fun w a I=>?_;rcases cd B with⟨g,B⟩|⟨g,B⟩
  ·exact fz
  refine am I fun a I=>?_;obtain⟨G,m,B⟩:=bd B;refine wg I rfl rfl rfl g (bB I H7 rfl rfl (tw _ _ I.dlt b.d _ m) fun _ w C a O U=>?_);obtain rfl:=C;have I:=eL U;refine am I fun a I=>?_;rcases cd B with⟨p,B⟩|⟨p,B⟩
  ·exact fz
  refine am I fun a I=>?_;rcases cd B with⟨q,B⟩|⟨q,B⟩
  ·exact fz
  refine am I fun a I=>?_;rcases cd B with⟨r,B⟩|⟨r,B⟩
  ·exact fz
  refine am I fun a I=>?_;rcases cd B with⟨h,B⟩|⟨h,B⟩
  ·refine am I fun a I=>?_;obtain⟨H,n,B⟩:=bd B;refine wg I rfl rfl rfl h (bB I Qq rfl rfl (EG _ _ I.dlt b.d _ n) fun _ w C a O U=>?_);obtain rfl:=C;have I:=eL U;exact fz
  exact fz
 rintro a w ⟨e,I,B⟩;unfold dD at B;rcases cd B with⟨s,B⟩|⟨s,B⟩
 ·exact fz
 refine am I fun a I=>?_;refine aM (J:=fun a w=>∃ (c:Bool),St L No T 67 [(2,.bool c)] [] [bH] a w/\eN c=some y) ?_ ?_
 ·refine am I fun a I=>?_;rcases cd B with⟨t,B⟩|⟨t,B⟩
  ·refine am I fun a I=>?_;rcases cd B with⟨u,B⟩|⟨u,B⟩
   ·refine am I fun a I=>?_;rcases cd B with⟨x,B⟩|⟨x,B⟩
    ·refine am I fun a I=>?_;rcases cd B with⟨z,B⟩|⟨z,B⟩
     ·refine am I fun a I=>?_;rcases cd B with⟨i,B⟩|⟨i,B⟩
      ·refine am I fun a I=>?_;obtain⟨E,j,B⟩:=bd B;refine wg I rfl rfl rfl i (bB I Qs rfl rfl (A1 _ _ I.dlt I.g1 219 Qr [] HZ lP (fun T L hT hLv _ K y B=>zZ T L hT hLv K y B) trivial b.k _ I.g0 _ j) fun _ w C a O U=>?_);obtain rfl:=C;have I:=eL U;exact fz
      exact fz
     exact fz
    exact fz
   exact fz
  exact fz
 rintro a w ⟨c,I,B⟩;unfold eN at B;exact fz
def nb (b:LR):=some (decide ((b.length:Int)<=4000))
def dN (b:Int) (c:Bool):Option (Fl (Int) (Fl (Unit) Bool)):=cond c (some (.out (.out false))) (some (.go (IntKind.i64.wrap (b+1))))
def gq (e:LR) (b:Int):=cond (decide (b<(e.length:Int))) ((bu e b).bind fun c=>(pi c).bind fun g=>cond (!(g)) (dN b true) (cond (decide ((0:Int)<b)) ((bu e (IntKind.i64.wrap (b-1))).bind fun f=>(ve f.d c.d).bind fun h=>dN b (decide ((0:Int)<=h))) (dN b false))) (some (.out (.go ())))
def jL (b:LR):=(loop (fun s:Int=>gq b s) 0).bind fun r=>Fl.el r (fun s=>nb b) (fun y=>some (y))
theorem xU (hLv:dh T L) (b:LR) (e:Value) (F:aF aa T L e b) (y:Bool) (B:jL b=some y):bg aR No 122 [e] L (fun v w'=>v = .bool y):=by
 refine en Tryz.func122 Tryz.ntmps122 hT fun a I=>?_;replace I:=(I.fact bH (dh.dn hLv)).fS (aF.dn F);unfold jL at B;refine am I fun a I=>?_;refine aM (J:=fun a w=>St L No T 35 [(0,e)] [] [aL aa e b,bH] a w/\nb b=some y) ?_ ?_
 ·refine am I fun a I=>?_;obtain⟨X,E,hMo1⟩:=bd B;refine bF _ (fun s a w=>∃ (c:Int),c=s/\St L No T 35 [(0,e),(5,e),(6,aj (b.length:Int)),(7,aj c)] [] [aL aa e b,bH] a w) E ⟨_,rfl,I.mt [] [0,1]⟩ ?_;rintro s a w D ⟨c,rfl,I⟩ B hf1;have B:gq b c=some D:=B;unfold gq at B;refine am I fun a I=>?_;refine aC ?_;rcases cd B with⟨r,B⟩|⟨r,B⟩
  ·refine am I fun a I=>?_;refine aC ?_;refine am I fun a I=>?_;obtain⟨h,j,B⟩:=bd B;refine wl rfl (bn (R:=aa) I mV j6 rfl rfl 0 rfl j rfl fun G P K t a I=>?_);obtain⟨V,rfl,n⟩:=t;replace I:=I.fS n;refine kA I eJ fun H N a w O I=>?_;refine go I fun a w I=>?_;refine aM (J:=fun a w=>∃ (f:Bool),St L No T 35 [(0,e),(5,e),(6,aj (b.length:Int)),(7,aj c),(30,.bool f)] [] [aL aa e b,bH] a w/\dN c f=some D) ?_ ?_
   ·refine dr [] I fun w hQ I=>?_;refine gE [0] I fun a I=>?_;obtain⟨Q,l,B⟩:=bd B;refine ec 1 I P8 (BV _ _ I.dlt I.g3 h _ I.g0 _ l) fun _ w C a O U=>?_;obtain rfl:=C;have I:=eL U;refine gE [2,3] I fun a I=>?_;rcases cd B with⟨u,B⟩|⟨u,B⟩
    ·refine gE [4,5,6,7,8,9,10,11,12,13,14,15,16,17,18] I fun a I=>?_;refine eD ?_;exact fin
    refine gE [4,5,6] I fun a I=>?_;rcases cd B with⟨g,B⟩|⟨g,B⟩
    ·refine gE [7,8,9] I fun a I=>?_;obtain⟨q,k,B⟩:=bd B;obtain⟨p,A,M,x,z,I⟩:=lq (R:=aa) I mV j6 2 rfl k;obtain⟨W,rfl,o⟩:=x;replace I:=I.fS o;refine dg 10 I g (v:=pt p A) (z rfl rfl) fun a I=>?_;refine gE [11,12,13,14] I fun a I=>?_;obtain⟨S,m,B⟩:=bd B;refine cR (i:=15) rfl (by kernel_rfl) I rfl rfl rfl g (bB I J5 rfl rfl (zR _ _ I.dlt I.g5 q.d h.d _ m) fun _ w C a O U=>⟨fq (O),?_⟩);obtain rfl:=C;have I:=eL U;refine gE [16,17,18] I fun a I=>?_;refine eD ?_;exact fin
    refine gE [7,8,9,10,11,12,13,14,15,16,17,18] I fun a I=>?_;refine eD ?_;exact fin
   rintro a w ⟨f,I,B⟩;unfold dN at B;exact fz
  exact fz
 rintro a w ⟨I,B⟩;unfold nb at B;exact fz
def lz (b:Bool):=some (b)
def mm (b:ae):=(ff b).bind fun c=>cond c ((qd b).bind fun d=>lz d) (lz false)
theorem Ad (hLv:dh T L) (c:ae) (y:Bool) (B:mm c=some y):bg aR No 123 [.agg (aX c).toArray] L (fun v w'=>v = .bool y):=by
 refine en Tryz.func123 Tryz.ntmps123 hT fun a I=>?_;replace I:=I.fact bH (dh.dn hLv);unfold mm at B;refine kB I fun g h a w O I=>?_;refine am I fun a I=>?_;refine aM (J:=fun a w=>∃ (b:Bool),St L No T 9 [(2,.bool b)] [] [bH] a w/\lz b=some y) ?_ ?_
 ·refine am I fun a I=>?_;obtain⟨i,e,B⟩:=bd B;refine kF I Dq (oD _ _ I.dlt I.g0 c _ e) fun w a I=>?_;rcases cd B with⟨d,B⟩|⟨d,B⟩
  ·refine am I fun a I=>?_;obtain⟨j,f,B⟩:=bd B;refine wg I rfl rfl rfl d (bB I H7 rfl rfl (tw _ _ I.dlt c _ f) fun _ w C a O U=>?_);obtain rfl:=C;have I:=eL U;exact fz
  exact fz
 rintro a w ⟨b,I,B⟩;unfold lz at B;exact fz
def qb:=some ((-1))
def jE (c:LR) (f:au->Option Bool) (b:Int):Option (Fl (Int) (Fl (Unit) Int)):=cond (decide (b<(c.length:Int))) ((bu c b).bind fun d=>(f d).bind fun e=>cond e (some (.out (.out b))) (some (.go (IntKind.i64.wrap (b+1))))) (some (.out (.go ())))
def nw (b:au->Option Bool) (c:LR):=(loop (fun s:Int=>jE c b s) 0).bind fun r=>Fl.el r (fun s=>qb) (fun y=>some (y))
theorem A2 (hLv:dh T L) (f_1g:Nat) (f:aS aR f_1g=true) (f_1k:bI) (f_1P:cq) (d:au->Option Bool) (q:∀ (T:Nat->Prop) (L:World) (hT:TW T L) (hLv:dh T L) (hP:f_1P.p T L) (r:au) (l:Value) (D:aF ad T L l r.k) (y:Bool) (B:d r=some y),bg aR No f_1g ([.agg (bh r l).toArray]++f_1k) L (fun v w'=>v = .bool y)) (e:f_1P.p T L) (c:LR) (j:Value) (u:aF aa T L j c) (y:Int) (B:nw d c=some y):bg aR No 180 [j,.func (.func f_1g) #[] f_1k.toArray] L (fun v w'=>v=aj y):=by
 refine en Tryz.func180 Tryz.ntmps180 hT fun a I=>?_;replace I:=((I.fact f_1P (cq.dn _ e)).fact bH (dh.dn hLv)).fS (aF.dn u);unfold nw at B;refine am I fun a I=>?_;refine aM (J:=fun a w=>St L No T 19 [] [] [bH,f_1P] a w/\qb=some y) ?_ ?_
 ·refine am I fun a I=>?_;obtain⟨H,t,hMo1⟩:=bd B;refine bF _ (fun s a w=>∃ (b:Int),b=s/\St L No T 19 [(0,j),(1,.func (.func f_1g) #[] f_1k.toArray),(7,aj (c.length:Int)),(8,aj b)] [] [aL aa j c,bH,f_1P] a w) t ⟨_,rfl,I.mt [] [0,1,2]⟩ ?_;rintro s a w A ⟨b,rfl,I⟩ B hf1;have B:jE c d b=some A:=B;unfold jE at B;refine am I fun a I=>?_;refine aC ?_;rcases cd B with⟨n,B⟩|⟨n,B⟩
  ·refine am I fun a I=>?_;refine aC ?_;refine am I fun a I=>?_;obtain⟨m,g,B⟩:=bd B;refine wl rfl (bn (R:=aa) I mV j6 rfl rfl 0 rfl g rfl fun x E z o a I=>?_);obtain⟨G,rfl,i⟩:=o;replace I:=I.fS i;refine am I fun a I=>?_;obtain⟨F,h,B⟩:=bd B;refine wl rfl (yL (cap:=f_1k) I rfl f rfl rfl (q _ _ I.dlt I.g3 I.g4 m _ I.g0 _ h) fun _ w C a O U=>?_);obtain rfl:=C;have I:=eL U;exact fz
  exact fz
 rintro a w ⟨I,B⟩;unfold qb at B;exact fz
def ce (c:au->Option Bool) (d:LR):=(nw c d).bind fun b=>some (decide ((0:Int)<=b))
theorem j8 (hLv:dh T L) (f_1g:Nat) (e:aS aR f_1g=true) (f_1k:bI) (f_1P:cq) (b:au->Option Bool) (h:∀ (T:Nat->Prop) (L:World) (hT:TW T L) (hLv:dh T L) (hP:f_1P.p T L) (i:au) (g:Value) (m:aF ad T L g i.k) (y:Bool) (B:b i=some y),bg aR No f_1g ([.agg (bh i g).toArray]++f_1k) L (fun v w'=>v = .bool y)) (d:f_1P.p T L) (c:LR) (l:Value) (j:aF aa T L l c) (y:Bool) (B:ce b c=some y):bg aR No 125 [l,.func (.func f_1g) #[] f_1k.toArray] L (fun v w'=>v = .bool y):=by
 refine en Tryz.func125 Tryz.ntmps125 hT fun a I=>?_;replace I:=((I.fact f_1P (cq.dn _ d)).fact bH (dh.dn hLv)).fS (aF.dn j);unfold ce at B;refine am I fun a I=>?_;obtain⟨n,f,B⟩:=bd B;refine kE I Qb (A2 _ _ I.dlt I.g1 f_1g e f_1k f_1P b h I.g2 c _ I.g0 _ f) fun w a I=>?_;exact fz
def j5 (c:au) (b:ah):=some (decide (b.r<c.t))
theorem x5 (c:au) (b:ah) (m f g:Value) (d:Nat) (h:aF ad T L m c.k) (j:aF ac T L f b.i) (l:aF aa T L g b.s) (e:(co d 0 (aU b f g)).p T L) (y:Bool) (B:j5 c b=some y):bg aR No 126 [.agg (bh c m).toArray,pt d 0] L (fun v w'=>v = .bool y):=by
 refine en Tryz.func126 Tryz.ntmps126 hT fun a I=>?_;replace I:=(((I.fact (co d 0 (aU b f g)) (cq.dn _ e)).fS (aF.dn h)).fS (aF.dn j)).fS (aF.dn l);unfold j5 at B;refine kB I fun n o a w O I=>?_;exact fz
def ja (b:ah):=(ce (fun d=>j5 d b) b.s).bind fun c=>some (!(c))
def cG (b:Int) (c:Bool):Option (Fl (Int) (Fl (Unit) Bool)):=cond c (some (.out (.out false))) (some (.go (IntKind.i64.wrap (b+1))))
def jc (e:ah) (b:Int):=cond (decide (b<(e.i.length:Int))) ((bu e.i b).bind fun c=>(mm c.d).bind fun g=>cond (!(g)) (cG b true) (cond (decide ((0:Int)<b)) ((bu e.i (IntKind.i64.wrap (b-1))).bind fun f=>(ve f.d c.d).bind fun h=>cond (decide ((0:Int)<=h)) (cG b true) (cond (decide ((1073741824:Int)<(c.u.size:Int))) (cG b true) (cond (decide (c.a<0)) (cG b true) (cG b (decide (e.r<c.a)))))) (cond (decide ((1073741824:Int)<(c.u.size:Int))) (cG b true) (cond (decide (c.a<0)) (cG b true) (cG b (decide (e.r<c.a))))))) (some (.out (.go ())))
def ml (b:ah):=cond (decide (b.r<0)) (some (false)) (cond (decide ((1073741824:Int)<b.r)) (some (false)) (cond (decide ((64:Int)<(b.i.length:Int))) (some (false)) ((jL b.s).bind fun c=>cond (!(c)) (some (false)) ((loop (fun s:Int=>jc b s) 0).bind fun r=>Fl.el r (fun s=>ja b) (fun y=>some (y))))))
theorem Ac (hLv:dh T L) (b:ah) (f g:Value) (Z:aF ac T L f b.i) (a0:aF aa T L g b.s) (y:Bool) (B:ml b=some y):bg aR No 43 [.agg (aU b f g).toArray] L (fun v w'=>v = .bool y):=by
 refine en Tryz.func43 Tryz.ntmps43 hT fun a I=>?_;replace I:=((I.fact bH (dh.dn hLv)).fS (aF.dn Z)).fS (aF.dn a0);unfold ml at B;refine kB I fun c a9 a w O I=>?_;refine am I fun a I=>?_;refine aC ?_;refine io ?_;refine am I fun a I=>?_;rcases cd B with⟨x,B⟩|⟨x,B⟩
 ·exact fz
 refine am I fun a I=>?_;rcases cd B with⟨z,B⟩|⟨z,B⟩
 ·exact fz
 refine am I fun a I=>?_;rcases cd B with⟨l,B⟩|⟨l,B⟩
 ·exact fz
 refine am I fun a I=>?_;obtain⟨av,r,B⟩:=bd B;refine wg I rfl rfl rfl l (bB I PF rfl rfl (xU _ _ I.dlt I.g2 b.s _ I.g0 _ r) fun _ w C a O U=>?_);obtain rfl:=C;have I:=eL U;refine am I fun a I=>?_;rcases cd B with⟨A,B⟩|⟨A,B⟩
 ·exact fz
 refine am I fun a I=>?_;refine aM (J:=fun a w=>St L No T 78 [(1,pt c 0)] [.box c (aU b f g) 25] [aL ac f b.i,aL aa g b.s,bH] a w/\ja b=some y) ?_ ?_
 ·refine am I fun a I=>?_;obtain⟨r1,Y,hMo1⟩:=bd B;refine bF _ (fun s a w=>∃ (e:Int),e=s/\St L No T 78 [(1,pt c 0),(26,f),(27,aj (b.i.length:Int)),(28,aj e)] [.box c (aU b f g) 25] [aL ac f b.i,aL aa g b.s,bH] a w) Y ⟨_,rfl,I.mt [0] [1,0,2]⟩ ?_;rintro s a w X ⟨e,rfl,I⟩ B hf1;have B:jc b e=some X:=B;unfold jc at B;refine am I fun a I=>?_;refine aC ?_;rcases cd B with⟨D,B⟩|⟨D,B⟩
  ·refine am I fun a I=>?_;refine aC ?_;refine am I fun a I=>?_;obtain⟨k,m,B⟩:=bd B;refine wl rfl (bn (R:=ac) I Dh Di rfl rfl 0 rfl m rfl fun a2 af a4 E a I=>?_);obtain rfl:=E;refine kA I Ap fun a3 ab a w O I=>?_;refine go I fun a w I=>?_;refine aM (J:=fun a w=>∃ (h:Bool),St L No T 78 [(1,pt c 0),(26,f),(27,aj (b.i.length:Int)),(28,aj e),(71,.bool h)] [.box c (aU b f g) 25] [aL ac f b.i,aL aa g b.s,bH] a w/\cG e h=some X) ?_ ?_
   ·refine dr [] I fun w hQ I=>?_;refine gE [0,1] I fun a I=>?_;obtain⟨ak,p,B⟩:=bd B;refine ec 2 I PG (Ad _ _ I.dlt I.g3 k.d _ p) fun _ w C a O U=>?_;obtain rfl:=C;have I:=eL U;refine gE [3,4] I fun a I=>?_;rcases cd B with⟨F,B⟩|⟨F,B⟩
    ·refine gE [5,6,7,8,9,10,11,12,13,14,15,16,17,18,19,20,21,22,23,24,25,26,27,28,29,30,31,32,33,34,35,36,37,38] I fun a I=>?_;refine eD ?_;exact fin
    refine gE [5,6,7] I fun a I=>?_;rcases cd B with⟨j,B⟩|⟨j,B⟩
    ·refine gE [8,9,10,11] I fun a I=>?_;obtain⟨u,n,B⟩:=bd B;obtain⟨t,V,a5,G,H,I⟩:=lq (R:=ac) I Dh Di 1 rfl n;obtain rfl:=G;refine dg 12 I j (v:=pt t V) (H rfl rfl) fun a I=>?_;refine gE [13,14,15,16] I fun a I=>?_;obtain⟨ao,q,B⟩:=bd B;refine cR (i:=17) rfl (by kernel_rfl) I rfl rfl rfl j (bB I J5 rfl rfl (zR _ _ I.dlt I.g4 u.d k.d _ q) fun _ w C a O U=>⟨fq (O),?_⟩);obtain rfl:=C;have I:=eL U;refine gE [18,19,20,21] I fun a I=>?_;rcases cd B with⟨K,B⟩|⟨K,B⟩
     ·refine gE [22,23,24,25,26,27,28,29,30,31,32,33,34,35,36,37,38] I fun a I=>?_;refine eD ?_;exact fin
     refine gE [22,23,24,25,26,27] I fun a I=>?_;rcases cd B with⟨M,B⟩|⟨M,B⟩
     ·refine gE [28,29,30,31,32,33,34,35,36,37,38] I fun a I=>?_;refine eD ?_;exact fin
     refine gE [28,29,30,31,32] I fun a I=>?_;rcases cd B with⟨N,B⟩|⟨N,B⟩
     ·refine gE [33,34,35,36,37,38] I fun a I=>?_;refine eD ?_;exact fin
     refine gE [33,34,35,36,37,38] I fun a I=>?_;refine eD ?_;exact fin
    refine gE [8,9,10,11,12,13,14,15,16,17,18,19,20,21,22,23,24,25,26,27] I fun a I=>?_;rcases cd B with⟨P,B⟩|⟨P,B⟩
    ·refine gE [28,29,30,31,32,33,34,35,36,37,38] I fun a I=>?_;refine eD ?_;exact fin
    refine gE [28,29,30,31,32] I fun a I=>?_;rcases cd B with⟨Q,B⟩|⟨Q,B⟩
    ·refine gE [33,34,35,36,37,38] I fun a I=>?_;refine eD ?_;exact fin
    refine gE [33,34,35,36,37,38] I fun a I=>?_;refine eD ?_;exact fin
   rintro a w ⟨h,I,B⟩;unfold cG at B;exact fz
  exact fz
 rintro a w ⟨I,B⟩;unfold ja at B;refine am I fun a I=>?_;replace I:=I.zx 0 rfl;refine qy I (zA (vs:=[pt c 0]) I rfl) fun a I=>?_;obtain⟨ag,o,B⟩:=bd B;refine kE I PH (j8 _ _ I.dlt I.g3 126 PI [pt c 0] (L4 (co c 0 (aU b f g)) (L4 (aL ac f b.i) (L4 (aL aa g b.s) HZ))) (fun W=>j5 W b) (fun T L hT hLv hP W a1 S y B=>x5 T L hT W b a1 f g c S hP.2.1 hP.2.2.1 hP.1 y B) ⟨I.g0,I.g1,I.g2,trivial⟩ b.s _ I.g2 _ o) fun w a I=>?_;exact fz
def dp (b:LI):=gd (bP (([]:List a7).length+b.length)) <| some ((([]:List a7)++b))
theorem ou (d:LI) (m:Value) (l:aF ac T L m d) (y:LI) (B:dp d=some y):bg aR No 155 [m] L (fun v w'=>∃ (k:Value) (rN:bI),v=k/\gG ac T L w' [be k rN] 91 k rN y):=by
 refine en Tryz.func155 Tryz.ntmps155 hT fun a I=>?_;replace I:=I.fS (aF.dn l);unfold dp at B;refine am I fun a I=>?_;refine aC ?_;refine am I fun a I=>?_;obtain⟨b,f,g,n⟩:=EZ (R:=ac) I Dh 0 rfl;refine wl rfl (ky (v:=.bool b) I (g rfl) rfl rfl fun a I=>?_);refine am I fun a I=>?_;rcases JU (b) with c | c
 ·rw [f c] at B;have B:some ([])=some y:=B;refine am I fun a I=>?_;cases B
  refine aG I rfl (aw I rfl aI) ?_;exact⟨.slice none 0 0,[],rfl,og _ _ _ _ _ _⟩
 refine am I fun a I=>?_;refine wl rfl (zO ac I Ev rfl fun o a w O I=>?_);refine am I fun a I=>?_;obtain⟨h,B⟩:=aW B;refine wl rfl (bG (R:=ac) (xs:=([]:List a7)) (ys:=d) I Ev (by decide) (by decide) rfl rfl 0 rfl 0 rfl 1 rfl h rfl fun j e a w O I=>?_);refine am I fun a I=>?_;cases B
 refine aG I rfl (aw I rfl aI) ?_;exact⟨j,e,rfl,I.zo ⟨.inr (aO (i:=0) rfl),trivial⟩ 0 rfl 0 rfl⟩
def oY (b:LR):=gd (bP (([]:List au).length+b.length)) <| some ((([]:List au)++b))
theorem Br (d:LR) (m:Value) (l:aF aa T L m d) (y:LR) (B:oY d=some y):bg aR No 195 [m] L (fun v w'=>∃ (k:Value) (rN:bI),v=k/\gG aa T L w' [aJ k rN] 33 k rN y):=by
 refine en Tryz.func195 Tryz.ntmps195 hT fun a I=>?_;replace I:=I.fS (aF.dn l);unfold oY at B;refine am I fun a I=>?_;refine aC ?_;refine am I fun a I=>?_;obtain⟨b,f,g,n⟩:=EZ (R:=aa) I mV 0 rfl;refine wl rfl (ky (v:=.bool b) I (g rfl) rfl rfl fun a I=>?_);refine am I fun a I=>?_;rcases JU (b) with c | c
 ·rw [f c] at B;have B:some ([])=some y:=B;refine am I fun a I=>?_;cases B
  refine aG I rfl (aw I rfl aI) ?_;exact⟨.slice none 0 0,[],rfl,og _ _ _ _ _ _⟩
 refine am I fun a I=>?_;refine wl rfl (zO aa I tN rfl fun o a w O I=>?_);refine am I fun a I=>?_;obtain⟨h,B⟩:=aW B;refine wl rfl (bG (R:=aa) (xs:=([]:List au)) (ys:=d) I tN (by decide) (by decide) rfl rfl 0 rfl 0 rfl 1 rfl h rfl fun j e a w O I=>?_);refine am I fun a I=>?_;cases B
 refine aG I rfl (aw I rfl aI) ?_;exact⟨j,e,rfl,I.zo ⟨.inr (aO (i:=0) rfl),trivial⟩ 0 rfl 0 rfl⟩
def oA (b:LK):=gd (bP (([]:List ae).length+b.length)) <| some ((([]:List ae)++b))
theorem Aw (d:LK) (m:Value) (l:aF ad T L m d) (y:LK) (B:oA d=some y):bg aR No 163 [m] L (fun v w'=>∃ (k:Value) (rN:bI),v=k/\gG ad T L w' [aA k rN] 30 k rN y):=by
 refine en Tryz.func163 Tryz.ntmps163 hT fun a I=>?_;replace I:=I.fS (aF.dn l);unfold oA at B;refine am I fun a I=>?_;refine aC ?_;refine am I fun a I=>?_;obtain⟨b,f,g,n⟩:=EZ (R:=ad) I j7 0 rfl;refine wl rfl (ky (v:=.bool b) I (g rfl) rfl rfl fun a I=>?_);refine am I fun a I=>?_;rcases JU (b) with c | c
 ·rw [f c] at B;have B:some ([])=some y:=B;refine am I fun a I=>?_;cases B
  refine aG I rfl (aw I rfl aI) ?_;exact⟨.slice none 0 0,[],rfl,og _ _ _ _ _ _⟩
 refine am I fun a I=>?_;refine wl rfl (zO ad I iA rfl fun o a w O I=>?_);refine am I fun a I=>?_;obtain⟨h,B⟩:=aW B;refine wl rfl (bG (R:=ad) (xs:=([]:List ae)) (ys:=d) I iA (by decide) (by decide) rfl rfl 0 rfl 0 rfl 1 rfl h rfl fun j e a w O I=>?_);refine am I fun a I=>?_;cases B
 refine aG I rfl (aw I rfl aI) ?_;exact⟨j,e,rfl,I.zo ⟨.inr (aO (i:=0) rfl),trivial⟩ 0 rfl 0 rfl⟩
def ol (b:au):=(oA b.k).bind fun c=>some ((au.mk b.d b.u c b.a b.t b.j b.w))
theorem vn (b:au) (j:Value) (h:aF ad T L j b.k) (y:au) (B:ol b=some y):bg aR No 167 [.agg (bh b j).toArray] L (fun v w'=>∃ (g:Value) (rN:bI),v = .agg (bh y g).toArray/\gG ad T L w' [aA g rN] 30 g rN y.k):=by
 refine en Tryz.func167 Tryz.ntmps167 hT fun a I=>?_;replace I:=I.fS (aF.dn h);unfold ol at B;refine kB I fun l n a w O I=>?_;refine ka I eJ fun m o a w O I=>?_;refine am I fun a I=>?_;obtain⟨p,d,B⟩:=bd B;refine kc I Nt (Aw _ _ I.dlt b.k _ I.g0 _ d) fun _ w C a O U=>?_;obtain⟨f,e,he,c⟩:=C;obtain rfl:=he.symm;have I:=qs U c;refine go I fun a w I=>?_;cases B
 refine aG I rfl (rC 1 I) ?_;exact⟨f,e,rfl,I.zo ⟨.inr (aO (i:=0) rfl),trivial⟩ 0 rfl 0 rfl⟩
def sZ (b:LR):=some (b)
def lO (e c:LR) (b:Int):Option (Fl (LR×Int) (LR)):=cond (decide (b<(e.length:Int))) ((bu c b).bind fun d=>(ol d).bind fun f=>(bu c b).bind fun g=>some (.go ((c.set (Int.toNat b) f),IntKind.i64.wrap (b+1)))) (some (.out c))
def oF (c:LR):=(oY c).bind fun b=>(loop (fun s:LR×Int=>lO b s.1 s.2) (b,0)).bind fun r=>sZ r
theorem xo (o:LR) (X:Value) (W:aF aa T L X o) (y:LR) (B:oF o=some y):bg aR No 156 [X] L (fun v w'=>∃ (S:Value) (rN:bI),v=S/\gG aa T L w' [aJ S rN] 33 S rN y):=by
 refine en Tryz.func156 Tryz.ntmps156 hT fun a I=>?_;replace I:=I.fS (aF.dn W);unfold oF at B;refine am I fun a I=>?_;obtain⟨p,t,B⟩:=bd B;refine kc I Qi (Br _ _ I.dlt o _ I.g0 _ t) fun _ w C a O U=>?_;obtain⟨b,a1,he,m⟩:=C;obtain rfl:=he.symm;have I:=qs U m;refine am I fun a I=>?_;refine aM (J:=fun a w=>∃ (g:LR) (c:LV),St L No T 22 [(3,b)] [aJ b c] [ap aa c g] a w/\sZ g=some y) ?_ ?_
 ·refine am I fun a I=>?_;obtain⟨r1,V,hMo1⟩:=bd B;refine bF _ (fun s a w=>∃ (e:LR) (d:Int) (f:LV),(e,d)=s/\St L No T 22 [(3,b),(8,b),(9,aj (p.length:Int)),(10,aj d)] [aJ b f] [ap aa f e] a w) V ⟨_,_,_,rfl,I.mt [0] [0]⟩ ?_;rintro s a w f1 ⟨e,d,f,rfl,I⟩ B hf1;have B:lO p e d=some f1:=B;unfold lO at B;refine am I fun a I=>?_;refine aC ?_;rcases cd B with⟨D,B⟩|⟨D,B⟩
  ·refine am I fun a I=>?_;refine aC ?_;refine am I fun a I=>?_;obtain⟨l,r,B⟩:=bd B;refine wl rfl (dx (R:=aa) I mV j6 rfl rfl 0 rfl 0 rfl r rfl fun Y af ak a2 E F G a I=>?_);obtain⟨N,rfl,x⟩:=E;replace I:=I.fS x;refine qy I (cg (k:=0) I j6 0 rfl F G rfl id (us:=(bh l N)) rfl rfl (fun h=>by cases h)) fun a I=>?_;refine ka I eJ fun Z ab a w O I=>?_;refine go I fun a w I=>?_;obtain⟨q,u,B⟩:=bd B;refine kc I J7 (vn _ _ I.dlt l _ I.g0 _ u) fun _ w C a O U=>?_;obtain⟨P,a3,he,n⟩:=C;obtain rfl:=he.symm;have I:=qs U n;obtain⟨A,j,B⟩:=bd B;refine wl rfl (dx (R:=aa) I mV j6 rfl rfl 2 rfl 2 rfl j rfl fun a0 ag ao a4 H K M a I=>?_);obtain⟨Q,rfl,z⟩:=H;replace I:=(I.fS z).zf (R:=ad) 0 rfl 1 rfl;refine wl rfl (sO (R:=aa) (k:=0) (cs:=(bh A Q)) (us:=(bh q P)) (x':=q) I rfl rfl rfl j6 1 rfl 4 rfl K M j (⟨_,rfl,I.g1⟩) rfl rfl (⟨_,rfl,I.g0⟩) fun a5 w O I=>?_);exact fz
  exact fz
 rintro a w ⟨g,c,I,B⟩;unfold sZ at B;refine am I fun a I=>?_;cases B
 refine aG I rfl (aw I rfl aI) ?_;exact⟨b,c,rfl,I.zo ⟨.inr (aO (i:=0) rfl),trivial⟩ 0 rfl 0 rfl⟩
def nK (b:ah):=(dp b.i).bind fun c=>(oF b.s).bind fun d=>some ((ah.mk b.r c d))
theorem A4 (b:ah) (r t:Value) (p:aF ac T L r b.i) (q:aF aa T L t b.s) (y:ah) (B:nK b=some y):bg aR No 102 [.agg (aU b r t).toArray] L (fun v w'=>∃ (f:Value) (uZ:bI) (g:Value) (Ba:bI),v = .agg (aU y f g).toArray/\gG ac T L w' [be f uZ,aJ g Ba] 91 f uZ y.i/\gG aa T L w' [be f uZ,aJ g Ba] 33 g Ba y.s/\(∀ k,f.ownBlock=some k->g.ownBlock≠some k)):=by
 refine en Tryz.func102 Tryz.ntmps102 hT fun a I=>?_;replace I:=(I.fS (aF.dn p)).fS (aF.dn q);unfold nK at B;refine kB I fun c x a w O I=>?_;refine ka I mw fun u z a w O I=>?_;refine am I fun a I=>?_;refine aC ?_;refine dr [(7,.blk (some c)),(9,.blk (some c))] I fun w hQ I=>?_;refine gE [0,1,3,4] I fun a I=>?_;obtain⟨A,h,B⟩:=bd B;refine ec 2 I PT (ou _ _ I.dlt b.i _ I.g1 _ h) fun _ w C a O U=>?_;obtain⟨n,l,he,d⟩:=C;obtain rfl:=he.symm;have I:=qs U d;refine gE [6] I fun a I=>?_;obtain⟨D,j,B⟩:=bd B;refine ec 5 I Nr (xo _ _ I.dlt b.s _ I.g1 _ j) fun _ w C a O U=>?_;obtain⟨o,m,he,e⟩:=C;obtain rfl:=he.symm;have I:=qs U e;refine es 7 I fun w I=>?_;refine gE [8] I fun a I=>?_;refine es 9 I fun w I=>?_;refine eD ?_;refine go I fun a w I=>?_;cases B
 refine aG I rfl (rC 2 I) ?_;exact⟨n,l,o,m,rfl,I.zo ⟨.inr (aO (i:=1) rfl),⟨.inr (aO (i:=0) rfl),trivial⟩⟩ 1 rfl 1 rfl,I.zo ⟨.inr (aO (i:=1) rfl),⟨.inr (aO (i:=0) rfl),trivial⟩⟩ 0 rfl 0 rfl,(I.zp 1 rfl 0 rfl (by decide))⟩
end
end
section
open Go.Lib hiding intOf
variable {n:Nat}
theorem nx (n:Nat):itoa (n:Int)=decDigits n:=by
 unfold itoa
 first | rw [if_neg (by omega)]; simp | simp
noncomputable def bJ (n:Nat):ae:=⟨30,cL n⟩
theorem r9 (h:n<1000000000):yJ n=some (cL n):=by
 unfold yJ Or;rw [show (decide (-9223372036854775808<=(n:Int))&&decide ((n:Int)<=9223372036854775807))=true by simp; omega];rfl
theorem vp (h:n<100):km n=some (bJ n):=by
 unfold km;rw [show decide ((n:Int)<0)=false by simp,show decide ((99:Int)<(n:Int))=false by simp; omega];simp [cond,r9 (show n<1000000000 by omega),bJ]
theorem G4 (h:n<1000):Bm (cL n)=some ((n:Int),false):=by
 unfold Bm;have hl:(cL n).toList=decDigits n:=by rw [vc,nx]
 have hs:(cL n).size<=140737488355328:=by
  have h1:(cL n).size=(itoa n).length:=by simp [cL,ByteArray.size]
  have:=yE n 3 (by omega);rw [h1,nx]; omega
 rw [show Nat.ble (cL n).size 140737488355328=true from E1 hs,hl,Fg (by omega)];rfl
theorem KH (h:n<100):ff (bJ n)=some true:=by
 have h1:qw 30=some true:=by unfold qw; rfl
 have h2:kj (bJ n)=some n:=by
  unfold kj bJ;rw [h1];simp only [ax,G4 (show n<1000 by omega),r9 (show n<1000000000 by omega)];rw [show decide ((n:Int)<0)=false by simp,show decide ((99:Int)<(n:Int))=false by simp; omega];simp
 unfold ff;rw [show (bJ n).v=30 from rfl,h1,h2];simp
theorem KR (n:Int) {m:Nat} (hm:0<m) (hm2:m<=1000000000):∃ r:Nat,r<m/\sU n m=some (r:Int):=by
 have h1:=D6 n (b:=(m:Int)) (by omega);have h2 : -(m:Int)<Int.tmod n m:=by
  rcases (show n<0∨0<=n by omega) with h | h
  ·have:=D6 (-n) (b:=(m:Int)) (by omega);rw [Int.neg_tmod] at this;omega
  ·have:=D7 (m:Int) h;omega
 refine⟨(Int.tmod (Int.tmod n m+m) m).toNat,?_,?_⟩
 ·have h3:=D6 (Int.tmod n m+m) (b:=(m:Int)) (by omega);have h4:=D7 (a:=Int.tmod n m+m) (m:Int) (by omega);omega
 ·unfold sU;have h4:=D7 (a:=Int.tmod n m+m) (m:Int) (by omega);rw [show decide ((m:Int)<1)=false by simp; omega,show ((m:Int) != 0)=true by simp; omega,qq (by omega) (by omega),Int.toNat_of_nonneg h4];rfl
theorem IU (h:n<1000000000):Bm (cL n)=some ((n:Int),false):=by
 unfold Bm;have hl:(cL n).toList=decDigits n:=by rw [vc,nx]
 have hs:(cL n).size<=140737488355328:=by
  have h1:(cL n).size=(itoa n).length:=by simp [cL,ByteArray.size]
  have:=yE n 9 (by omega);rw [h1,nx]; omega
 rw [show Nat.ble (cL n).size 140737488355328=true from E1 hs,hl,Fg (by omega)];rfl
theorem DI {k:Int} (O:k=30∨k=31∨k=32) (h:n<100):kj ⟨k,cL n⟩=some n:=by
 have h1:qw k=some true:=by rcases O with rfl | rfl | rfl <;> (unfold qw; rfl)
 unfold kj;rw [h1];simp only [ax,IU (show n<1000000000 by omega),r9 (show n<1000000000 by omega)];rw [show decide ((n:Int)<0)=false by simp,show decide ((99:Int)<(n:Int))=false by simp; omega];simp
theorem LE {k:Int} (O:k=30∨k=31∨k=32) (h:n<100):ff ⟨k,cL n⟩=some true:=by
 have h1:qw k=some true:=by rcases O with rfl | rfl | rfl <;> (unfold qw; rfl)
 unfold ff;rw [h1,DI O h];simp
noncomputable def Gi (r:aN) (n:Nat):ae:=⟨if r.f then 32 else 31,cL n⟩
theorem Jr {l:List aN} (h:n<l.length) (h100:n<100):jQ l n=some (Gi l[n] n):=by
 unfold jQ;rw [show decide ((n:Int)<0)=false by simp,show decide (((l.length:Int):Int)<=(n:Int))=false by simp; omega,show decide ((99:Int)<(n:Int))=false by simp; omega,bm h,r9 (by omega)];simp only [ax,cond_false];unfold qY Gi;cases l[n].f <;> simp
theorem Jw (s:ByteArray):s.toList.length=s.size:=by rw [ByteArray.toList_eq]; rfl
theorem Ja (c:UInt8) (r:List UInt8) (n:Nat):cM (c::r) n=if (decide (48<=c.toNat)&&decide (c.toNat<=57))=true then cM r (10*n+(c.toNat-48)) else -1:=rfl
theorem KT:cp.toList=[]:=by rw [ByteArray.toList_eq]
theorem Km (s:ByteArray):lf s=some (w9 s.toList):=by
 have hsz:=Jw s;have j3t:di s true=some (-1):=by unfold di; rfl
 have j3f:s.size<=9->di s false=some (cM s.toList 0):=fun h9=>by
  unfold di;simp only [cond_false];have key:∃ r,loop (fun s_1:Int×Int=>gP s s_1.1 s_1.2) (0,0)=some r/\Fl.el r (fun s=>gO s) (fun y=>some y)=some (cM s.toList 0):=?_
  ·obtain⟨r,h1,h2⟩:=key;rw [h1]; exact h2
  refine sa (fun k st=>∃ m:Nat,st=((m:Int),(k:Int))/\cM (s.toList.drop k) m=cM s.toList 0/\m<10 ^ k)
   (fun r=>Fl.el r (fun s=>gO s) (fun y=>some y)=some (cM s.toList 0)) s.size (fun k st O hI=>?_) (fun st hI=>?_) ⟨0,rfl,rfl,by simp⟩
  ·obtain⟨m,rfl,e,hm⟩:=hI;have hk':k<s.toList.length:=by omega
   rw [LW hk'] at e;unfold gP;rw [show decide ((k:Int)<(s.size:Int))=true by simpa using O,bm hk'];simp only [cond_true,ax];have hp:(10:Nat) ^ k<=10 ^ 8:=Cz (by omega) (by omega);have hq:(10:Nat) ^ 8=100000000:=rfl;have hu:=(s.toList[k]).toNat_lt;rw [Ja] at e;by_cases h48:((s.toList[k]).toNat:Int)<48
   ·rw [show decide (((s.toList[k]).toNat:Int)<48)=true by simpa using h48];rw [if_neg (by simp; omega)] at e;exact .inr ⟨_,rfl,by rw [<- e]; rfl⟩
   ·rw [show decide (((s.toList[k]).toNat:Int)<48)=false by simpa using h48];by_cases h57:(57:Int)<((s.toList[k]).toNat:Int)
    ·rw [show decide ((57:Int)<((s.toList[k]).toNat:Int))=true by simpa using h57];rw [if_neg (by simp; omega)] at e;exact .inr ⟨_,rfl,by rw [<- e]; rfl⟩
    ·rw [show decide ((57:Int)<((s.toList[k]).toNat:Int))=false by simpa using h57];rw [if_pos (by simp; omega)] at e;simp only [cond_false];have hw:IntKind.u8.wrap (((s.toList[k]).toNat:Int)-48)=(((s.toList[k]).toNat-48:Nat):Int):=by rw [IntKind.wrap_u8]; omega
     rw [hw,show IntKind.i64.wrap (10*(m:Int))=((10*m:Nat):Int) from (qq (by omega) (by omega)).trans (by omega),show IntKind.i64.wrap (((s.toList[k]).toNat-48:Nat):Int)=(((s.toList[k]).toNat-48:Nat):Int) from qq (by omega) (by omega),
      qq (by omega) (by omega),qq (by omega) (by omega)]
     exact .inl ⟨_,rfl,10*m+((s.toList[k]).toNat-48),by simp,e,by rw [Nat.pow_succ]; omega⟩
  ·obtain⟨m,rfl,e,hm⟩:=hI;rw [<- hsz,GM] at e;unfold gP;rw [show decide ((s.size:Int)<(s.size:Int))=false by simp];exact⟨_,rfl,by simp only [Fl.el,gO]; rw [<- e]; rfl⟩
 unfold lf w9;have hz:(s.toList==cp.toList)=decide (s.toList=[]):=by rw [KT]; cases s.toList <;> rfl
 rw [hz];by_cases h0:s.toList=[]
 ·rw [if_pos (.inl h0),decide_eq_true h0]; exact j3t
 ·rw [decide_eq_false h0];simp only [cond_false];by_cases h9:9<s.toList.length
  ·rw [if_pos (.inr (.inl h9)),show decide ((9:Int)<(s.size:Int))=true by simp; omega]; exact j3t
  ·rw [show decide ((9:Int)<(s.size:Int))=false by simp; omega];have hl:0<s.toList.length:=List.length_pos_iff.2 h0;have h1:bu s.toList (0:Int)=some (s.toList.getD 0 0):=by
    have:=bm hl;simp only [Int.natCast_zero] at this;rw [this,LX,bA hl]; rfl
   rw [h1];simp only [cond_false,ax];by_cases h48:s.toList.getD 0 0=48
   ·rw [h48,show (((48:UInt8).toNat:Int)==48)=true from rfl];simp only [cond_true,true_and];have hq:(!(s.toList==(ByteArray.mk #[48]).toList))=decide (s.toList≠[48]):=by rw [show (ByteArray.mk #[48]).toList=[48] from by rw [ByteArray.toList_eq]]; by_cases h:s.toList=[48] <;> simp [h]
    rw [hq];by_cases h:s.toList=[48]
    ·rw [decide_eq_false (fun h2=>h2 h),j3f (by omega),if_neg (by rintro (h2 | h2 | h2); exact h0 h2; exact h9 h2; exact h2 h)]
    ·rw [decide_eq_true h,if_pos (.inr (.inr h))]; exact j3t
   ·have h48':((s.toList.getD 0 0).toNat:Int)≠48:=fun h=>h48 (UInt8.toNat_inj.1 (by have:(48:UInt8).toNat=48:=rfl; omega));rw [show (((s.toList.getD 0 0).toNat:Int)==48)=false by simpa using h48'];simp only [cond_false];rw [j3f (by omega),if_neg (by rintro (h2 | h2 | h2); exact h0 h2; exact h9 h2; exact h48 h2.1)]
def F7 (k:ae):Int:=if 30<=k.v/\k.v<=32 then MH 99 k.x.toList else -1
theorem ta (k:ae):iT k=some (F7 k):=by
 unfold iT F7 MH;rw [Km];simp only [ax];unfold iG;have:=Mq k.x.toList;by_cases h1:30<=k.v <;> by_cases h2:k.v<=32 <;> by_cases h3:w9 k.x.toList<=99 <;> simp [h1,h2,h3]
end
section
open Go.Lib hiding intOf
section
variable {σ ρ α:Type} {B:σ->Option (Fl σ ρ)}
theorem tx (st:Nat->σ) (m:Nat) {s0:σ} (h0:s0=st 0) {r:ρ} (hgo:∀ k,k<m->B (st k)=some (.go (st (k+1)))) (hout:B (st m)=some (.out r)):loop B s0=some r:=by
 subst h0;exact wT (fun k s=>s=st k) r m (fun k s O hs=>.inl ⟨st (k+1),by rw [hs]; exact hgo k O,rfl⟩) (fun s hs=>by rw [hs]; exact hout) rfl
theorem vj {xs:List α} (p:α->Bool) (st:Nat->σ) {s0:σ} (h0:s0=st 0) {y:Nat->α->ρ} {n:ρ} (hgo:∀ k x,xs[k]? = some x->p x=false->B (st k)=some (.go (st (k+1))))
  (hy:∀ k x,xs[k]? = some x->p x=true->B (st k)=some (.out (y k x))) (hn:B (st xs.length)=some (.out n)) :
  (∃ k x,xs[k]? = some x/\p x=true/\(∀ j z,j<k->xs[j]? = some z->p z=false)/\loop B s0=some (y k x))∨(∀ z∈xs,p z=false)/\loop B s0=some n:=by
 by_cases h:xs.findIdx p<xs.length
 ·have e:=bA h;have hp:=List.findIdx_getElem (w:=h);have hb:∀ j z,j<xs.findIdx p->xs[j]? = some z->p z=false:=fun j z hj hz=>by
   have:=HU hj;obtain⟨h1,h2⟩:=bS.1 hz;rw [h2] at this; simpa using this
  refine .inl ⟨_,_,e,hp,hb,tx st _ h0 (fun k O=>?_) (hy _ _ e hp)⟩;have hk2:k<xs.length:=by omega
  exact hgo k _ (bA hk2) (hb k _ O (bA hk2))
 ·have hb:∀ j z,xs[j]? = some z->p z=false:=fun j z hz=>by
   obtain⟨h1,h2⟩:=bS.1 hz;have:=HU (p:=p) (xs:=xs) (i:=j) (by omega);rw [h2] at this; simpa using this
  refine .inr ⟨fun z hz=>?_,tx st xs.length h0 (fun k O=>hgo k _ (bA O) (hb k _ (bA O))) hn⟩;obtain⟨i,hi⟩:=iD.1 hz;exact hb i z hi
theorem BQ {xs:List α} (p:α->Bool) (st:Nat->σ) {s0:σ} (h0:s0=st 0) {y n:ρ} (hgo:∀ k x,xs[k]? = some x->p x=false->B (st k)=some (.go (st (k+1))))
  (hy:∀ k x,xs[k]? = some x->p x=true->B (st k)=some (.out y)) (hn:B (st xs.length)=some (.out n)):loop B s0=some (if xs.any p then y else n):=by
 rcases vj p st h0 (y:=fun _ _=>y) hgo hy hn with⟨k,x,h1,h2,_,h3⟩|⟨h1,h2⟩
 ·rw [if_pos (AR.2 ⟨x,aO h1,h2⟩)]; exact h3
 ·rw [if_neg (fun h=>by obtain⟨x,hx,e⟩:=AR.1 h; rw [h1 x hx] at e; cases e)]; exact h2
theorem em {xs:List α} (st:Nat->σ) {s0:σ} (h0:s0=st 0) {r:ρ} (hgo:∀ k x,xs[k]? = some x->B (st k)=some (.go (st (k+1)))) (hout:B (st xs.length)=some (.out r)):loop B s0=some r :=
 tx st xs.length h0 (fun k O=>hgo k _ (bA O)) hout
theorem iq {β γ:Type} {m:Option β} {v:β} {f:β->Option γ} {y:Option γ} (h:m=some v) (k:f v=y):m.bind f=y:=by subst h; exact k
end
theorem bx {α:Type} (xs:List α) (k:Nat):bu xs (k:Int)=xs[k]?:=by simp [bu]
theorem dlt {k n:Nat} (h:k<n):decide ((k:Int)<(n:Int))=true:=decide_eq_true (by omega)
theorem Hm {k n:Nat} (h:¬ k<n):decide ((k:Int)<(n:Int))=false:=decide_eq_false (by omega)
theorem m9 {α:Type} {xs:List α} {k:Nat} {x:α} (h:xs[k]? = some x):decide ((k:Int)<(xs.length:Int))=true:=dlt (bS.1 h).1
theorem bZ (n:Nat):decide ((n:Int)<(n:Int))=false:=Hm (Nat.lt_irrefl _)
theorem cH {k:Nat} (h:k<=9223372036854775806):IntKind.i64.wrap ((k:Int)+1)=((k+1:Nat):Int):=by rw [qq (by omega) (by omega)]; omega
theorem aY {α:Type} {xs:List α} {k:Nat} {x:α} (h:xs[k]? = some x):k<xs.length:=(bS.1 h).1
theorem bV {α:Type} {xs:List α} {k:Nat} {x:α} (h:xs[k]? = some x):xs.take (k+1)=xs.take k++[x]:=by
 rw [List.take_add_one,h]; rfl
theorem vN {α:Type} (p:α->Bool) (xs:List α) (k:Nat):((xs.take k).filter p).length<=xs.length :=
 cC (Ea _ _) (by rw [je]; omega)
theorem Lm {α:Type} {xs:List α} {k:Nat} {x:α} (h:xs[k]? = some x):xs.set k x=xs:=by
 obtain⟨h1,h2⟩:=bS.1 h;rw [<- h2]; exact List.set_getElem_self h1
def Rm (n:Nat):Prop:=n<=1000000000
theorem vA {α:Type} {xs:List α} {a:Nat} (h:a<=xs.length):pU xs (a:Int) (xs.length:Int)=some (xs.drop a):=by
 rw [It h (bX _),gz]
theorem qo {α:Type} {xs:List α} {a:Nat} (h:a<=xs.length):pU xs 0 (a:Int)=some (xs.take a):=by
 have:=It (xs:=xs) (bT a) h;rwa [D8] at this
theorem Cr {z:Int} (h1 : -1000000000000<=z) (h2:z<=1000000000000):IntKind.i64.wrap z=z:=qq (by omega) (by omega)
end
section
open Go.Lib hiding intOf
structure cx (l:List Int) (at_:Int):Prop where
 low:0<=at_
 high:at_<=l.length
 len:l.length<=400
theorem dJ {l:List Int} {i:Int} (h:cx l i) {n:Int} (h1:1<=n) (h2:n<=1000000000):Ok (cj ⟨l,i⟩ n) fun r=>0<=r.1/\r.1<n/\cx r.2.L r.2.r1:=by
 unfold cj;refine aE (fun h3=>ai ⟨by omega,by omega,h⟩) (fun h3=>?_);have h3:i<l.length:=by simpa using h3
 have:=h.low; have:=h.high; have:=h.len;dsimp only;rw [show IntKind.i64.wrap (i+1)=i+1 from qq (by omega) (by omega),qq (by omega) (by omega)];refine yo (by simpa using h.low) (by simpa using h3) fun v _ _=>?_;obtain⟨m,rfl⟩:∃ m:Nat,n=m:=⟨n.toNat,by omega⟩;obtain⟨r,hr,e⟩:=KR v (m:=m) (by omega) (by omega);exact aH e (ai ⟨by simp,by simp; omega,⟨by simp; omega,by simp; omega,h.len⟩⟩)
theorem MX {l:List Int} {i:Int} (h:cx l i) {ws:List ByteArray} (h1:1<=ws.length) (h2:ws.length<=1000):Ok (uj ⟨l,i⟩ ws) fun r=>r.1∈ws/\cx r.2.L r.2.r1:=by
 unfold uj;refine aD (dJ h (by omega) (by omega)) fun r hr=>yo hr.1 hr.2.1 fun v _ hv=>ai ⟨hv,hr.2.2⟩
end
section
open Go.Lib hiding intOf
def ZZ (rs:List Bool):Nat->Nat
 | 0=>0
 | a+1=>if rs[a]? = some true then ZZ rs a else a+1
def FH (rs:List Bool):Nat->Nat->Nat
 | 0,b=>b
 | f+1,b=>if rs[b]? = some true then FH rs f (b+1) else b
theorem Be (rs:List Bool) (a:Nat):ZZ rs (a+1)=if rs[a]? = some true then ZZ rs a else a+1:=rfl
theorem BH (rs:List Bool) (f b:Nat):FH rs (f+1) b=if rs[b]? = some true then FH rs f (b+1) else b:=rfl
theorem DE (rs:List Bool):∀ a,ZZ rs a<=a
 | 0=>bX _
 | a+1=>by
  have:=DE rs a;unfold ZZ;split <;> omega
theorem Kx (rs:List Bool):∀ f b,b<=FH rs f b/\FH rs f b<=b+f
 | 0,b=>⟨bX _,bX _⟩
 | f+1,b=>by
  have:=Kx rs f (b+1);unfold FH;split <;> omega
def blk (rs:List Bool) (n:Nat):Nat×Nat:=if rs[n]? = some true then (ZZ rs n,FH rs (rs.length-(n+1)) (n+1)) else (n,n+1)
theorem G6 {rs:List Bool} {n:Nat} (h:n<rs.length):(blk rs n).1<=n/\n<(blk rs n).2/\(blk rs n).2<=rs.length:=by
 have h1:=DE rs n;have h2:=Kx rs (rs.length-(n+1)) (n+1);unfold blk;split <;> simp only [] <;> omega
theorem uc {rs:List Bool} {n:Nat} (h:rs[n]? = some false):blk rs n=(n,n+1):=by simp [blk,h]
def aZ (l:List aN):List Bool:=l.map (·.f)
theorem kZ {l:List aN} {n:Nat} (h:n<l.length):(aZ l)[n]? = some l[n].f:=by simp [aZ,h]
theorem DN {l:List aN} {n:Nat} (h:n<l.length) (hl:l.length<=1000000):oG l n=some (((blk (aZ l) n).1:Int),((blk (aZ l) n).2:Int)):=by
 unfold oG;rw [show decide ((n:Int)<0)=false by simp,show decide (((l.length:Int):Int)<=(n:Int))=false by simp; omega];simp only [cond_false,ax];have hr:=kZ h;cases hb:l[n].f with
 | false =>
  rw [hb] at hr;have h1:loop (fun s:Int=>fw l n s) (n:Int)=some (n:Int):=lJ (by
   unfold fw; rw [bm h]; simp only [ax,hb,cond_false])
  have h2:loop (fun s:Int=>fv l n s) ((n:Int)+1)=some ((n:Int)+1):=lJ (by
   unfold fv; rw [bm h]; simp only [ax,hb,cond_false])
  rw [h1];unfold lT lS;rw [ax,qq (by omega) (by omega),h2,uc hr];rfl
 | true =>
  rw [hb] at hr;have h1:loop (fun s:Int=>fw l n s) (n:Int)=some ((ZZ (aZ l) n:Nat):Int):=by
   refine wT (I:=fun k s=>∃ a:Nat,a+k=n/\s=(a:Int)/\ZZ (aZ l) a=ZZ (aZ l) n) _ n ?_ ?_ ⟨n,rfl,rfl,rfl⟩
   ·rintro k _ O ⟨a,ha,rfl,e⟩;unfold fw;obtain⟨c,rfl⟩:∃ c,a=c+1:=⟨a-1,by omega⟩;have hc:c<l.length:=by omega
    rw [bm h,show decide ((0:Int)<((c+1:Nat):Int))=true by simp <;> omega,qq (by omega) (by omega),show (((c+1:Nat):Int)-1)=(c:Int) by omega,bm hc];simp only [cond_true,ax,hb];have hr2:=kZ hc;rw [Be,hr2] at e;cases hb2:l[c].f with
    | true=>rw [hb2,if_pos rfl] at e; exact .inl ⟨_,rfl,c,by omega,rfl,e⟩
    | false=>rw [hb2,if_neg (by simp)] at e; right; rw [<- e]; rfl
   ·rintro _ ⟨a,ha,rfl,e⟩;obtain rfl:a=0:=by omega
    unfold fw;rw [bm h,<- e];simp only [ax,hb,cond_true];rfl
  have h2:loop (fun s:Int=>fv l n s) ((n+1:Nat):Int)=some ((FH (aZ l) ((aZ l).length-(n+1)) (n+1):Nat):Int):=by
   have hlen:(aZ l).length=l.length:=by simp [aZ]
   rw [hlen];refine wT (I:=fun k s=>∃ a:Nat,a=n+1+k/\a<=l.length/\s=(a:Int)/\FH (aZ l) (l.length-a) a=FH (aZ l) (l.length-(n+1)) (n+1)) _ (l.length-(n+1)) ?_ ?_ ⟨n+1,rfl,h,rfl,rfl⟩
   ·rintro k _ O ⟨a,ha,hal,rfl,e⟩;unfold fv;have hc:a<l.length:=by omega
    rw [bm h,show decide ((a:Int)<(l.length:Int))=true by simp; omega,bm hc,qq (by omega) (by omega)];simp only [cond_true,ax,hb];have hr2:=kZ hc;rw [show l.length-a=(l.length-(a+1))+1 by omega] at e;rw [BH,hr2] at e;cases hb2:l[a].f with
    | true=>rw [hb2,if_pos rfl] at e; exact .inl ⟨_,rfl,a+1,by omega,by omega,by simp,e⟩
    | false=>rw [hb2,if_neg (by simp)] at e; right; rw [<- e]; rfl
   ·rintro _ ⟨a,ha,hal,rfl,e⟩;obtain rfl:a=l.length:=by omega
    unfold fv;rw [yh] at e;rw [bm h,<- e];simp [FH,hb]
  rw [h1];simp only [ax];unfold lT lS;rw [qq (by omega) (by omega),show ((n:Int)+1)=((n+1:Nat):Int) by omega,h2];simp [blk,hr]
structure E7 (ring:Bool) (k:Nat) (b:Int) (a:dd):Prop where
 low:0<=a.N
 cell:a.b1=true->a.N<4
 rule:a.b1=false->a.N<b
 pick:a.u1=true->ring=false/\0<k
 low2:0<=a.t1
 cell2:a.b1=true->a.t1<4
 rule2:a.b1=false->a.t1<b
 none:a.u1=false->a.t1=0
structure GZ (b:Int) (r:aN):Prop where
 asks:r.c.length<=3
 each:∀ k a,r.c[k]? = some a->E7 r.f k b a
 ring:r.f=true->r.n=5/\0<=r.C/\r.C<=16
 plain:r.f=false->1<=r.n/\r.n<=4/\0<=r.C/\r.C<=5
def CJ (rs:List Bool) (i:Nat):Nat:=if rs[i]? = some true then (blk rs i).2 else i
structure aV (l:List aN):Prop where
 low:1<=l.length
 high:l.length<=8
 each:∀ i r,l[i]? = some r->GZ (CJ (aZ l) i) r
def GV (ring:Bool) (b k:Int) (ks:List dd):Fl (Int×List Int×Int×List dd) (List Int×Int×List dd)->Prop
 | .go s=>s.1=k-1/\cx s.2.1 s.2.2.1/\∃ a,E7 ring ks.length b a/\s.2.2.2=ks++[a]
 | .out _=>False
section
variable {ring:Bool} {b k:Int} {ks:List dd} {cell:Bool} {most n:Int} {l:List Int} {i:Int}
theorem Q7 {pick:Bool} {e:Int} (ha:E7 ring ks.length b ⟨cell,pick,n,e⟩) (hd:cx l i) (O:1<=k/\k<=3) (hl:ks.length<=3):Ok (k7 k ks cell n l i pick e) (GV ring b k ks):=by
 unfold k7 qF;exact bY (du (by simp; omega)) (ai ⟨qq (by omega) (by omega),hd,_,ha,rfl⟩)
theorem Q8 {g:Bool} (hg:g=true->ring=false/\0<ks.length) (hn:0<=n/\n<most) (hc:cell=true->most=4) (hr:cell=false->most=b) (hm:1<=most/\most<=8) (hd:cx l i) (O:1<=k/\k<=3) (hl:ks.length<=3) :
  Ok (jk k ks cell most n g l i) (GV ring b k ks):=by
 unfold jk;refine aE (fun e=>aD (dJ hd (by omega) (by omega)) fun r hr2=>Q7 ⟨hn.1,fun h=>?_,fun h=>?_,fun _=>hg e,hr2.1,fun h=>?_,fun h=>?_,fun h=>by cases h⟩ hr2.2.2 O hl)
  (fun e=>Q7 ⟨hn.1,fun h=>?_,fun h=>?_,fun h=>(by cases h),by simp,fun h=>(by simp),fun h=>?_,fun h=>rfl⟩ hd O hl)
 all_goals first
  | (have:=hc h; simp only []; omega)
  | (have:=hr h; simp only []; omega)
theorem Q9 (hn:0<=n/\n<most) (hc:cell=true->most=4) (hr:cell=false->most=b) (hm:1<=most/\most<=8) (hd:cx l i) (O:1<=k/\k<=3) (hl:ks.length<=3) :
  Ok (k8 ring k ks cell most l i n) (GV ring b k ks):=by
 unfold k8;refine aE (fun e=>aE (fun e2=>aD (dJ hd (by omega) (by omega)) fun r hr2=>Q8 (fun _=>⟨by simpa using e,by simpa using e2⟩) hn hc hr hm hr2.2.2 O hl) (fun e2=>?_)) (fun e=>?_)
 all_goals exact Q8 (fun h=>by cases h) hn hc hr hm hd O hl
theorem Ra (hc:cell=true->most=4) (hr:cell=false->most=b) (hm:1<=most/\most<=8) (hd:cx l i) (O:1<=k/\k<=3) (hl:ks.length<=3) :
  Ok (lc ring k ks l i cell most) (GV ring b k ks):=by
 unfold lc;refine aD (dJ hd (by omega) (by omega)) fun r h1=>?_;have h8:∀ {g:Bool} {l2:List Int} {i2:Int},cx l2 i2->Ok (k9 ring k ks cell most r g l2 i2) (GV ring b k ks):=fun {g l2 i2} h2=>by
  unfold k9;refine aE (fun _=>aD (dJ h2 (by omega) (by omega)) fun q h3=>?_) (fun _=>Q9 ⟨h1.1,h1.2.1⟩ hc hr hm h2 O hl);have:=h3.1; have:=h3.2.1;rw [show IntKind.i64.wrap (most-1)=most-1 from qq (by omega) (by omega),qq (by omega) (by omega)];exact Q9 ⟨by omega,by omega⟩ hc hr hm h3.2.2 O hl
 refine aE (fun _=>aD (dJ h1.2.2 (by omega) (by omega)) fun q h3=>h8 h3.2.2) (fun _=>h8 h1.2.2)
theorem Rb (hb:0<=b/\b<=8) (hd:cx l i) (O:1<=k/\k<=3) (hl:ks.length<=3):Ok (jJ b ring k l i ks) (GV ring b k ks):=by
 unfold jJ;refine aE (fun _=>aD (dJ hd (by omega) (by omega)) fun r h1=>?_) (fun e=>by simp at e; omega);have h10:∀ {c:Bool},(c=false->1<=b)->Ok (jG b ring k ks r.2.L r.2.r1 c) (GV ring b k ks):=fun {c} h=>by
  unfold jG;exact aE (fun e=>by subst e; exact Ra (fun _=>rfl) (fun h=>by cases h) ⟨by omega,by omega⟩ h1.2.2 O hl) (fun e=>by subst e; exact Ra (fun h=>by cases h) (fun _=>rfl) ⟨h rfl,hb.2⟩ h1.2.2 O hl)
 exact aE (fun _=>h10 fun h=>by cases h) (fun _=>h10 fun h=>by simp at h; omega)
end
def N9 (l:List aN) (n:Nat) (ring:Bool) (b:Int):Fl (List aN×Int×List Int×Int) (List aN×List Int×Int)->Prop
 | .go s=>(∃ r,GZ b r/\r.f=ring/\s.1=l.set n r)/\s.2.1=n+1/\cx s.2.2.1 s.2.2.2
 | .out _=>False
theorem NY {l:List aN} {n:Nat} (h:n<l.length) (hl:l.length<=8) {b:Int} (hb:0<=b/\b<=8) {ring:Bool} {d:List Int} {i:Int} (hd:cx d i) {f c:Int}
  (h5:ring=true->f=5/\0<=c/\c<=16) (h6:ring=false->1<=f/\f<=4/\0<=c/\c<=5):Ok (jH l n b ring d i f c) (N9 l n ring b):=by
 unfold jH;refine aD (dJ hd (by omega) (by omega)) fun r h1=>?_;refine bz (fun k s=>s.1=r.1-k/\s.2.2.2.length=k/\cx s.2.1 s.2.2.1/\∀ j a,s.2.2.2[j]? = some a->E7 ring j b a) (fun q=>q.2.2.length<=3/\cx q.1 q.2.1/\∀ j a,q.2.2[j]? = some a->E7 ring j b a) r.1.toNat
  ⟨by simp,rfl,h1.2.2,fun j a e=>by simp at e⟩ (fun k s O hI=>?_) (fun q hq=>?_)
 ·obtain⟨e1,e2,e3,e4⟩:=hI;have:=h1.1; have:=h1.2.1;by_cases hz:(0:Int)<s.1
  ·refine (Rb hb e3 ⟨by omega,by omega⟩ (by omega)).mono fun y hy=>?_;cases y with
   | out q=>exact hy.elim
   | go s2 =>
    obtain⟨g1,g2,a,g3,g4⟩:=hy;refine⟨by omega,by omega,by rw [g4]; simp; omega,g2,fun j x hx=>?_⟩;rw [g4] at hx;by_cases hj:j<s.2.2.2.length
    ·rw [m4 hj] at hx; exact e4 j x hx
    ·rw [pQ (by omega)] at hx;obtain rfl:j=s.2.2.2.length:=by
      rcases dZ s.2.2.2.length j with h | h
      ·rw [uQ (by simp; omega)] at hx; cases hx
      ·omega
     simp at hx; subst hx; exact g3
  ·unfold jJ;rw [show decide ((0:Int)<s.1)=false by simpa using hz];exact ai ⟨by simp only []; omega,e3,e4⟩
 ·unfold nA qE;refine yo (by omega) (by omega) fun v _ _=>ai ⟨⟨⟨ring,q.2.2,f,c⟩,⟨hq.1,hq.2.2,h5,h6⟩,rfl,by simp⟩,qq (by omega) (by omega),hq.2.1⟩
theorem Rc {l:List aN} {n:Nat} (h:n<l.length) (hl:l.length<=8) {d:List Int} {i:Int} (hd:cx d i) (l0:List aN) (h0:l0.length=l.length):Ok (jK l0 l n d i) (N9 l n l[n].f (CJ (aZ l) n)):=by
 unfold jK;rw [show decide ((n:Int)<(l0.length:Int))=true by simp; omega,DN h (by omega)];simp only [cond_true,ax];rw [bm h];simp only [ax];have hb:=G6 (rs:=aZ l) (n:=n) (by simpa [aZ] using h);have hlen:(aZ l).length=l.length:=by simp [aZ]
 have h14:∀ {b:Int},0<=b/\b<=8->Ok (jI l n d i b) (N9 l n l[n].f b):=fun {b} hb=>by
  unfold jI;rw [bm h,ax];refine aD (dJ hd (by omega) (by omega)) fun r h1=>aD (dJ h1.2.2 (by omega) (by omega)) fun q h2=>?_;have:=h1.1; have:=h1.2.1; have:=h2.1; have:=h2.2.1;rw [qq (by omega) (by omega)];unfold pc;refine aE (fun e=>aD (dJ h2.2.2 (by omega) (by omega)) fun p h3=>yo h3.1 (by simpa using h3.2.1) fun v _ hv=>?_) (fun e=>?_)
  ·refine NY h hl hb h3.2.2 (fun _=>⟨rfl,?_⟩) (fun e2=>by rw [e] at e2; cases e2);simp only [cI,cJ,or_false] at hv;omega
  ·exact NY h hl hb h2.2.2 (fun e2=>by rw [e] at e2; cases e2) (fun _=>⟨by omega,by omega,by omega,by omega⟩)
 have hr:=kZ h;unfold CJ;rw [hr];cases e:l[n].f with
 | true=>rw [e] at h14; simp only [dC,cond_false,if_true]; exact h14 ⟨by omega,by omega⟩
 | false=>rw [e] at h14 hr; rw [uc hr]; simp only [nO,cond_true]; exact h14 ⟨by omega,by omega⟩
theorem Js {l:List aN} {n:Nat} {r:aN} (h:n<l.length) (e:r.f=l[n].f):aZ (l.set n r)=aZ l:=by
 unfold aZ;rw [List.map_set,e];apply List.ext_getElem (by simp);intro j h1 h2;by_cases hj:n=j
 ·subst hj; simp
 ·simp [hj]
theorem Lh {d:List Int} {i:Int} (hd:cx d i):Ok (sV ⟨d,i⟩) fun y=>aV y.1/\cx y.2.L y.2.r1:=by
 unfold sV;refine aD (dJ hd (by omega) (by omega)) fun r h1=>?_;have:=h1.1; have:=h1.2.1;rw [qq (by omega) (by omega)];refine bz (fun k s=>s.1.length=k/\s.2.1=2+r.1-k/\cx s.2.2.1 s.2.2.2) (fun q=>2<=q.1.length/\q.1.length<=8/\cx q.2.1 q.2.2) (2+r.1).toNat ⟨rfl,by simp,h1.2.2⟩ (fun k s O hI=>?_) (fun q hq=>?_)
 ·obtain⟨e1,e2,e3⟩:=hI;unfold pd;refine aE (fun e=>aD (dJ e3 (by omega) (by omega)) fun q h2=>bY (du (by simp; omega)) (ai ?_)) (fun e=>ai ?_)
  ·have e:(0:Int)<s.2.1:=by simpa using e
   exact⟨by omega,by simp [e1],by dsimp only; rw [qq (by omega) (by omega)]; omega,h2.2.2⟩
  ·have e:¬ (0:Int)<s.2.1:=by simpa using e
   exact⟨by dsimp only; omega,by dsimp only; omega,e3⟩
 ·obtain⟨q1,q2,q3⟩:=hq;unfold lN;refine bz (fun k s=>s.1.length=q.1.length/\s.2.1=k/\cx s.2.2.1 s.2.2.2/\aZ s.1=aZ q.1/\∀ j r,j<k->s.1[j]? = some r->GZ (CJ (aZ q.1) j) r) (fun p=>aV p.1/\cx p.2.1 p.2.2) q.1.length ⟨rfl,rfl,q3,rfl,fun j r h=>by omega⟩ (fun k s O hI=>?_) (fun p hp=>?_)
  ·obtain⟨e1,e2,e3,e4,e5⟩:=hI;by_cases hz:k<q.1.length
   ·have hz1:k<s.1.length:=by omega
    rw [e2];refine (Rc hz1 (by omega) e3 q.1 e1.symm).mono fun y hy=>?_;cases y with
    | out q=>exact hy.elim
    | go s2 =>
     obtain⟨⟨x,g1,g2,g3⟩,g4,g5⟩:=hy;refine⟨hz,by rw [g3]; simpa using e1,by rw [g4]; simp,g5,by rw [g3,Js hz1 g2]; exact e4,fun j r hj hr=>?_⟩;rw [g3] at hr;by_cases hjk:k=j
     ·subst hjk;rw [CF hz1] at hr;injection hr with hr; subst hr;rw [e4] at g1; exact g1
     ·rw [List.getElem?_set_ne hjk] at hr;exact e5 j r (by omega) hr
   ·unfold jK;rw [show decide ((s.2.1:Int)<(q.1.length:Int))=false by simp; omega];refine ai ⟨⟨by simp only []; omega,by simp only []; omega,fun j r hr=>?_⟩,e3⟩;rw [e4];exact e5 j r (by have:=(bS.1 hr).1; dsimp only at this; omega) hr
  ·unfold nz;exact ai hp
def BR (rs:List Bool) (i:Nat) (cell:Bool) (n:Int):Bool:=decide (0<=n)&&cond cell (decide (n<=15)) (decide (n<(CJ rs i:Int)))
theorem B4 {l:List aN} {i:Nat} (h:i<l.length) (hl:l.length<=1000000) (x:dd) (n:Int):sh l (i:Int) x n=some (BR (aZ l) i x.b1 n):=by
 unfold sh BR;cases x.b1 with
 | true =>
  rw [cond_true,cond_true];cases decide (0<=n) <;> rfl
 | false =>
  rw [cond_false,cond_false,DN h hl,ax];dsimp only;have hr:=kZ h;rw [bm h,ax];unfold CJ;rw [hr];cases hg:l[i].f with
  | true =>
   rw [if_pos rfl];unfold mN mM;cases decide (0<=n) <;> rfl
  | false =>
   rw [hg] at hr;rw [if_neg (by simp),uc hr];unfold mN mM;cases decide (0<=n) <;> rfl
def IT (rs:List Bool) (i:Nat) (ring first:Bool) (a:dd):Bool:=BR rs i a.b1 a.N&&cond a.u1 (!ring && !first&&BR rs i a.b1 a.t1) ((a.t1:Int)==0)
theorem vk {ρ:Type} {B:Int->Option (Fl Int ρ)} (n:Nat) (p:Nat->Bool) {y r:ρ} (hgo:∀ k,k<n->p k=false->B (k:Int)=some (.go ((k+1:Nat):Int))) (hy:∀ k,k<n->p k=true->B (k:Int)=some (.out y)) (hn:B (n:Int)=some (.out r)):loop B 0=some (if (List.range n).any p then y else r):=by
 have hx:∀ (k x:Nat),(List.range n)[k]? = some x->x=k/\k<n:=fun k x h=>by
  have O:=aY h;simp only [List.length_range] at O;rw [List.getElem?_range O] at h;exact⟨(bM h).symm,O⟩
 refine BQ (xs:=List.range n) p (fun k=>(k:Int)) rfl (fun k x h hp=>?_) (fun k x h hp=>?_) (by simpa using hn)
 ·obtain⟨rfl,O⟩:=hx k x h;exact hgo _ O hp
 ·obtain⟨rfl,O⟩:=hx k x h;exact hy _ O hp
def CQ (rs:List Bool) (i:Nat) (r:aN) (k:Nat):Bool:=match r.c[k]? with
 | some a=>!IT rs i r.f (((k:Nat):Int)==0) a
 | none=>false
def yq (rs:List Bool) (i:Nat) (r:aN):Bool:=!((List.range r.c.length).any (CQ rs i r))
def AL (rs:List Bool) (i:Nat) (r:aN) (low high most:Int):Bool:=!decide ((6:Int)<(r.c.length:Int)) && !decide (r.n<low) && !decide (high<r.n) && !decide (r.C<0) && !decide (most<r.C)&&yq rs i r
def Gh (rs:List Bool) (i:Nat) (r:aN):Bool:=cond r.f (AL rs i r 5 5 65535) (AL rs i r 1 4 999)
def O5 (l:List aN):Prop:=l.length<=1000/\∀ r∈l,r.c.length<=1000
theorem K9 {l:List aN} {i:Nat} (h:i<l.length) (hl:O5 l):loop (fun s:Int=>fx l (i:Int) l[i] s) 0=some (cond (yq (aZ l) i l[i]) (Fl.go ()) (Fl.out false)):=by
 have U:=hl.2 _ (dR h);have hB:=hl.1;have hstep:∀ k,(O:k<l[i].c.length)->fx l (i:Int) l[i] (k:Int)=some (cond (CQ (aZ l) i l[i] k) (.out (.out false)) (.go ((k+1:Nat):Int))):=fun k O=>by
  unfold CQ;rw [bA O];dsimp only;unfold fx IT ew;rw [dlt O,cond_true,bm O,ax,B4 h (by omega),B4 h (by omega),cH (by omega)];simp only [ax,bne];generalize (((k:Nat):Int)==0)=f;generalize ((l[i].c[k].t1:Int)==0)=z;generalize BR (aZ l) i l[i].c[k].b1 l[i].c[k].N=m1;generalize BR (aZ l) i l[i].c[k].b1 l[i].c[k].t1=m2;generalize l[i].c[k].u1=pk;generalize l[i].f=rg;cases pk <;> cases rg <;> cases f <;> cases m1 <;> cases m2 <;> cases z <;> rfl
 have e:=vk (B:=fun s:Int=>fx l (i:Int) l[i] s) l[i].c.length (CQ (aZ l) i l[i]) (y:=Fl.out false) (r:=Fl.go ()) (fun k O hp=>by rw [hstep k O,hp]; rfl) (fun k O hp=>by rw [hstep k O,hp]; rfl) (by unfold fx; rw [bZ]; rfl);rw [e];unfold yq;cases (List.range l[i].c.length).any (CQ (aZ l) i l[i]) <;> rfl
def CR (l:List aN) (k:Nat):Bool:=match l[k]? with
 | some r=>!Gh (aZ l) k r
 | none=>false
def Ak (l:List aN):Bool:=decide ((l.length:Int)<=24) && !((List.range l.length).any (CR l))
theorem Ab {l:List aN} (hl:O5 l):oH l=some (Ak l):=by
 have hB:=hl.1;unfold oH Ak;have hstep:∀ k,(O:k<l.length)->hU l (k:Int)=some (cond (CR l k) (.out (.out false)) (.go ((k+1:Nat):Int))):=fun k O=>by
  have hj:hS (k:Int) l[k]=some (cond ((cond l[k].f (!decide (l[k].n<5) && !decide (5<l[k].n) && !decide (l[k].C<0) && !decide (65535<l[k].C)) (!decide (l[k].n<1) && !decide (4<l[k].n) && !decide (l[k].C<0) && !decide (999<l[k].C)))) (.go ((k+1:Nat):Int)) (.out (.out false))):=by
   unfold hS dA po;rw [cH (by omega)];cases hrg:l[k].f
   ·cases decide (l[k].n<1) <;> cases decide (4<l[k].n) <;> cases decide (l[k].C<0) <;> cases decide (999<l[k].C) <;> rfl
   ·by_cases h5:l[k].n=5
    ·rw [show ((l[k].n:Int) != 5)=false by simp [h5],decide_eq_false (show ¬ l[k].n<5 by omega),decide_eq_false (show ¬ 5<l[k].n by omega)];cases decide (l[k].C<0) <;> cases decide (65535<l[k].C) <;> rfl
    ·rw [show ((l[k].n:Int) != 5)=true by simp [h5]];rcases (show l[k].n<5∨5<l[k].n by omega) with h | h
     ·rw [decide_eq_true h]; rfl
     ·rw [decide_eq_true h]; simp
  unfold CR;rw [bA O];dsimp only;unfold hU Gh AL;rw [dlt O,cond_true,bm O,ax,K9 O hl,ax];have hel:∀ z:Bool,(cond z (Fl.go ()) (Fl.out false):Fl Unit Bool).el (fun s=>hS (k:Int) l[k]) (fun y=>some (.out (.out y)))=cond z (hS (k:Int) l[k]) (some (.out (.out false))):=fun z=>by cases z <;> rfl
  rw [hel,hj];generalize yq (aZ l) k l[k]=z;generalize decide ((6:Int)<(l[k].c.length:Int))=d6;cases l[k].f
  ·simp only [cond_false];generalize decide (l[k].n<1)=d1;generalize decide (4<l[k].n)=d2;generalize decide (l[k].C<0)=d3;generalize decide (999<l[k].C)=d4;cases z <;> cases d6 <;> cases d1 <;> cases d2 <;> cases d3 <;> cases d4 <;> rfl
  ·simp only [cond_true];generalize decide (l[k].n<5)=d1;generalize decide (5<l[k].n)=d2;generalize decide (l[k].C<0)=d3;generalize decide (65535<l[k].C)=d4;cases z <;> cases d6 <;> cases d1 <;> cases d2 <;> cases d3 <;> cases d4 <;> rfl
 rw [vk (B:=fun s:Int=>hU l s) l.length (CR l) (y:=Fl.out false) (r:=Fl.go ()) (fun k O hp=>by rw [hstep k O,hp]; rfl) (fun k O hp=>by rw [hstep k O,hp]; rfl) (by unfold hU; rw [bZ]; rfl)];unfold pn;cases (List.range l.length).any (CR l) <;> simp [Fl.el]
theorem vl {l:List aN} (h:aV l):Ak l=true:=by
 unfold Ak;have h8:=h.high;rw [decide_eq_true (by omega),tF,uN,List.any_eq_false];intro i hi;have hi:=Eb.1 hi;unfold CR;have hg:=bA hi;rw [hg];dsimp only;have C:=h.each i l[i] hg;have ha:yq (aZ l) i l[i]=true:=by
  unfold yq;rw [uN,List.any_eq_false];intro k O;have O:=Eb.1 O;unfold CQ;have hka:=bA O;rw [hka];dsimp only;have U:=C.each k _ hka;generalize l[i].c[k]=a at U;unfold IT BR;have hn:=U.low;have he:=U.low2;rw [decide_eq_true hn,decide_eq_true he,tF,tF];have c1:cond a.b1 (decide (a.N<=15)) (decide (a.N<(CJ (aZ l) i:Int)))=true:=by
   cases hc:a.b1
   ·exact decide_eq_true (U.rule hc)
   ·have:=U.cell hc;exact decide_eq_true (by omega)
  have c2:cond a.b1 (decide (a.t1<=15)) (decide (a.t1<(CJ (aZ l) i:Int)))=true:=by
   cases hc:a.b1
   ·exact decide_eq_true (U.rule2 hc)
   ·have:=U.cell2 hc;exact decide_eq_true (by omega)
  rw [c1,c2,tF];cases hp:a.u1
  ·rw [U.none hp]; simp
  ·obtain⟨p1,p2⟩:=U.pick hp;rw [p1,show (((k:Nat):Int)==0)=false by simp; omega]; simp
 have hb:Gh (aZ l) i l[i]=true:=by
  have hl:=C.asks;unfold Gh AL;rw [ha,decide_eq_false (show ¬ (6:Int)<(l[i].c.length:Int) by omega)];cases hr:l[i].f
  ·obtain⟨q1,q2,q3,q4⟩:=C.plain hr;rw [cond_false,decide_eq_false (show ¬ l[i].n<1 by omega),decide_eq_false (show ¬ 4<l[i].n by omega),decide_eq_false (show ¬ l[i].C<0 by omega),decide_eq_false (show ¬ 999<l[i].C by omega)]; rfl
  ·obtain⟨q1,q2,q3⟩:=C.ring hr;rw [cond_true,decide_eq_false (show ¬ l[i].n<5 by omega),decide_eq_false (show ¬ 5<l[i].n by omega),decide_eq_false (show ¬ l[i].C<0 by omega),decide_eq_false (show ¬ 65535<l[i].C by omega)]; rfl
 rw [hb]; decide
theorem aV.bnd {l:List aN} (h:aV l):O5 l:=⟨by have:=h.high; omega,fun r hr=>by
 obtain⟨i,hi⟩:=iD.1 hr;have:=(h.each i r hi).asks; omega⟩
theorem OB (n:Int) {m:Int} (hm:0<m) (hm2:m<=1000000000):Ok (sU n m) fun r=>0<=r/\r<m:=by
 obtain⟨k,rfl⟩:∃ k:Nat,m=k:=⟨m.toNat,by omega⟩;obtain⟨r,hr,e⟩:=KR n (m:=k) (by omega) (by omega);exact⟨_,e,by omega,by omega⟩
end
section
set_option maxRecDepth 100000
set_option maxHeartbeats 4000000
variable (T:Nat->Prop) (L:World) (hT:TW T L)
include hT
noncomputable section
def nc:=some (true)
def cA (f:LO) (c:Int) (b:bp) (e:Bool):Option (Fl (LO×Int) (Fl (Unit) Bool)):=cond e (some (.out (.out false))) (some (.go ((dS aK b.d true f),IntKind.i64.wrap (c+1))))
def gt (f:ah) (e:LO) (c:Int) (b:bp) (h:(au×Bool)) (g:Bool):=cond b.m (cond (b.r1 != 0) (cA e c b true) (cA e c b false)) (cond (!(h.2)) (cond (b.r1 != 0) (cA e c b true) (cond (decide ((0:Int)<(b.k.length:Int))) (cA e c b true) (cond g ((nG f.s f.r b.d).bind fun i=>(i7 f.s i).bind fun j=>cA e c b (decide ((j.length:Int)<b.r1))) (cA e c b false)))) (cond (decide ((0:Int)<(b.k.length:Int))) (cA e c b true) (cond g ((nG f.s f.r b.d).bind fun l=>(i7 f.s l).bind fun n=>cA e c b (decide ((n.length:Int)<b.r1))) (cA e c b false))))
def ne (h:LU) (g:ah) (i:LF) (f:LO) (e:Int):=cond (decide (e<(i.length:Int))) ((bu i e).bind fun b=>(some ((cF aK b.d f).getD false)).bind fun j=>cond j (some (.out (.out false))) ((cu b.d).bind fun l=>cond l (some (.out (.out false))) ((l7 h b.d).bind fun m=>cond (!(m)) (some (.out (.out false))) (cond ((b.k.length:Int) != (b.q.length:Int)) (some (.out (.out false))) (cond (decide (b.r1<0)) (some (.out (.out false))) ((cm g.s b.d).bind fun c=>cond c.2 (cond (!(c.1.w)) (gt g f e b c (decide (c.1.t<g.r))) (gt g f e b c false)) (gt g f e b c false))))))) (some (.out (.go ())))
def jW (b:LU) (c:ah) (d:LF):=(loop (fun s:LO×Int=>ne b c d s.1 s.2) (([]:LO),0)).bind fun r=>Fl.el r (fun s=>nc) (fun y=>some (y))
theorem xY (hLv:dh T L) (f:LU) (b:ah) (j:LF) (o p:Value) (t u:Value) (ch:aF an T L o f) (ck:aF ac T L p b.i) (cl:aF aa T L t b.s) (cs:aF aB T L u j) (y:Bool) (B:jW f b j=some y):bg aR No 184 [o,.agg (aU b p t).toArray,u] L (fun v w'=>v = .bool y):=by
 refine en Tryz.func184 Tryz.ntmps184 hT fun a I=>?_;replace I:=((((I.fact bH (dh.dn hLv)).fS (aF.dn ch)).fS (aF.dn ck)).fS (aF.dn cl)).fS (aF.dn cs);unfold jW at B;refine kB I fun l d7 a w O I=>?_;refine am I fun a I=>?_;refine wl rfl (qu ad true a6.bool false I rfl fun m d8 a w O I=>?_);refine am I fun a I=>?_;refine aM (J:=fun a w=>St L No T 121 [] [] [bH] a w/\nc=some y) ?_ ?_
 ·refine am I fun a I=>?_;obtain⟨r1,cb,hMo1⟩:=bd B;refine bF _ (fun s a w=>∃ (h:LO) (g:Int) (x:AM) (G:Nat),(h,g)=s/\St L No T 121 [(0,o),(4,pt l 0),(7,.map (some m)),(14,u),(15,aj (j.length:Int)),(16,aj g)] [om m x G,.box l (aU b p t) 25] [aL an o f,uw x h,aL aB u j,aL ac p b.i,aL aa t b.s,bH] a w) cb ⟨_,_,_,_,rfl,I.mt [0,1] [4,0,1,3,2,5]⟩ ?_;rintro s a w f1 ⟨h,g,x,G,rfl,I⟩ B hf1;have B:ne f b j h g=some f1:=B;unfold ne at B;refine am I fun a I=>?_;refine aC ?_;rcases cd B with⟨b4,B⟩|⟨b4,B⟩
  ·refine am I fun a I=>?_;refine aC ?_;refine am I fun a I=>?_;obtain⟨e,a3,B⟩:=bd B;refine wl rfl (bn (R:=aB) I wE wF rfl rfl 2 rfl a3 rfl fun d0 dk d2 b5 a I=>?_);obtain⟨a1,a2,rfl,av,b0⟩:=b5;replace I:=(I.fS av).fS b0;refine kA I uS fun F d9 a w O I=>?_;refine go I fun a w I=>?_;refine aC ?_;refine io ?_;refine am I fun a I=>?_;obtain⟨c5,ag,B⟩:=bd B;obtain⟨d3,b6,b7⟩:=jr I ur c6 1 rfl 4 rfl (c:=(aX e.d)) (key:=e.d) rfl O1 (zc:=[.bool false]) rfl rfl ag;obtain rfl:=b6;refine wl rfl (ky (v:=.bool c5) I (b7 rfl rfl id) rfl rfl fun a I=>?_);refine am I fun a I=>?_;rcases cd B with⟨K,B⟩|⟨K,B⟩
   ·exact fz
   refine am I fun a I=>?_;obtain⟨e0,ak,B⟩:=bd B;refine wg I rfl rfl rfl K (bB I yx rfl rfl (da _ _ I.dlt e.d _ ak) fun _ w C a O U=>?_);obtain rfl:=C;have I:=eL U;refine am I fun a I=>?_;rcases cd B with⟨M,B⟩|⟨M,B⟩
   ·exact fz
   refine am I fun a I=>?_;obtain⟨e2,ao,B⟩:=bd B;refine wg I rfl rfl rfl M (bB I J8 rfl rfl (tU _ _ I.dlt I.g8 f e.d _ I.g3 _ ao) fun _ w C a O U=>?_);obtain rfl:=C;have I:=eL U;refine am I fun a I=>?_;rcases cd B with⟨b8,B⟩|⟨b8,B⟩
   ·exact fz
   refine am I fun a I=>?_;rcases cd B with⟨b9,B⟩|⟨b9,B⟩
   ·exact fz
   refine am I fun a I=>?_;rcases cd B with⟨bb,B⟩|⟨bb,B⟩
   ·exact fz
   refine am I fun a I=>?_;refine wl rfl (sN I ur c6 1 rfl 4 rfl (c:=(aX e.d)) (cv:=[.bool true]) (key:=e.d) (val:=true) rfl rfl rfl rfl rfl fun n H w O I=>?_);refine am I fun a I=>?_;obtain⟨a0,a4,B⟩:=bd B;refine kc I rM (bR _ _ I.dlt b.s e.d _ I.g8 _ a4) fun _ w C a O U=>?_;obtain⟨e3,d4,he,V⟩:=C;obtain rfl:=he.symm;have I:=qs U V;refine kA I eJ fun d1 dc a w O I=>?_;refine go I fun a w I=>?_;refine aM (J:=fun a w=>∃ (E:Bool),St L No T 121 [(0,o),(4,pt l 0),(7,.map (some m)),(9,pt F 0),(11,.bool a0.2),(12,.bool E),(14,u),(15,aj (j.length:Int)),(16,aj g)] [om m n H,.box l (aU b p t) 25,.box F (m7 e a1 a2) 202] [aL an o f,uw n (dS aK e.d true h),aL aB u j,aL ac p b.i,aL aa t b.s,aL ad a1 e.k,aL a6.str a2 e.q,bH] a w/\gt b h g e a0 E=some f1) ?_ ?_
   ·exact fz
   rintro a w ⟨E,I,B⟩;unfold gt at B;refine aM (J:=fun a w=>∃ (z:Bool),St L No T 121 [(0,o),(4,pt l 0),(7,.map (some m)),(14,u),(15,aj (j.length:Int)),(16,aj g),(119,.bool z)] [om m n H,.box l (aU b p t) 25] [aL an o f,uw n (dS aK e.d true h),aL aB u j,aL ac p b.i,aL aa t b.s,bH] a w/\cA h g e z=some f1) ?_ ?_
   ·refine dr [] I fun w hQ I=>?_;refine gE [0,1,2] I fun a I=>?_;rcases cd B with⟨bi,B⟩|⟨bi,B⟩
    ·refine gE [3,4,5,6,7,8,9,10,11] I fun a I=>?_;rcases cd B with⟨bl,B⟩|⟨bl,B⟩
     ·refine gE [12,13,14,15,16,17,18,19,20,21,22,23,24,25,26,27,28,29,30,31,32,33,34,35,36,37,38,39,40,41,42,43,44,45] I fun a I=>?_;refine eD ?_;exact fin
     refine gE [12,13,14,15,16,17,18,19,20,21,22,23,24,25,26,27,28,29,30,31,32,33,34,35,36,37,38,39,40,41,42,43,44,45] I fun a I=>?_;refine eD ?_;exact fin
    refine gE [3,4,5,6] I fun a I=>?_;rcases cd B with⟨bs,B⟩|⟨bs,B⟩
    ·refine gE [7,8,9,10,11] I fun a I=>?_;rcases cd B with⟨bt,B⟩|⟨bt,B⟩
     ·refine gE [12,13,14,15,16,17,18,19,20,21,22,23,24,25,26,27,28,29,30,31,32,33,34,35,36,37,38,39,40,41,42,43,44,45] I fun a I=>?_;refine eD ?_;exact fin
     refine gE [12,13,14,15,16,17,18,19,20,21,22] I fun a I=>?_;rcases cd B with⟨c1,B⟩|⟨c1,B⟩
     ·refine gE [23,24,25,26,27,28,29,30,31,32,33,34,35,36,37,38,39,40,41,42,43,44,45] I fun a I=>?_;refine eD ?_;exact fin
     refine gE [23,24,25,26,27,28,29] I fun a I=>?_;rcases cd B with⟨A,B⟩|⟨A,B⟩
     ·refine gE [30,31,32,33,34,35,36,37,38,39] I fun a I=>?_;obtain⟨c3,a5,B⟩:=bd B;refine cR (i:=40) rfl (by kernel_rfl) I rfl rfl rfl A (bB I H8 rfl rfl (vr _ _ I.dlt I.g7 b.s b.r e.d _ I.g4 _ a5) fun _ w C a O U=>⟨fq (O),?_⟩);obtain⟨e4,d5,he,W⟩:=C;obtain rfl:=he.symm;have I:=qs U W;have hL:=I;replace hL:=hL.zf (R:=ad) 0 rfl 0 rfl;obtain⟨dl,a9,B⟩:=bd B;refine cR (i:=41) rfl (by kernel_rfl) I rfl rfl rfl A (bB I H9 rfl rfl (pu _ _ hL.dlt b.s c3 _ _ hL.g6 hL.g0 _ a9) fun _ w C a O U=>⟨fq (O),?_⟩);obtain⟨c9,b1,he,⟨Q,N,X⟩⟩:=C;obtain rfl:=he.symm;have I:=U [nV c9 b1] (gc ⟨Q,by decide⟩ N) (wX _);replace I:=I.fR X;refine gE [42,43,44,45] I fun a I=>?_;refine eD ?_;exact fin
     refine gE [30,31,32,33,34,35,36,37,38,39,40,41,42,43,44,45] I fun a I=>?_;refine eD ?_;exact fin
    refine gE [7,8,9,10,11,12,13,14,15,16,17,18,19,20,21,22] I fun a I=>?_;rcases cd B with⟨c2,B⟩|⟨c2,B⟩
    ·refine gE [23,24,25,26,27,28,29,30,31,32,33,34,35,36,37,38,39,40,41,42,43,44,45] I fun a I=>?_;refine eD ?_;exact fin
    refine gE [23,24,25,26,27,28,29] I fun a I=>?_;rcases cd B with⟨D,B⟩|⟨D,B⟩
    ·refine gE [30,31,32,33,34,35,36,37,38,39] I fun a I=>?_;obtain⟨c4,ab,B⟩:=bd B;refine cR (i:=40) rfl (by kernel_rfl) I rfl rfl rfl D (bB I H8 rfl rfl (vr _ _ I.dlt I.g7 b.s b.r e.d _ I.g4 _ ab) fun _ w C a O U=>⟨fq (O),?_⟩);obtain⟨e5,d6,he,Y⟩:=C;obtain rfl:=he.symm;have I:=qs U Y;have hL:=I;replace hL:=hL.zf (R:=ad) 0 rfl 0 rfl;obtain⟨ds,af,B⟩:=bd B;refine cR (i:=41) rfl (by kernel_rfl) I rfl rfl rfl D (bB I H9 rfl rfl (pu _ _ hL.dlt b.s c4 _ _ hL.g6 hL.g0 _ af) fun _ w C a O U=>⟨fq (O),?_⟩);obtain⟨ca,b2,he,⟨S,P,Z⟩⟩:=C;obtain rfl:=he.symm;have I:=U [nV ca b2] (gc ⟨S,by decide⟩ P) (wX _);replace I:=I.fR Z;refine gE [42,43,44,45] I fun a I=>?_;refine eD ?_;exact fin
    refine gE [30,31,32,33,34,35,36,37,38,39,40,41,42,43,44,45] I fun a I=>?_;refine eD ?_;exact fin
   rintro a w ⟨z,I,B⟩;unfold cA at B;exact fz
  exact fz
 rintro a w ⟨I,B⟩;unfold nc at B;exact fz
def pz (b:Bool):=some (b)
def ri (c:dX):=(mb c.l c.b c.s1).bind fun d=>cond (d==0) ((jW c.l c.b c.o).bind fun e=>pz e) (pz false)
theorem C9 (hLv:dh T L) (c:dX) (q r:Value) (t u:Value) (x z:Value) (h:aF an T L q c.l) (j:aF ac T L r c.b.i) (k:aF aa T L t c.b.s) (m:aF ad T L u c.s1) (n:aF aB T L x c.o) (p:aF ad T L z c.y) (y:Bool) (B:ri c=some y):bg aR No 141 [.agg (xi c q r t u x z).toArray] L (fun v w'=>v = .bool y):=by
 refine en Tryz.func141 Tryz.ntmps141 hT fun a I=>?_;replace I:=((((((I.fact bH (dh.dn hLv)).fS (aF.dn h)).fS (aF.dn j)).fS (aF.dn k)).fS (aF.dn m)).fS (aF.dn n)).fS (aF.dn p);unfold ri at B;refine kB I fun A D a w O I=>?_;refine am I fun a I=>?_;refine aM (J:=fun a w=>∃ (d:Bool),St L No T 20 [(2,.bool d)] [] [bH] a w/\pz d=some y) ?_ ?_
 ·refine am I fun a I=>?_;obtain⟨E,f,B⟩:=bd B;refine kF I J3 (tV _ _ I.dlt I.g6 c.l c.b c.s1 _ _ _ _ I.g5 I.g4 I.g3 I.g2 _ f) fun w a I=>?_;rcases cd B with⟨e,B⟩|⟨e,B⟩
  ·refine am I fun a I=>?_;obtain⟨F,g,B⟩:=bd B;refine wg I rfl rfl rfl e (bB I Qd rfl rfl (xY _ _ I.dlt I.g6 c.l c.b c.o _ _ _ _ I.g5 I.g4 I.g3 I.g1 _ g) fun _ w C a O U=>?_);obtain rfl:=C;have I:=eL U;exact fz
  exact fz
 rintro a w ⟨d,I,B⟩;unfold pz at B;exact fz
def si (b:LU) (c:ah):=some ((az.mk b c ([]:LB) ([]:LL)))
theorem rc (o:LU) (n:ah) (A D E:Value) (hD:xH T L []) (G:aF an (dT T []) L A o) (H:aF ac (dT T []) L D n.i) (J:aF aa (dT T []) L E n.s) (y:az) (B:si o n=some y):bg aR (MD []) 113 [A,.agg (aU n D E).toArray] L (fun v w'=>∃ (t:Nat) (u x z:Value) (k:Nat) (m:Array MapEntry) (g d:Nat) (f:Array MapEntry) (j:Nat),v=pt t 0/\aF an (dT T [xS t u y.b.r x z k d,om k m g,om d f j]) w' u y.l/\aF ac (dT T [xS t u y.b.r x z k d,om k m g,om d f j]) w' x y.b.i/\aF aa (dT T [xS t u y.b.r x z k d,om k m g,om d f j]) w' z y.b.s/\bE ad true a6.str false (dT T [xS t u y.b.r x z k d,om k m g,om d f j]) w' m y.e/\bE ad true (a6.slice ad) false (dT T [xS t u y.b.r x z k d,om k m g,om d f j]) w' f y.h/\mx L w' [] [xS t u y.b.r x z k d,om k m g,om d f j]):=by
 refine fT (c:=_) Tryz.func113 rfl T 11 Tryz.ntmps113 hT rfl hD fun a I=>?_;replace I:=((I.fS G).fS H).fS J;unfold si at B;refine kB I fun K M a w O I=>?_;refine am I fun a I=>?_;refine wl rfl (qu ad true a6.str false I rfl fun p N a w O I=>?_);refine wl rfl (qu ad true (a6.slice ad) false I rfl fun q P a w O I=>?_);refine qy I (bw (ps:=[(0,.tmp 5),(1,.tmp 6),(2,.tmp 7),(3,.tmp 8)]) I Q4 Rr rfl (us:=[[A],(aU n D E),[.map (some p)],[.map (some q)]]) ⟨(m8 (aF.one (I.g4:aF an _ _ _ _))),⟨rfl,⟨rfl,⟨rfl,trivial⟩⟩⟩⟩ (ws:=[A,aj n.r,D,E,.map (some p),.map (some q)]) rfl) fun a I=>?_;refine kb I fun F Q a w O I=>?_;refine am I fun a I=>?_;cases B
 refine aG I rfl (aw I rfl aI) ?_;have hZ:=I.sl [0,2,1] [4,3,2,1,0];exact⟨F,A,D,E,p,#[],0,q,#[],0,rfl,hZ.g0,hZ.g1,hZ.g2,hZ.g3,hZ.g4,hZ.zd⟩
def wB:=some (false)
def kf (f:LF) (e:ae) (b:Int):Option (Fl (Int) (Fl (Unit) Bool)):=cond (decide (b<(f.length:Int))) ((bu f b).bind fun c=>cond (c.d.v==e.v&&c.d.x.toList==e.x.toList) (some (.out (.out true))) (some (.go (IntKind.i64.wrap (b+1))))) (some (.out (.go ())))
def py (c:LF) (b:ae):=(loop (fun s:Int=>kf c b s) 0).bind fun r=>Fl.el r (fun s=>wB) (fun y=>some (y))
theorem xX (e:LF) (b:ae) (k:Value) (o:aF aB T L k e) (y:Bool) (B:py e b=some y):bg aR No 222 [k,.agg (aX b).toArray] L (fun v w'=>v = .bool y):=by
 refine en Tryz.func222 Tryz.ntmps222 hT fun a I=>?_;replace I:=I.fS (aF.dn o);unfold py at B;refine kB I fun f u a w O I=>?_;refine am I fun a I=>?_;refine aM (J:=fun a w=>St L No T 18 [] [] [] a w/\wB=some y) ?_ ?_
 ·refine am I fun a I=>?_;obtain⟨F,n,hMo1⟩:=bd B;refine bF _ (fun s a w=>∃ (c:Int),c=s/\St L No T 18 [(3,pt f 0),(7,k),(8,aj (e.length:Int)),(9,aj c)] [.box f (aX b) 30] [aL aB k e] a w) n ⟨_,rfl,I.mt [0] [0]⟩ ?_;rintro s a w t ⟨c,rfl,I⟩ B hf1;have B:kf e b c=some t:=B;unfold kf at B;refine am I fun a I=>?_;refine aC ?_;rcases cd B with⟨l,B⟩|⟨l,B⟩
  ·refine am I fun a I=>?_;refine aC ?_;refine am I fun a I=>?_;obtain⟨g,h,B⟩:=bd B;refine wl rfl (bn (R:=aB) I wE wF rfl rfl 0 rfl h rfl fun p A r m a I=>?_);obtain⟨D,E,rfl,i,j⟩:=m;replace I:=(I.fS i).fS j;refine kA I uS fun q z a w O I=>?_;refine go I fun a w I=>?_;refine wl rfl (ky (v:=.bool (g.d.v==b.v&&g.d.x.toList==b.x.toList)) I (CZ I rfl rfl) rfl rfl fun a I=>?_);exact fz
  exact fz
 rintro a w ⟨I,B⟩;unfold wB at B;exact fz
def oe (b:Bool):=some (b)
def i8 (d:ah) (g:LF) (b:ae):=(cu b).bind fun e=>cond e (some (false)) ((py g b).bind fun f=>cond f (some (false)) ((cm d.s b).bind fun c=>cond (!(c.2)) (oe true) (oe (c.1.t != d.r))))
theorem wA (b:ah) (g:LF) (c:ae) (p q r:Value) (m:aF ac T L p b.i) (n:aF aa T L q b.s) (o:aF aB T L r g) (y:Bool) (B:i8 b g c=some y):bg aR No 185 [.agg (aU b p q).toArray,r,.agg (aX c).toArray] L (fun v w'=>v = .bool y):=by
 refine en Tryz.func185 Tryz.ntmps185 hT fun a I=>?_;replace I:=((I.fS (aF.dn m)).fS (aF.dn n)).fS (aF.dn o);unfold i8 at B;refine kB I fun t A a w O I=>?_;refine kb I fun u D a w O I=>?_;refine am I fun a I=>?_;refine aC ?_;refine io ?_;refine am I fun a I=>?_;obtain⟨F,h,B⟩:=bd B;refine kF I yx (da _ _ I.dlt c _ h) fun w a I=>?_;rcases cd B with⟨e,B⟩|⟨e,B⟩
 ·exact fz
 refine am I fun a I=>?_;obtain⟨G,j,B⟩:=bd B;refine wg I rfl rfl rfl e (bB I Kc rfl rfl (xX _ _ I.dlt g c _ I.g0 _ j) fun _ w C a O U=>?_);obtain rfl:=C;have I:=eL U;refine am I fun a I=>?_;rcases cd B with⟨l,B⟩|⟨l,B⟩
 ·exact fz
 refine am I fun a I=>?_;obtain⟨H,k,B⟩:=bd B;refine kc I rM (bR _ _ I.dlt b.s c _ I.g1 _ k) fun _ w C a O U=>?_;obtain⟨K,z,he,f⟩:=C;obtain rfl:=he.symm;have I:=qs U f;refine kA I eJ fun x E a w O I=>?_;refine go I fun a w I=>?_;refine aM (J:=fun a w=>∃ (d:Bool),St L No T 32 [(6,.bool d)] [] [] a w/\oe d=some y) ?_ ?_
 ·exact fz
 rintro a w ⟨d,I,B⟩;unfold oe at B;exact fz
def oI (c:ByteArray):=(lf c).bind fun b=>cond (decide (b<0)) (some (0)) (cond (decide ((65535:Int)<b)) (some (0)) (some (b)))
theorem xu (b:ByteArray) (y:Int) (B:oI b=some y):bg aR No 244 [a8 b] L (fun v w'=>v=aj y):=by
 refine en Tryz.func244 Tryz.ntmps244 hT fun a I=>?_;unfold oI at B;refine am I fun a I=>?_;obtain⟨d,c,B⟩:=bd B;refine kF I Nz (vO _ _ I.dlt b _ c) fun w a I=>?_;refine aC ?_;refine io ?_;exact fz
def lU (c:aN) (b e d:Int):=cond (c.n==1) (some (Int.tmod b 1000)) (cond (c.n==2) (some (Int.tmod (IntKind.i64.wrap (Int.tdiv b 2)) 1000)) (cond (c.n==3) (some (e)) (cond (c.n==4) (some (Int.tmod b 2)) (some (d)))))
def jS (b:LY) (g f:Int) (e c:Int):Option (Fl (Int×Int×Int×Int) (Int×Int×Int)):=cond (decide (c<(b.length:Int))) ((bu b c).bind fun h=>(oI h).bind fun d=>some (.go (IntKind.i64.wrap (g+d),max f d,wh .or .i64 e d,IntKind.i64.wrap (c+1)))) (some (.out (g,f,e)))
def qZ (c:aN) (b:LY):=(loop (fun s:Int×Int×Int×Int=>jS b s.1 s.2.1 s.2.2.1 s.2.2.2) (c.C,c.C,c.C,0)).bind fun r=>lU c r.1 r.2.1 r.2.2
theorem C5 (d:aN) (b:LY) (m p:Value) (E:aF dG T L m d.c) (F:aF a6.str T L p b) (y:Int) (B:qZ d b=some y):bg aR No 243 [.agg (vY d m).toArray,p] L (fun v w'=>v=aj y):=by
 refine en Tryz.func243 Tryz.ntmps243 hT fun a I=>?_;replace I:=(I.fS (aF.dn E)).fS (aF.dn F);unfold qZ at B;refine kB I fun h M a w O I=>?_;refine am I fun a I=>?_;refine aC ?_;refine dr [] I fun w hQ I=>?_;refine gE [0,1,2,3,4,5,6,7,8] I fun a I=>?_;refine eD ?_;refine am I fun a I=>?_;refine aM (J:=fun a w=>∃ (l k j:Int),St L No T 54 [(2,pt h 0),(5,aj l),(6,aj k),(7,aj j)] [.box h (vY d m) 150] [aL dG m d.c] a w/\lU d l k j=some y) ?_ ?_
 ·refine am I fun a I=>?_;obtain⟨Q,D,hMo1⟩:=bd B;refine bF _ (fun s a w=>∃ (g f:Int) (e i:Int),(g,f,e,i)=s/\St L No T 54 [(2,pt h 0),(5,aj g),(6,aj f),(7,aj e),(17,p),(18,aj (b.length:Int)),(19,aj i)] [.box h (vY d m) 150] [aL a6.str p b,aL dG m d.c] a w) D ⟨_,_,_,_,rfl,I.mt [0] [0,1]⟩ ?_;rintro s a w K ⟨g,f,e,i,rfl,I⟩ B hf1;have B:jS b g f e i=some K:=B;unfold jS at B;refine am I fun a I=>?_;refine aC ?_;rcases cd B with⟨r,B⟩|⟨r,B⟩
  ·refine am I fun a I=>?_;refine aC ?_;refine am I fun a I=>?_;obtain⟨q,n,B⟩:=bd B;refine wl rfl (bn (R:=a6.str) I Lq MV rfl rfl 0 rfl n rfl fun G N H t a I=>?_);obtain rfl:=t;refine am I fun a I=>?_;obtain⟨P,o,B⟩:=bd B;refine kF I NK (xu _ _ I.dlt q _ o) fun w a I=>?_;refine qy I (Ri I rfl rfl) fun a I=>?_;refine am I fun a I=>?_;refine qy I (Ct I rfl rfl rfl) fun a I=>?_;exact fz
  refine am I fun a I=>?_;cases B
  have hr:=hf1 _ rfl;subst hr;have B:lU d g f e=some y:=hMo1;exact fin
 rintro a w ⟨l,k,j,I,B⟩;unfold lU at B;refine aC ?_;refine am I fun a I=>?_;rcases cd B with⟨u,B⟩|⟨u,B⟩
 ·refine am I fun a I=>?_;refine qy I (D2 I rfl rfl (by decide)) fun a I=>?_;exact fz
 refine am I fun a I=>?_;rcases cd B with⟨x,B⟩|⟨x,B⟩
 ·refine am I fun a I=>?_;refine qy I (Ro I rfl rfl (by decide)) fun a I=>?_;refine qy I (D2 I rfl rfl (by decide)) fun a I=>?_;exact fz
 refine am I fun a I=>?_;rcases cd B with⟨z,B⟩|⟨z,B⟩
 ·exact fz
 refine am I fun a I=>?_;rcases cd B with⟨A,B⟩|⟨A,B⟩
 ·refine am I fun a I=>?_;refine qy I (D2 I rfl rfl (by decide)) fun a I=>?_;exact fz
 exact fz
def lg (c:LU) (d:dd) (b:Int):=cond d.b1 ((km b).bind fun e=>some ((t8.mk false cp e))) ((jQ c b).bind fun f=>some ((t8.mk false cp f)))
def lh (c:LU) (b:dd) (d:Bool):=cond d (lg c b b.t1) (lg c b b.N)
def hR (d:LU) (h:ae) (b:LY):=(iT h).bind fun g=>cond (decide (g<0)) (some ((t8.mk true cp (ae.mk 0 cp)))) (cond (decide ((d.length:Int)<=g)) (some ((t8.mk true cp (ae.mk 0 cp)))) ((jQ d g).bind fun i=>cond (!(i.v==h.v&&i.x.toList==h.x.toList)) (some ((t8.mk true cp (ae.mk 0 cp)))) ((bu d g).bind fun f=>cond (decide ((f.c.length:Int)<=(b.length:Int))) ((pU b 0 (f.c.length:Int)).bind fun k=>(qZ f k).bind fun l=>(yJ l).bind fun m=>some ((t8.mk true m (ae.mk 0 cp)))) ((bu f.c (b.length:Int)).bind fun e=>cond e.u1 (cond ((b.length:Int)==0) (lh d e true) ((bu b (IntKind.i64.wrap ((b.length:Int)-1))).bind fun j=>(oI j).bind fun n=>lh d e ((Int.tmod n 2:Int)==0))) (lh d e false)))))
theorem yZ (hLv:dh T L) (b:LU) (j:ae) (d:LY) (p v2:Value) (a9:aF an T L p b) (ab:aF a6.str T L v2 d) (y:t8) (B:hR b j d=some y):bg aR No 208 [p,.agg (aX j).toArray,v2] L (fun v w'=>v = .agg (Ng y).toArray):=by
 refine en Tryz.func208 Tryz.ntmps208 hT fun a I=>?_;replace I:=((I.fact bH (dh.dn hLv)).fS (aF.dn a9)).fS (aF.dn ab);unfold hR at B;refine kB I fun ag b4 a w O I=>?_;refine ka I nP fun e b5 a w O I=>?_;refine am I fun a I=>?_;obtain⟨a3,D,B⟩:=bd B;refine kF I H6 (pj _ _ I.dlt j _ D) fun w a I=>?_;refine aC ?_;refine aC ?_;refine dr [] I fun w hQ I=>?_;refine gE [0,1,2] I fun a I=>?_;rcases cd B with⟨Q,B⟩|⟨Q,B⟩
 ·refine gE [3,4,5,6,7,8,9,10,11,12,13,14] I fun a I=>?_;refine eD ?_;refine am I fun a I=>?_;refine qy I (bw (ps:=[(0,.const (.bool true))]) I yW nP rfl (us:=[[.bool true]]) ⟨rfl,trivial⟩ (ws:=[.bool true,a8 cp,aj 0,a8 cp]) rfl) fun a I=>?_;refine go I fun a w I=>?_;cases B
  refine aG I rfl (rC 0 I) ?_;exact rfl
 refine gE [3,4,5,6,7,8] I fun a I=>?_;rcases cd B with⟨l,B⟩|⟨l,B⟩
 ·refine gE [9,10,11,12,13,14] I fun a I=>?_;refine eD ?_;refine am I fun a I=>?_;refine qy I (bw (ps:=[(0,.const (.bool true))]) I yW nP rfl (us:=[[.bool true]]) ⟨rfl,trivial⟩ (ws:=[.bool true,a8 cp,aj 0,a8 cp]) rfl) fun a I=>?_;refine go I fun a w I=>?_;cases B
  refine aG I rfl (rC 0 I) ?_;exact rfl
 refine gE [9,10,12] I fun a I=>?_;obtain⟨q,E,B⟩:=bd B;refine cR (i:=11) rfl (by kernel_rfl) I rfl rfl rfl l (bB I Hd rfl rfl (oo _ _ I.dlt I.g2 b a3 _ I.g1 _ E) fun _ w C a O U=>⟨fq (O),?_⟩);obtain rfl:=C;have I:=eL U;refine dg 13 I l (v:=.bool (!(q.v==j.v&&q.x.toList==j.x.toList))) (BD I rfl rfl) fun a I=>?_;refine gE [14] I fun a I=>?_;refine eD ?_;refine am I fun a I=>?_;rcases cd B with⟨S,B⟩|⟨S,B⟩
 ·refine am I fun a I=>?_;refine qy I (bw (ps:=[(0,.const (.bool true))]) I yW nP rfl (us:=[[.bool true]]) ⟨rfl,trivial⟩ (ws:=[.bool true,a8 cp,aj 0,a8 cp]) rfl) fun a I=>?_;refine go I fun a w I=>?_;cases B
  refine aG I rfl (rC 0 I) ?_;exact rfl
 refine am I fun a I=>?_;obtain⟨M,s,B⟩:=bd B;refine wl rfl (bn (R:=an) I uF nN rfl rfl 1 rfl s rfl fun ak b8 b1 V a I=>?_);obtain⟨bl,rfl,K⟩:=V;replace I:=I.fS K;refine kA I ti fun ao b6 a w O I=>?_;refine go I fun a w I=>?_;refine aC ?_;refine am I fun a I=>?_;rcases cd B with⟨W,B⟩|⟨W,B⟩
 ·refine am I fun a I=>?_;refine aC ?_;refine dr [(9,.blk (some e))] I fun w hQ I=>?_;refine gE [0,1,2,3,4] I fun a I=>?_;obtain⟨a2,u,B⟩:=bd B;obtain⟨a5,X,I⟩:=QO (R:=a6.str) I Lq MV 2 rfl u;refine dq 5 I (v:=a5) (X (k1:=.i64) rfl (.inr ⟨rfl,rfl⟩) (.inl ⟨_,rfl,rfl⟩)) fun a I=>?_;obtain⟨a4,F,B⟩:=bd B;refine ec 6 I Qx (C5 _ _ I.dlt M a2 _ _ I.g1 I.g0 _ F) fun _ w C a O U=>?_;obtain rfl:=C;have I:=eL U;obtain⟨o,G,B⟩:=bd B;refine ec 7 I Fq (yK _ _ I.dlt I.g5 a4 _ G) fun _ w C a O U=>?_;obtain rfl:=C;have I:=eL U;refine dq 8 I (v:=.agg #[.bool true,a8 o,aj 0,a8 cp]) (bw (ps:=[(0,.const (.bool true)),(1,.tmp 48)]) I yW nP rfl (us:=[[.bool true],[a8 o]]) ⟨rfl,⟨rfl,trivial⟩⟩ (ws:=[.bool true,a8 o,aj 0,a8 cp]) rfl) fun a I=>?_;refine es 9 I fun w I=>?_;refine eD ?_;refine am I fun a I=>?_;cases B
  refine aG I rfl (rC 1 I) ?_;exact rfl
 refine am I fun a I=>?_;obtain⟨f,r,B⟩:=bd B;refine wl rfl (bn (R:=dG) I Is Iy rfl rfl 0 rfl r rfl fun av b9 b2 Y a I=>?_);obtain rfl:=Y;refine kA I xG fun g b7 a w O I=>?_;refine go I fun a w I=>?_;refine aM (J:=fun a w=>∃ (c:Int),St L No T 84 [(0,p),(6,pt e 0),(10,pt g 0),(11,aj c)] [.box e [.bool false,a8 cp,aj 0,a8 cp] 225,.box g (JV f) 147] [aL an p b,bH] a w/\lg b f c=some y) ?_ ?_
 ·refine aM (J:=fun a w=>∃ (k:Bool),St L No T 84 [(0,p),(6,pt e 0),(10,pt g 0),(11,aj f.N),(72,.bool k)] [.box e [.bool false,a8 cp,aj 0,a8 cp] 225,.box g (JV f) 147] [aL an p b,bH] a w/\lh b f k=some y) ?_ ?_
  ·refine am I fun a I=>?_;rcases cd B with⟨Z,B⟩|⟨Z,B⟩
   ·refine am I fun a I=>?_;rcases cd B with⟨h,B⟩|⟨h,B⟩
    ·exact fz
    refine am I fun a I=>?_;obtain⟨P,t,B⟩:=bd B;refine wg I rfl rfl rfl h (bn (R:=a6.str) I Lq MV rfl rfl 3 rfl t rfl fun b0 bb b3 a0 a I=>?_);obtain rfl:=a0;refine am I fun a I=>?_;obtain⟨bi,H,B⟩:=bd B;refine wg I rfl rfl rfl h (bB I NK rfl rfl (xu _ _ I.dlt P _ H) fun _ w C a O U=>?_);obtain rfl:=C;have I:=eL U;refine qg I h (D2 I rfl rfl (by decide)) fun a I=>?_;exact fz
   exact fz
  rintro a w ⟨k,I,B⟩;unfold lh at B;exact fz
 rintro a w ⟨c,I,B⟩;unfold lg at B;refine aC ?_;refine am I fun a I=>?_;rcases cd B with⟨a1,B⟩|⟨a1,B⟩
 ·refine am I fun a I=>?_;obtain⟨m,z,B⟩:=bd B;refine kE I Ml (rT _ _ I.dlt I.g1 c _ z) fun w a I=>?_;refine qy I (bw (ps:=[(2,.tmp 78)]) I yW nP rfl (us:=[(aX m)]) ⟨rfl,trivial⟩ (ws:=[.bool false,a8 cp,aj m.v,a8 m.x]) rfl) fun a I=>?_;refine go I fun a w I=>?_;cases B
  refine aG I rfl (rC 0 I) ?_;exact rfl
 refine am I fun a I=>?_;obtain⟨n,A,B⟩:=bd B;refine kE I Hd (oo _ _ I.dlt I.g1 b c _ I.g0 _ A) fun w a I=>?_;refine qy I (bw (ps:=[(2,.tmp 82)]) I yW nP rfl (us:=[(aX n)]) ⟨rfl,trivial⟩ (ws:=[.bool false,a8 cp,aj n.v,a8 n.x]) rfl) fun a I=>?_;refine go I fun a w I=>?_;cases B
 refine aG I rfl (rC 0 I) ?_;exact rfl
def ej (d:LU) (c:ae) (b:LY):=cond (c.v==31) ((hR d c b).bind fun e=>some (e)) (cond (c.v==32) ((hR d c b).bind fun f=>some (f)) ((cu c).bind fun g=>cond g (some ((t8.mk true cp (ae.mk 0 cp)))) (cond (decide (c.v<1)) (some ((t8.mk true cp (ae.mk 0 cp)))) (cond (decide ((22:Int)<c.v)) (some ((t8.mk true cp (ae.mk 0 cp)))) (none)))))
theorem eE (hLv:dh T L) (c:LU) (d:ae) (b:LY) (o p:Value) (m:aF an T L o c) (n:aF a6.str T L p b) (y:t8) (B:ej c d b=some y):bg aR No 173 [o,.agg (aX d).toArray,p] L (fun v w'=>v = .agg (Ng y).toArray):=by
 refine en Tryz.func173 Tryz.ntmps173 hT fun a I=>?_;replace I:=((I.fact bH (dh.dn hLv)).fS (aF.dn m)).fS (aF.dn n);unfold ej at B;refine kB I fun q s a w O I=>?_;refine ka I nP fun r t a w O I=>?_;refine am I fun a I=>?_;refine aC ?_;refine am I fun a I=>?_;refine io ?_;refine am I fun a I=>?_;rcases cd B with⟨h,B⟩|⟨h,B⟩
 ·refine am I fun a I=>?_;obtain⟨u,e,B⟩:=bd B;refine kE I ND (yZ _ _ I.dlt I.g2 c d b _ _ I.g1 I.g0 _ e) fun w a I=>?_;refine go I fun a w I=>?_;cases B
  refine aG I rfl (rC 0 I) ?_;exact rfl
 refine am I fun a I=>?_;rcases cd B with⟨i,B⟩|⟨i,B⟩
 ·refine am I fun a I=>?_;obtain⟨x,f,B⟩:=bd B;refine kE I ND (yZ _ _ I.dlt I.g2 c d b _ _ I.g1 I.g0 _ f) fun w a I=>?_;refine go I fun a w I=>?_;cases B
  refine aG I rfl (rC 0 I) ?_;exact rfl
 refine am I fun a I=>?_;refine io ?_;refine am I fun a I=>?_;obtain⟨z,g,B⟩:=bd B;refine kF I yx (da _ _ I.dlt d _ g) fun w a I=>?_;rcases cd B with⟨j,B⟩|⟨j,B⟩
 ·refine am I fun a I=>?_;refine qy I (bw (ps:=[(0,.const (.bool true))]) I yW nP rfl (us:=[[.bool true]]) ⟨rfl,trivial⟩ (ws:=[.bool true,a8 cp,aj 0,a8 cp]) rfl) fun a I=>?_;refine go I fun a w I=>?_;cases B
  refine aG I rfl (rC 0 I) ?_;exact rfl
 refine am I fun a I=>?_;rcases cd B with⟨k,B⟩|⟨k,B⟩
 ·refine am I fun a I=>?_;refine qy I (bw (ps:=[(0,.const (.bool true))]) I yW nP rfl (us:=[[.bool true]]) ⟨rfl,trivial⟩ (ws:=[.bool true,a8 cp,aj 0,a8 cp]) rfl) fun a I=>?_;refine go I fun a w I=>?_;cases B
  refine aG I rfl (rC 0 I) ?_;exact rfl
 refine am I fun a I=>?_;rcases cd B with⟨l,B⟩|⟨l,B⟩
 ·refine am I fun a I=>?_;refine qy I (bw (ps:=[(0,.const (.bool true))]) I yW nP rfl (us:=[[.bool true]]) ⟨rfl,trivial⟩ (ws:=[.bool true,a8 cp,aj 0,a8 cp]) rfl) fun a I=>?_;refine go I fun a w I=>?_;cases B
  refine aG I rfl (rC 0 I) ?_;exact rfl
 refine am I fun a I=>?_;cases B
def pq (b:LR):=some (b)
def pr (e:au) (b:LR) (d:Bool):=cond (!(d)) ((gD e).bind fun c=>gd (bP (b.length+([c]).length)) <| pq (b++([c]))) (pq b)
def iW (b:Int) (c:LR) (d:Bool):Option (Fl (LR×Bool×Int) (LR×Bool)):=some (.go (c,d,IntKind.i64.wrap (b+1)))
def iX (d:Int) (c:au) (f:Int) (b:LR) (e:Bool):=cond (f != 0) (gd (bP (b.length+([c]).length)) <| iW d (b++([c])) e) (iW d b e)
def iY (i:au) (b:LR) (h:Bool) (d:Int) (c:au) (e:Int) (g:Bool):=cond g ((gD i).bind fun f=>gd (bP (b.length+([f]).length)) <| iX d c e (b++([f])) true) (iX d c e b h)
def rV (i:LR) (h:au) (f:LR) (c:Bool) (b:Int):=cond (decide (b<(i.length:Int))) ((bu i b).bind fun e=>(jN e.d h.d).bind fun g=>cond (decide ((0:Int)<=g)) (iY h f c b e g (!(c))) (iY h f c b e g false)) (some (.out (f,c)))
def mO (c:LR) (b:au):=(loop (fun s:LR×Bool×Int=>rV c b s.1 s.2.1 s.2.2) (([]:List au),false,0)).bind fun r=>pr b r.1 r.2
theorem AG (hLv:dh T L) (g:LR) (b:au) (r o:Value) (b5:aF aa T L r g) (b6:aF ad T L o b.k) (y:LR) (B:mO g b=some y):bg aR No 215 [r,.agg (bh b o).toArray] L (fun v w'=>∃ (v3:Value) (uZ:bI),v=v3/\gG aa T L w' [aJ v3 uZ] 33 v3 uZ y):=by
 refine en Tryz.func215 Tryz.ntmps215 hT fun a I=>?_;replace I:=((I.fact bH (dh.dn hLv)).fS (aF.dn b5)).fS (aF.dn b6);unfold mO at B;refine kB I fun e c3 a w O I=>?_;refine am I fun a I=>?_;refine aM (J:=fun a w=>∃ (z:LR) (P:Bool) (V:Value) (F:LV),St L No T 47 [(3,pt e 0),(5,V),(6,.bool P)] [aJ V F,.box e (bh b o) 33] [ap aa F z,aL ad o b.k,bH] a w/\pr b z P=some y) ?_ ?_
 ·refine am I fun a I=>?_;replace I:=I.zn aa 33 (by decide);obtain⟨r1,b4,hMo1⟩:=bd B;refine bF _ (fun s a w=>∃ (h:LR) (j:Bool) (f:Int) (q:Value) (p:LV),(h,j,f)=s/\St L No T 47 [(3,pt e 0),(5,q),(6,.bool j),(10,r),(11,aj (g.length:Int)),(12,aj f)] [aJ q p,.box e (bh b o) 33] [ap aa p h,aL aa r g,aL ad o b.k,bH] a w) b4 ⟨_,_,_,_,_,rfl,I.mt [0,1] [0,2,1,3]⟩ ?_;rintro s a w f1 ⟨h,j,f,q,p,rfl,I⟩ B hf1;have B:rV g b h j f=some f1:=B;unfold rV at B;refine am I fun a I=>?_;refine aC ?_;rcases cd B with⟨af,B⟩|⟨af,B⟩
  ·refine am I fun a I=>?_;refine aM (J:=fun a w=>∃ (N:LR) (Q:Bool) (W:Value) (G:LV),St L No T 47 [(3,pt e 0),(5,W),(6,.bool Q),(10,r),(11,aj (g.length:Int)),(12,aj f)] [aJ W G,.box e (bh b o) 33] [ap aa G N,aL aa r g,aL ad o b.k,bH] a w/\iW f N Q=some f1) ?_ ?_
   ·refine am I fun a I=>?_;obtain⟨c,a3,B⟩:=bd B;refine wl rfl (bn (R:=aa) I mV j6 rfl rfl 1 rfl a3 rfl fun b7 c5 bi ag a I=>?_);obtain⟨l,rfl,ab⟩:=ag;replace I:=I.fS ab;refine kA I eJ fun t c4 a w O I=>?_;refine go I fun a w I=>?_;obtain⟨D,a5,B⟩:=bd B;refine kF I Hf (lQ _ _ I.dlt I.g5 c.d b.d _ a5) fun w a I=>?_;refine aM (J:=fun a w=>∃ (A:LR) (S:Bool) (X:Value) (H:LV),St L No T 47 [(3,pt e 0),(5,X),(6,.bool S),(8,pt t 0),(9,aj D),(10,r),(11,aj (g.length:Int)),(12,aj f)] [aJ X H,.box e (bh b o) 33,.box t (bh c l) 33] [ap aa H A,aL aa r g,aL ad o b.k,aL ad l c.k,bH] a w/\iX f c D A S=some f1) ?_ ?_
    ·refine aM (J:=fun a w=>∃ (K:Bool),St L No T 47 [(3,pt e 0),(5,q),(6,.bool j),(8,pt t 0),(9,aj D),(10,r),(11,aj (g.length:Int)),(12,aj f),(26,.bool K)] [aJ q p,.box e (bh b o) 33,.box t (bh c l) 33] [ap aa p h,aL aa r g,aL ad o b.k,aL ad l c.k,bH] a w/\iY b h j f c D K=some f1) ?_ ?_
     ·exact fz
     rintro a w ⟨K,I,B⟩;unfold iY at B;rcases cd B with⟨ak,B⟩|⟨ak,B⟩
     ·refine am I fun a I=>?_;obtain⟨n,a9,B⟩:=bd B;refine kc I H4 (nZ _ _ I.dlt b _ I.g2 _ a9) fun _ w C a O U=>?_;obtain⟨Y,bl,he,a0⟩:=C;obtain rfl:=he.symm;have I:=qs U a0;refine wl rfl (bf (ps:=[(0,.tmp 29)]) I tN eJ (zl:=[aj 0,a8 cp,a8 cp,.slice none 0 0,aj 0,aj 0,aj 0,.bool false]) (by kernel_rfl) rfl (us:=[(bh n Y)]) ⟨rfl,trivial⟩ (ws:=(bh n Y)) rfl rfl rfl rfl fun b8 a w O I=>?_);replace I:=I.zf (R:=ad) 1 rfl 0 rfl;replace I:=(I.lit (R:=aa) (us:=(bh n Y)) (xs:=[n]) 0 rfl (by decide) (aP (R:=aa) (x:=n) (⟨_,rfl,I.g0⟩)) rfl rfl).zf (R:=aa) 0 rfl 0 rfl;obtain⟨ao,B⟩:=aW B;refine wl rfl (bG (R:=aa) (xs:=h) (ys:=[n]) I tN (by decide) (by decide) rfl rfl 0 rfl 4 rfl 0 rfl ao rfl fun c9 bs a w O I=>?_);exact fz
     exact fz
    rintro a w ⟨A,S,X,H,I,B⟩;unfold iX at B;refine am I fun a I=>?_;rcases cd B with⟨av,B⟩|⟨av,B⟩
    ·refine am I fun a I=>?_;refine wl rfl (bf (ps:=[(0,.tmp 35)]) I tN eJ (zl:=[aj 0,a8 cp,a8 cp,.slice none 0 0,aj 0,aj 0,aj 0,.bool false]) (by kernel_rfl) rfl (us:=[(bh c l)]) ⟨rfl,trivial⟩ (ws:=(bh c l)) rfl rfl rfl rfl fun b9 a w O I=>?_);replace I:=(I.lit (R:=aa) (us:=(bh c l)) (xs:=[c]) 0 rfl (by decide) (aP (R:=aa) (x:=c) (⟨_,rfl,I.g3⟩)) rfl rfl).zf (R:=aa) 0 rfl 0 rfl;obtain⟨b0,B⟩:=aW B;refine wl rfl (bG (R:=aa) (xs:=A) (ys:=[c]) I tN (by decide) (by decide) rfl rfl 0 rfl 2 rfl 0 rfl b0 rfl fun ca bt a w O I=>?_);exact fz
    exact fz
   rintro a w ⟨N,Q,W,G,I,B⟩;unfold iW at B;exact fz
  refine am I fun a I=>?_;cases B
  have hr:=hf1 _ rfl;subst hr;have B:pr b h j=some y:=hMo1;exact fin
 rintro a w ⟨z,P,V,F,I,B⟩;unfold pr at B;refine aM (J:=fun a w=>∃ (M:LR) (E:Value) (u:LV),St L No T 47 [(5,E)] [aJ E u] [ap aa u M,bH] a w/\pq M=some y) ?_ ?_
 ·refine am I fun a I=>?_;rcases cd B with⟨b1,B⟩|⟨b1,B⟩
  ·refine am I fun a I=>?_;obtain⟨m,a4,B⟩:=bd B;refine kc I H4 (nZ _ _ I.dlt b _ I.g1 _ a4) fun _ w C a O U=>?_;obtain⟨Z,c1,he,a1⟩:=C;obtain rfl:=he.symm;have I:=qs U a1;refine wl rfl (bf (ps:=[(0,.tmp 43)]) I tN eJ (zl:=[aj 0,a8 cp,a8 cp,.slice none 0 0,aj 0,aj 0,aj 0,.bool false]) (by kernel_rfl) rfl (us:=[(bh m Z)]) ⟨rfl,trivial⟩ (ws:=(bh m Z)) rfl rfl rfl rfl fun bb a w O I=>?_);replace I:=I.zf (R:=ad) 1 rfl 0 rfl;replace I:=(I.lit (R:=aa) (us:=(bh m Z)) (xs:=[m]) 0 rfl (by decide) (aP (R:=aa) (x:=m) (⟨_,rfl,I.g0⟩)) rfl rfl).zf (R:=aa) 0 rfl 0 rfl;obtain⟨b2,B⟩:=aW B;refine wl rfl (bG (R:=aa) (xs:=z) (ys:=[m]) I tN (by decide) (by decide) rfl rfl 0 rfl 4 rfl 0 rfl b2 rfl fun cb c2 a w O I=>?_);exact fz
  exact fz
 rintro a w ⟨M,E,u,I,B⟩;unfold pq at B;refine am I fun a I=>?_;cases B
 refine aG I rfl (aw I rfl aI) ?_;exact⟨E,u,rfl,I.zo ⟨.inr (aO (i:=0) rfl),trivial⟩ 0 rfl 0 rfl⟩
def nH (e:ah) (f:ae) (c:ByteArray) (b:LK) (d:Int):=some ((au.mk f c b d e.r (IntKind.i64.wrap (1+(b.length:Int))) false))
def qJ (d:ah) (e:ae) (c:ByteArray) (b:LK) (g:(au×Bool)) (f:Bool):=cond f (nH d e c b g.1.a) (nH d e c b d.r)
def qk (e:ah) (f:ae) (b:ByteArray) (d:LK):=(cm e.s f).bind fun c=>cond c.2 (qJ e f b d c (c.1.u.toList==b.toList)) (qJ e f b d c false)
theorem ze (d:ah) (e:ae) (c:ByteArray) (b:LK) (D E h:Value) (u:aF ac T L D d.i) (z:aF aa T L E d.s) (A:aF ad T L h b) (y:au) (B:qk d e c b=some y):bg aR No 216 [.agg (aU d D E).toArray,.agg (aX e).toArray,a8 c,h] L (fun v w'=>∃ (F:Value),v = .agg (bh y F).toArray/\aF ad (dT T []) w' F y.k):=by
 refine en Tryz.func216 Tryz.ntmps216 hT fun a I=>?_;replace I:=((I.fS (aF.dn u)).fS (aF.dn z)).fS (aF.dn A);unfold qk at B;refine kB I fun G K a w O I=>?_;refine kb I fun H M a w O I=>?_;refine ka I eJ fun f N a w O I=>?_;refine am I fun a I=>?_;refine qy I (bw (ps:=[(0,.tmp 12),(1,.tmp 13),(2,.tmp 14),(3,.tmp 16),(4,.tmp 18),(5,.tmp 21)]) I OH eJ rfl (us:=[(aX e),[a8 c],[h],[aj d.r],[aj d.r],[aj (IntKind.i64.wrap (1+(b.length:Int)))]]) ⟨rfl,⟨rfl,⟨(m8 (aF.one (I.g0:aF ad _ _ _ _))),⟨rfl,⟨rfl,⟨rfl,trivial⟩⟩⟩⟩⟩⟩ (ws:=[aj e.v,a8 e.x,a8 c,h,aj d.r,aj d.r,aj (IntKind.i64.wrap (1+(b.length:Int))),.bool false]) rfl) fun a I=>?_;refine ka I eJ fun g P a w O I=>?_;refine go I fun a w I=>?_;refine aM (J:=fun a w=>∃ (l:Int),St L No T 41 [(8,pt f 0),(9,pt g 0)] [.box f [aj 0,a8 cp,a8 cp,.slice none 0 0,aj 0,aj 0,aj 0,.bool false] 33,.box g [aj e.v,a8 e.x,a8 c,h,aj l,aj d.r,aj (IntKind.i64.wrap (1+(b.length:Int))),.bool false] 33] [aL ad h b] a w/\nH d e c b l=some y) ?_ ?_
 ·refine am I fun a I=>?_;obtain⟨m,t,B⟩:=bd B;refine kc I rM (bR _ _ I.dlt d.s e _ I.g1 _ t) fun _ w C a O U=>?_;obtain⟨q,o,he,p⟩:=C;obtain rfl:=he.symm;have I:=qs U p;refine kA I eJ fun n Q a w O I=>?_;refine go I fun a w I=>?_;refine aM (J:=fun a w=>∃ (j:Bool),St L No T 41 [(8,pt f 0),(9,pt g 0),(10,pt n 0),(36,.bool j)] [.box f [aj 0,a8 cp,a8 cp,.slice none 0 0,aj 0,aj 0,aj 0,.bool false] 33,.box g [aj e.v,a8 e.x,a8 c,h,aj d.r,aj d.r,aj (IntKind.i64.wrap (1+(b.length:Int))),.bool false] 33,aA q o,.box n (bh m.1 q) 33] [aL ad h b,ap ad o m.1.k] a w/\qJ d e c b m j=some y) ?_ ?_
  ·exact fz
  rintro a w ⟨j,I,B⟩;unfold qJ at B;exact fz
 rintro a w ⟨l,I,B⟩;unfold nH at B;refine go I fun a w I=>?_;cases B
 refine aG I rfl (rC 0 I) ?_;exact⟨h,rfl,(aF.up trivial I.g0)⟩
def lm (h:ah) (i b:LF) (c:ae) (d:Bool):Option Int:=cond d (some (3)) ((i8 h i c).bind fun e=>cond (!(e)) (some (0)) ((py b c).bind fun f=>cond (!(f)) (some (1)) ((cO c).bind fun g=>cond g (some (0)) (some (2)))))
def ql (e:ah) (d b:LF) (c:ae):=(cO c).bind fun f=>cond (!(f)) ((py d c).bind fun g=>lm e d b c g) (lm e d b c false)
theorem zk (c:ah) (e b:LF) (d:ae) (p q:Value) (r t:Value) (A:aF ac T L p c.i) (D:aF aa T L q c.s) (E:aF aB T L r e) (F:aF aB T L t b) (y:Int) (B:ql c e b d=some y):bg aR No 223 [.agg (aU c p q).toArray,r,t,.agg (aX d).toArray] L (fun v w'=>v=aj y):=by
 refine en Tryz.func223 Tryz.ntmps223 hT fun a I=>?_;replace I:=(((I.fS (aF.dn A)).fS (aF.dn D)).fS (aF.dn E)).fS (aF.dn F);unfold ql at B;refine kB I fun g G a w O I=>?_;refine kb I fun h H a w O I=>?_;refine am I fun a I=>?_;refine aC ?_;refine am I fun a I=>?_;refine aM (J:=fun a w=>∃ (f:Bool),St L No T 32 [(1,r),(2,t),(4,pt g 0),(7,pt h 0),(9,.bool f)] [.box g (aU c p q) 25,.box h (aX d) 30] [aL aB r e,aL aB t b,aL ac p c.i,aL aa q c.s] a w/\lm c e b d f=some y) ?_ ?_
 ·refine am I fun a I=>?_;obtain⟨P,n,B⟩:=bd B;refine kF I uf (cY _ _ I.dlt d _ n) fun w a I=>?_;rcases cd B with⟨j,B⟩|⟨j,B⟩
  ·refine am I fun a I=>?_;obtain⟨Q,o,B⟩:=bd B;refine wg I rfl rfl rfl j (bB I Kc rfl rfl (xX _ _ I.dlt e d _ I.g1 _ o) fun _ w C a O U=>?_);obtain rfl:=C;have I:=eL U;exact fz
  exact fz
 rintro a w ⟨f,I,B⟩;unfold lm at B;rcases cd B with⟨u,B⟩|⟨u,B⟩
 ·exact fz
 refine am I fun a I=>?_;obtain⟨K,k,B⟩:=bd B;refine kF I Ny (wA _ _ I.dlt c e d _ _ _ I.g2 I.g3 I.g0 _ k) fun w a I=>?_;rcases cd B with⟨x,B⟩|⟨x,B⟩
 ·exact fz
 refine am I fun a I=>?_;obtain⟨M,l,B⟩:=bd B;refine kF I Kc (xX _ _ I.dlt b d _ I.g1 _ l) fun w a I=>?_;rcases cd B with⟨z,B⟩|⟨z,B⟩
 ·exact fz
 refine am I fun a I=>?_;obtain⟨N,m,B⟩:=bd B;refine kE I uf (cY _ _ I.dlt d _ m) fun w a I=>?_;exact fz
def wm (b:Int):=cond (b==14) (some ((ByteArray.mk #[48]))) (some (cp))
theorem C4 (b:Int) (y:ByteArray) (B:wm b=some y):bg aR No 242 [aj b] L (fun v w'=>v=a8 y):=by
 refine en Tryz.func242 Tryz.ntmps242 hT fun a I=>?_;unfold wm at B;refine am I fun a I=>?_;refine aC ?_;exact fz
def kd (b:ae):=cond (b.v==32) (some ((ByteArray.mk #[48]))) ((cO b).bind fun c=>cond c ((wm b.v).bind fun d=>some (d)) (some (cp)))
theorem tT (b:ae) (y:ByteArray) (B:kd b=some y):bg aR No 207 [.agg (aX b).toArray] L (fun v w'=>v=a8 y):=by
 refine en Tryz.func207 Tryz.ntmps207 hT fun a I=>?_;unfold kd at B;refine kB I fun g h a w O I=>?_;refine am I fun a I=>?_;refine aC ?_;refine am I fun a I=>?_;rcases cd B with⟨e,B⟩|⟨e,B⟩
 ·exact fz
 refine am I fun a I=>?_;obtain⟨i,c,B⟩:=bd B;refine kF I uf (cY _ _ I.dlt b _ c) fun w a I=>?_;rcases cd B with⟨f,B⟩|⟨f,B⟩
 ·refine am I fun a I=>?_;obtain⟨j,d,B⟩:=bd B;refine kE I Qw (C4 _ _ I.dlt b.v _ d) fun w a I=>?_;exact fz
 exact fz
def ov (vrec:az->ae->Option (ByteArray×az)):Prop:=∀ (T:Nat->Prop) (L:World) (hT:∀ k,T k->k<L.heap.size) (G:az) (H:ae) (f:Nat) (u z A:Value) (c:Nat) (j:Array MapEntry) (n:Nat) (d:Nat) (m:Array MapEntry) (g:Nat) (hD:xH T L [.box f [u,aj G.b.r,z,A,.map (some c),.map (some d)] 223,.obj c (.map j n),.obj d (.map m g)]) (M:aF an (dT T [.box f [u,aj G.b.r,z,A,.map (some c),.map (some d)] 223,.obj c (.map j n),.obj d (.map m g)]) L u G.l) (N:aF ac (dT T [.box f [u,aj G.b.r,z,A,.map (some c),.map (some d)] 223,.obj c (.map j n),.obj d (.map m g)]) L z G.b.i) (P:aF aa (dT T [.box f [u,aj G.b.r,z,A,.map (some c),.map (some d)] 223,.obj c (.map j n),.obj d (.map m g)]) L A G.b.s) (J:bE ad true a6.str false (dT T [.box f [u,aj G.b.r,z,A,.map (some c),.map (some d)] 223,.obj c (.map j n),.obj d (.map m g)]) L j G.e) (K:bE ad true (a6.slice ad) false (dT T [.box f [u,aj G.b.r,z,A,.map (some c),.map (some d)] 223,.obj c (.map j n),.obj d (.map m g)]) L m G.h) (hLv:dh (dT T [.box f [u,aj G.b.r,z,A,.map (some c),.map (some d)] 223,.obj c (.map j n),.obj d (.map m g)]) L) (y:ByteArray×az) (B:vrec G H=some y),bg aR (MD [.box f [u,aj G.b.r,z,A,.map (some c),.map (some d)] 223,.obj c (.map j n),.obj d (.map m g)]) 114 [.pointer (some ⟨f,0,none⟩),.agg #[aj H.v,a8 H.x]] L (fun v w'=>∃ (D E F:Value) (o:Array MapEntry) (q:Nat) (p:Array MapEntry) (t:Nat),v=a8 y.1/\mx L w' [.box f [u,aj G.b.r,z,A,.map (some c),.map (some d)] 223,.obj c (.map j n),.obj d (.map m g)] [.box f [D,aj y.2.b.r,E,F,.map (some c),.map (some d)] 223,.obj c (.map o q),.obj d (.map p t)]/\aF an (dT T [.box f [D,aj y.2.b.r,E,F,.map (some c),.map (some d)] 223,.obj c (.map o q),.obj d (.map p t)]) w' D y.2.l/\aF ac (dT T [.box f [D,aj y.2.b.r,E,F,.map (some c),.map (some d)] 223,.obj c (.map o q),.obj d (.map p t)]) w' E y.2.b.i/\aF aa (dT T [.box f [D,aj y.2.b.r,E,F,.map (some c),.map (some d)] 223,.obj c (.map o q),.obj d (.map p t)]) w' F y.2.b.s/\bE ad true a6.str false (dT T [.box f [D,aj y.2.b.r,E,F,.map (some c),.map (some d)] 223,.obj c (.map o q),.obj d (.map p t)]) w' o y.2.e/\bE ad true (a6.slice ad) false (dT T [.box f [D,aj y.2.b.r,E,F,.map (some c),.map (some d)] 223,.obj c (.map o q),.obj d (.map p t)]) w' p y.2.h)
def ln (b:LU) (c:Int) (d:LI) (e:LR) (f:LL) (g:LB):=some ((az.mk b (ah.mk c d e) g f))
def iv (f:LB) (d:LK) (b:Int) (e:LB):Option (Fl (Int×LB) (LB)):=cond (decide (b<(d.length:Int))) ((bu d b).bind fun c=>(some ((cF aK c f).getD cp)).bind fun g=>some (.go (IntKind.i64.wrap (b+1),(dS aK c g e)))) (some (.out e))
def e9 (b:LB) (c:LK) (d:LU) (e:Int) (f:LI) (g:LR) (i:LB) (h:LL):=(loop (fun s:Int×LB=>iv b c s.1 s.2) (0,i)).bind fun r=>ln d e f g h r
def iu (b:LB) (d:LK) (c:Bool) (e:LU) (f:Int) (g:LI) (h:LR) (i:LB) (j:LL):Option (Fl (LB×LK×Bool×LU×Int×LI×LR×LB×LL) (LB×LK×LU×Int×LI×LR×LB×LL)):=some (.go (b,d,c,e,f,g,h,i,j))
def dU (d:Int) (b:LB) (e:LK) (c:Bool) (f:LU) (g:Int) (h:LI) (i:LR) (j:LB) (k:LL):Option (Fl (LB×LK×Bool×Int×LU×Int×LI×LR×LB×LL) (LB×LK×Bool×LU×Int×LI×LR×LB×LL)):=some (.go (b,e,c,IntKind.i64.wrap (d+1),f,g,h,i,j,k))
def fa (b:Int) (d:LB) (c:LK) (l:Bool) (e:LU) (f:Int) (g:LI) (h:LR) (i:LB) (j:LL) (p:Bool) (k:ByteArray) (q:Int) (r:ByteArray):=(bu c b).bind fun m=>(some ((cF aK m d).getD cp)).bind fun o=>cond (!(o.toList==k.toList)) ((bu c b).bind fun n=>dU b (dS aK n k d) c true e f g h i j) (dU b d c l e f g h i j)
def cV (j:Int) (c:LY) (g:LB) (e:LK) (h:Bool) (d:ByteArray) (f:LU) (k:Int) (l:LI) (m:LR) (n:LB) (o:LL):Option (Fl (LB×LK×Bool×LY×LU×Int×LI×LR×LB×LL×Bool×ByteArray×Int×ByteArray) (LB×LK×Bool×LU×Int×LI×LR×LB×LL×Bool×ByteArray×Int×ByteArray)):=gd (bP (c.length+([d]).length)) <| (bu e j).bind fun i=>(ej f i (c++([d]))).bind fun b=>some (.go (g,e,h,(c++([d])),f,k,l,m,n,o,b.c1,b.u,b.x1.v,b.x1.x))
def dV (e:Int) (c:LY) (g:LU) (h:Int) (i:LI) (j:LR) (k:LB) (l:LL) (m:Int) (n:ByteArray) (b:LB) (f:LK) (d:Bool):=(some ((cF aK (ae.mk m n) b).getD cp)).bind fun o=>cV e c b f d o g h i j k l
def dW (vrec:az->ae->Option (ByteArray×az)) (v:Int) (f:LB) (k:LK) (u:Bool) (t:LY) (m:LU) (n:Int) (o:LI) (p:LR) (g:LB) (q:LL) (x:Bool) (y:ByteArray) (c:Int) (d:ByteArray):=cond (!(x)) ((some ((cF aK (ae.mk c d) g).getD cp)).bind fun z=>cond ((cF aK (ae.mk c d) g).isSome) (cV v t f k u z m n o p g q) ((cO (ae.mk c d)).bind fun A=>cond (!(A)) ((vrec (az.mk m (ah.mk n o p) g q) (ae.mk c d)).bind fun j=>cV v t f k u j.1 j.2.l j.2.b.r j.2.b.i j.2.b.s j.2.e j.2.h) ((some ((cF aK (ae.mk c d) f).getD cp)).bind fun E=>cond (!((cF aK (ae.mk c d) f).isSome)) ((kd (ae.mk c d)).bind fun D=>gd (bP (k.length+([(ae.mk c d)]).length)) <| dV v t m n o p g q c d (dS aK (ae.mk c d) D f) (k++([(ae.mk c d)])) true) (dV v t m n o p g q c d f k u)))) (some (.out (f,k,u,m,n,o,p,g,q,x,y,c,d)))
def gx (vrec:az->ae->Option (ByteArray×az)) (c:LB) (e:LK) (d:Bool) (b:Int) (f:LU) (g:Int) (h:LI) (i:LR) (j:LB) (k:LL) (l:Bool) (m:ByteArray) (n:Int) (o:ByteArray):=(loop (fun s:LB×LK×Bool×LY×LU×Int×LI×LR×LB×LL×Bool×ByteArray×Int×ByteArray=>dW vrec b s.1 s.2.1 s.2.2.1 s.2.2.2.1 s.2.2.2.2.1 s.2.2.2.2.2.1 s.2.2.2.2.2.2.1 s.2.2.2.2.2.2.2.1 s.2.2.2.2.2.2.2.2.1 s.2.2.2.2.2.2.2.2.2.1 s.2.2.2.2.2.2.2.2.2.2.1 s.2.2.2.2.2.2.2.2.2.2.2.1 s.2.2.2.2.2.2.2.2.2.2.2.2.1 s.2.2.2.2.2.2.2.2.2.2.2.2.2) (c,e,d,([]:List ByteArray),f,g,h,i,j,k,l,m,n,o)).bind fun r=>fa b r.1 r.2.1 r.2.2.1 r.2.2.2.1 r.2.2.2.2.1 r.2.2.2.2.2.1 r.2.2.2.2.2.2.1 r.2.2.2.2.2.2.2.1 r.2.2.2.2.2.2.2.2.1 r.2.2.2.2.2.2.2.2.2.1 r.2.2.2.2.2.2.2.2.2.2.1 r.2.2.2.2.2.2.2.2.2.2.2.1 r.2.2.2.2.2.2.2.2.2.2.2.2
def eB (vrec:az->ae->Option (ByteArray×az)) (f:LB) (b:LK) (g:Bool) (d:Int) (e:LU) (h:Int) (i:LI) (j:LR) (k:LB) (l:LL):=cond (decide (d<(b.length:Int))) ((bu b d).bind fun m=>(ej e m ([])).bind fun c=>gx vrec f b g d e h i j k l c.c1 c.u c.x1.v c.x1.x) (some (.out (f,b,g,e,h,i,j,k,l)))
def eC (vrec:az->ae->Option (ByteArray×az)) (b:LB) (c:LK) (j:Bool) (d:LU) (e:Int) (f:LI) (g:LR) (h:LB) (i:LL):=cond j ((loop (fun s:LB×LK×Bool×Int×LU×Int×LI×LR×LB×LL=>eB vrec s.1 s.2.1 s.2.2.1 s.2.2.2.1 s.2.2.2.2.1 s.2.2.2.2.2.1 s.2.2.2.2.2.2.1 s.2.2.2.2.2.2.2.1 s.2.2.2.2.2.2.2.2.1 s.2.2.2.2.2.2.2.2.2) (b,c,false,0,d,e,f,g,h,i)).bind fun r=>iu r.1 r.2.1 r.2.2.1 r.2.2.2.1 r.2.2.2.2.1 r.2.2.2.2.2.1 r.2.2.2.2.2.2.1 r.2.2.2.2.2.2.2.1 r.2.2.2.2.2.2.2.2) (some (.out (b,c,d,e,f,g,h,i)))
def gy (vrec:az->ae->Option (ByteArray×az)) (c:az) (f:ae) (d:LB):=(loop (fun s:LB×LK×Bool×LU×Int×LI×LR×LB×LL=>eC vrec s.1 s.2.1 s.2.2.1 s.2.2.2.1 s.2.2.2.2.1 s.2.2.2.2.2.1 s.2.2.2.2.2.2.1 s.2.2.2.2.2.2.2.1 s.2.2.2.2.2.2.2.2) (d,[f],true,c.l,c.b.r,c.b.i,c.b.s,c.e,c.h)).bind fun r=>e9 r.1 r.2.1 r.2.2.1 r.2.2.2.1 r.2.2.2.2.1 r.2.2.2.2.2.1 r.2.2.2.2.2.2.1 r.2.2.2.2.2.2.2
def ie (vrec:az->ae->Option (ByteArray×az)) (d:az) (b:ae):=(kd b).bind fun c=>gy vrec d b (dS aK b c ([]:LB))
theorem wv (vrec:az->ae->Option (ByteArray×az)) (hvrec:ov vrec) (p:az) (H:ae) (o:Nat) (E F G:Value) (d:Nat) (t:Array MapEntry) (z f:Nat) (u:Array MapEntry) (q:Nat) (hD:xH T L [xS o E p.b.r F G d f,om d t z,om f u q]) (x3:aF an (dT T [xS o E p.b.r F G d f,om d t z,om f u q]) L E p.l) (x4:aF ac (dT T [xS o E p.b.r F G d f,om d t z,om f u q]) L F p.b.i) (xb:aF aa (dT T [xS o E p.b.r F G d f,om d t z,om f u q]) L G p.b.s) (wk:bE ad true a6.str false (dT T [xS o E p.b.r F G d f,om d t z,om f u q]) L t p.e) (wp:bE ad true (a6.slice ad) false (dT T [xS o E p.b.r F G d f,om d t z,om f u q]) L u p.h) (hLv:dh (dT T [xS o E p.b.r F G d f,om d t z,om f u q]) L) (y:az) (B:ie vrec p H=some y):bg aR (MD [xS o E p.b.r F G d f,om d t z,om f u q]) 172 [pt o 0,.agg (aX H).toArray] L (fun v w'=>∃ (e5 e6 e8:Value) (af:Array MapEntry) (bb:Nat) (ag:Array MapEntry) (bi:Nat),v = .tuple #[]/\mx L w' [xS o E p.b.r F G d f,om d t z,om f u q] [xS o e5 y.b.r e6 e8 d f,om d af bb,om f ag bi]/\aF an (dT T [xS o e5 y.b.r e6 e8 d f,om d af bb,om f ag bi]) w' e5 y.l/\aF ac (dT T [xS o e5 y.b.r e6 e8 d f,om d af bb,om f ag bi]) w' e6 y.b.i/\aF aa (dT T [xS o e5 y.b.r e6 e8 d f,om d af bb,om f ag bi]) w' e8 y.b.s/\bE ad true a6.str false (dT T [xS o e5 y.b.r e6 e8 d f,om d af bb,om f ag bi]) w' af y.e/\bE ad true (a6.slice ad) false (dT T [xS o e5 y.b.r e6 e8 d f,om d af bb,om f ag bi]) w' ag y.h):=by
 refine fT (c:=_) Tryz.func172 rfl T 135 Tryz.ntmps172 hT rfl hD fun a I=>?_;replace I:=(((((I.fact bH hLv).fS x3).fS x4).fS xb).fM wk).fM wp;unfold ie at B;refine kB I fun ns zg a w O I=>?_;refine am I fun a I=>?_;refine aM (J:=fun a w=>∃ (h1:LB) (g:Nat) (f5:AM) (h7:Nat),St L (MD [xS o E p.b.r F G d f,om d t z,om f u q]) T 135 [(0,pt o 0),(3,pt ns 0),(4,.map (some g))] [om g f5 h7,om d t z,om f u q,xS o E p.b.r F G d f,.box ns (aX H) 30] [pg f5 h1,CK f5 h7,aL an E p.l,aL ac F p.b.i,aL aa G p.b.s,pg t p.e,sW u p.h,bH] a w/\gy vrec p H h1=some y) ?_ ?_
 ·refine dr [(4,.any)] I fun w hQ I=>?_;refine gE [1,2] I fun a I=>?_;obtain⟨gb,no,B⟩:=bd B;refine dQ (i:=0) (j:=3) rfl rfl (by kernel_rfl) rfl rfl ?_ ?_
  ·skip;refine id (FO ad true a6.str false I rfl fun xc zi a w O I=>⟨fq (O),?_⟩);refine ec 3 I Kb (tT _ _ I.dlt H _ no) fun _ w C a O U=>?_;obtain rfl:=C;have I:=eL U;refine e1 4 (BL I ut c6 0 rfl 1 rfl 0 rfl (c:=(aX H)) (cv:=[a8 gb]) (key:=H) (val:=gb) rfl rfl rfl rfl rfl fun rs rr w O I=>⟨jf rfl O qS,?_⟩);refine gE [5,6] I fun a I=>?_;refine eD ?_;exact fin
  skip;refine id (bB I Kb rfl rfl (tT _ _ I.dlt H _ no) fun _ w C a O U=>⟨fq (O),?_⟩);obtain rfl:=C;have I:=eL U;refine e1 0 (FO ad true a6.str false I rfl fun xe zm a w O I=>⟨fq (O),?_⟩);refine e1 4 (BL I ut c6 0 rfl 1 rfl 0 rfl (c:=(aX H)) (cv:=[a8 gb]) (key:=H) (val:=gb) rfl rfl rfl rfl rfl fun rs rr w O I=>⟨jf rfl O qS,?_⟩);refine gE [5,6] I fun a I=>?_;refine eD ?_;exact fin
 rintro a w ⟨h1,g,f5,h7,I,B⟩;unfold gy at B;refine am I fun a I=>?_;refine wl rfl (bf (ps:=[(0,.tmp 21)]) I iA fH (zl:=[aj 0,a8 cp]) (by kernel_rfl) rfl (us:=[(aX H)]) ⟨rfl,trivial⟩ (ws:=(aX H)) rfl rfl rfl rfl fun xg a w O I=>?_);refine am I fun a I=>?_;refine aM (J:=fun a w=>∃ (c9:LB) (bl:LK) (bt:LU) (c1:Int) (c2:LI) (c3:LR) (hP:LB) (c4:LL) (a9:AM) (ch:Nat) (ea:Value) (ck:LV) (hu:AM) (nv:Nat) (S:AM) (cl:Nat) (a0 a1 a2:Value),St L (MD [xS o E p.b.r F G d f,om d t z,om f u q]) T 135 [(0,pt o 0),(4,.map (some g)),(5,ea)] [om g a9 ch,aA ea ck,om d hu nv,om f S cl,xS o a0 c1 a1 a2 d f] [pg a9 c9,CK a9 ch,ap ad ck bl,aL an a0 bt,aL ac a1 c2,aL aa a2 c3,pg hu hP,sW S c4,bH] a w/\e9 c9 bl bt c1 c2 c3 hP c4=some y) ?_ ?_
 ·refine am I fun a I=>?_;replace I:=I.lit (R:=ad) (us:=(aX H)) (xs:=[H]) 0 rfl (by decide) (aP (R:=ad) (x:=H) rfl) rfl rfl;obtain⟨r1,pf,hMo1⟩:=bd B;refine bF _ (fun s a w=>∃ (ca:LB) (dl:LK) (ex:Bool) (dn:LU) (ds:Int) (e0:LI) (e2:LR) (e3:LB) (e4:LL) (f6:AM) (h8:Nat) (lb:Value) (h9:LV) (hv:AM) (o1:Nat) (hw:AM) (o2:Nat) (le ll ls:Value),(ca,dl,ex,dn,ds,e0,e2,e3,e4)=s/\St L (MD [xS o E p.b.r F G d f,om d t z,om f u q]) T 135 [(0,pt o 0),(4,.map (some g)),(5,lb),(6,.bool ex)] [om g f6 h8,aA lb h9,om d hv o1,om f hw o2,xS o le ds ll ls d f] [pg f6 ca,CK f6 h8,ap ad h9 dl,aL an le dn,aL ac ll e0,aL aa ls e2,pg hv e3,sW hw e4,bH] a w) pf ⟨_,_,_,_,_,_,_,_,_,_,_,_,_,_,_,_,_,_,_,_,rfl,I.mt [1,0,2,3,4] [1,2,0,3,4,5,6,7,8]⟩ ?_;rintro s a w f1 ⟨ca,dl,ex,dn,ds,e0,e2,e3,e4,f6,h8,lb,h9,hv,o1,hw,o2,le,ll,ls,rfl,I⟩ B hf1;have B:eC vrec ca dl ex dn ds e0 e2 e3 e4=some f1:=B;unfold eC at B;refine aC ?_;refine am I fun a I=>?_;rcases cd B with⟨s0,B⟩|⟨s0,B⟩
  ·refine QR I fun a I=>?_;refine Ix (J:=fun a w=>∃ (gi:LB) (hH:LK) (h2:Bool) (hV:LU) (hW:Int) (hX:LI) (hY:LR) (i0:LB) (i1:LL) (f7:AM) (ha:Nat) (lt:Value) (hb:LV) (hx:AM) (o3:Nat) (hy:AM) (of:Nat) (lv m0 m1:Value),St L (MD [xS o E p.b.r F G d f,om d t z,om f u q]) T 135 [(0,pt o 0),(4,.map (some g)),(5,lt),(6,.bool h2)] [om g f7 ha,aA lt hb,om d hx o3,om f hy of,xS o lv hW m0 m1 d f] [pg f7 gi,CK f7 ha,ap ad hb hH,aL an lv hV,aL ac m0 hX,aL aa m1 hY,pg hx i0,sW hy i1,bH] a w/\iu gi hH h2 hV hW hX hY i0 i1=some f1) ?_ ?_
   ·refine am I fun a I=>?_;obtain⟨r2,x1,hMo2⟩:=bd B;refine bF _ (fun s a w=>∃ (a3:LB) (ak:LK) (a4:Bool) (A:Int) (Q:LU) (ao:Int) (av:LI) (b0:LR) (b2:LB) (b3:LL) (ab:AM) (cs:Nat) (ed:Value) (d0:LV) (d2:AM) (hc:Nat) (d3:AM) (hd:Nat) (eg ei el:Value),(a3,ak,a4,A,Q,ao,av,b0,b2,b3)=s/\St L (MD [xS o E p.b.r F G d f,om d t z,om f u q]) T 135 [(0,pt o 0),(4,.map (some g)),(5,ed),(6,.bool a4),(7,aj A)] [om g ab cs,aA ed d0,om d d2 hc,om f d3 hd,xS o eg ao ei el d f] [pg ab a3,CK ab cs,ap ad d0 ak,aL an eg Q,aL ac ei av,aL aa el b0,pg d2 b2,sW d3 b3,bH] a w) x1 ⟨_,_,_,_,_,_,_,_,_,_,_,_,_,_,_,_,_,_,_,_,_,rfl,I.mt [0,1,2,3,4] [0,1,2,3,4,5,6,7,8]⟩ ?_;rintro s a w f2 ⟨a3,ak,a4,A,Q,ao,av,b0,b2,b3,ab,cs,ed,d0,d2,hc,d3,hd,eg,ei,el,rfl,I⟩ B hf2;have B:eB vrec a3 ak a4 A Q ao av b0 b2 b3=some f2:=B;unfold eB at B;refine aC ?_;refine am I fun a I=>?_;rcases cd B with⟨s1,B⟩|⟨s1,B⟩
    ·refine am I fun a I=>?_;refine aM (J:=fun a w=>∃ (gs:LB) (hI:LK) (h3:Bool) (i2:LU) (i3:Int) (i4:LI) (i5:LR) (i9:LB) (ib:LL) (f8:AM) (hf:Nat) (m2:Value) (hg:LV) (hz:AM) (oi:Nat) (hA:AM) (oj:Nat) (m3 md ms:Value),St L (MD [xS o E p.b.r F G d f,om d t z,om f u q]) T 135 [(0,pt o 0),(4,.map (some g)),(5,m2),(6,.bool h3),(7,aj A)] [om g f8 hf,aA m2 hg,om d hz oi,om f hA oj,xS o m3 i3 md ms d f] [pg f8 gs,CK f8 hf,ap ad hg hI,aL an m3 i2,aL ac md i4,aL aa ms i5,pg hz i9,sW hA ib,bH] a w/\dU A gs hI h3 i2 i3 i4 i5 i9 ib=some f2) ?_ ?_
     ·refine am I fun a I=>?_;refine aM (J:=fun a w=>∃ (kt:Bool) (l0:ByteArray) (l1:Int) (l2:ByteArray) (D:Nat),St L (MD [xS o E p.b.r F G d f,om d t z,om f u q]) T 135 [(0,pt o 0),(4,.map (some g)),(5,ed),(6,.bool a4),(7,aj A),(8,.slice none 0 0),(9,pt D 0)] [om g ab cs,aA ed d0,om d d2 hc,om f d3 hd,xS o eg ao ei el d f,.box D [.bool kt,a8 l0,aj l1,a8 l2] 225] [pg ab a3,CK ab cs,ap ad d0 ak,aL an eg Q,aL ac ei av,aL aa el b0,pg d2 b2,sW d3 b3,bH] a w/\gx vrec a3 ak a4 A Q ao av b0 b2 b3 kt l0 l1 l2=some f2) ?_ ?_
      ·obtain⟨N279,pl⟩:∃ N,N=w.heap.size:=⟨_,rfl⟩;replace I:=I.fact (IS N279) (pP pl);refine dr [(11,.new N279)] I fun w hQ I=>?_;refine gE [0,1,2,3,4,5] I fun a I=>?_;obtain⟨f4,q3,B⟩:=bd B;obtain⟨ra,vi,zs,y1,s2,sb,sc,sk⟩:=kL (R:=ad) I j7 dB 1 rfl 3 rfl q3;obtain rfl:=s2;refine dq 6 I (v:=pt ra vi) (sk rfl rfl) fun a I=>?_;refine dq 7 I (l:=[]) (v:=.agg (aX f4).toArray) (cg (k:=0) I dB 1 rfl sb sc rfl bO (us:=(aX f4)) rfl rfl (fun h=>by cases h)) fun a I=>?_;refine gE [8] I fun a I=>?_;replace I:=I.fact (aL a6.str (.slice none 0 0) []) (aF.nil_ _ _ _);obtain⟨G1,nm,B⟩:=bd B;refine dQ (i:=9) (j:=10) rfl rfl (by kernel_rfl) rfl rfl ?_ ?_
       ·skip;refine id (bB I wa rfl rfl (eE _ _ I.dlt I.g10 Q f4 ([]) _ _ I.g5 I.g0 _ nm) fun _ w C a O U=>⟨fq (O),?_⟩);obtain rfl:=C;have I:=eL U;have sn:=(I.g1:N279<=w.heap.size);refine e1 10 (df I nP rfl fun rd sp a w O I=>⟨fq (O),?_⟩);refine dw 11 (.blk (some rd)) _ (by kernel_rfl) (pT (cC sn sp)) ?_;refine es 11 I fun w I=>?_;refine eD ?_;exact fin
       skip;have sq:=(I.g1:N279<=w.heap.size);refine id (df I nP rfl fun rg st a w O I=>⟨fq (O),?_⟩);refine dw 11 (.blk (some rg)) _ (by kernel_rfl) (pT (cC sq st)) ?_;refine ec 9 I wa (eE _ _ I.dlt I.g10 Q f4 ([]) _ _ I.g5 I.g0 _ nm) fun _ w C a O U=>?_;obtain rfl:=C;have I:=eL U;refine es 11 I fun w I=>?_;refine eD ?_;exact fin
      rintro a w ⟨kt,l0,l1,l2,D,I,B⟩;unfold gx at B;refine aM (J:=fun a w=>∃ (gu:LB) (hJ:LK) (h4:Bool) (ih:LU) (ii:Int) (j0:LI) (j1:LR) (j3:LB) (jb:LL) (k4:Bool) (c5:ByteArray) (kk:Int) (ks:ByteArray) (fd:AM) (hh:Nat) (mv:Value) (hi:LV) (hB:AM) (ok:Nat) (hC:AM) (op:Nat) (n0 n1 n2:Value),St L (MD [xS o E p.b.r F G d f,om d t z,om f u q]) T 135 [(0,pt o 0),(4,.map (some g)),(5,mv),(6,.bool h4),(7,aj A),(9,pt D 0)] [om g fd hh,aA mv hi,om d hB ok,om f hC op,xS o n0 ii n1 n2 d f,.box D [.bool k4,a8 c5,aj kk,a8 ks] 225] [pg fd gu,CK fd hh,ap ad hi hJ,aL an n0 ih,aL ac n1 j0,aL aa n2 j1,pg hB j3,sW hC jb,bH] a w/\fa A gu hJ h4 ih ii j0 j1 j3 jb k4 c5 kk ks=some f2) ?_ ?_
      ·refine am I fun a I=>?_;replace I:=I.zn a6.str 9 (by decide);obtain⟨r3,x2,vb⟩:=bd B;refine bF _ (fun s a w=>∃ (b9:LB) (bs:LK) (cb:Bool) (K:LY) (V:LU) (W:Int) (X:LI) (Y:LR) (P:LB) (Z:LL) (b4:Bool) (b6:ByteArray) (m:Int) (n:ByteArray) (fl:AM) (hj:Nat) (n3:Value) (hk:LV) (b7:Value) (a5:LV) (dc:AM) (hl:Nat) (dk:AM) (hm:Nat) (eq er et:Value),(b9,bs,cb,K,V,W,X,Y,P,Z,b4,b6,m,n)=s/\St L (MD [xS o E p.b.r F G d f,om d t z,om f u q]) T 135 [(0,pt o 0),(4,.map (some g)),(5,n3),(6,.bool cb),(7,aj A),(8,b7),(9,pt D 0)] [om g fl hj,aA n3 hk,.own b7 9 a6.str.size a5,om d dc hl,om f dk hm,xS o eq W er et d f,.box D [.bool b4,a8 b6,aj m,a8 n] 225] [pg fl b9,CK fl hj,ap ad hk bs,ap a6.str a5 K,aL an eq V,aL ac er X,aL aa et Y,pg dc P,sW dk Z,bH] a w) x2 ⟨_,_,_,_,_,_,_,_,_,_,_,_,_,_,_,_,_,_,_,_,_,_,_,_,_,_,_,rfl,I.mt [1,2,0,3,4,5,6] [1,2,3,0,4,5,6,7,8,9]⟩ ?_;rintro s a w f3 ⟨b9,bs,cb,K,V,W,X,Y,P,Z,b4,b6,m,n,fl,hj,n3,hk,b7,a5,dc,hl,dk,hm,eq,er,et,rfl,I⟩ B x0;have B:dW vrec A b9 bs cb K V W X Y P Z b4 b6 m n=some f3:=B;unfold dW at B;refine aC ?_;refine am I fun a I=>?_;rcases cd B with⟨sy,B⟩|⟨sy,B⟩
       ·refine am I fun a I=>?_;refine aC ?_;refine dr [] I fun w hQ I=>?_;refine gE [0,1,2,3,4,5] I fun a I=>?_;obtain⟨w5,qe,B⟩:=bd B;obtain⟨y2,sz,sT⟩:=jr I ut c6 3 rfl 7 rfl (c:=[aj m,a8 n]) (key:=(ae.mk m n)) rfl N7 (zc:=[a8 cp]) rfl rfl qe;obtain rfl:=sz;refine dq 6 I (l:=[]) (v:=.tuple #[a8 w5,.bool ((cF aK (ae.mk m n) P).isSome)]) (sT rfl rfl bO) fun a I=>?_;refine gE [7,8,9,10,11] I fun a I=>?_;refine eD ?_;refine am I fun a I=>?_;refine aM (J:=fun a w=>∃ (gH:LB) (hK:LK) (h5:Bool) (M:ByteArray) (g9:LU) (js:Int) (k0:LI) (k1:LR) (k2:LB) (k3:LL) (fn:AM) (hn:Nat) (n4:Value) (ho:LV) (hE:AM) (os:Nat) (hF:AM) (p0:Nat) (n6 nd ng:Value),St L (MD [xS o E p.b.r F G d f,om d t z,om f u q]) T 135 [(0,pt o 0),(4,.map (some g)),(5,n4),(6,.bool h5),(7,aj A),(8,b7),(9,pt D 0),(10,a8 M)] [om g fn hn,aA n4 ho,.own b7 9 a6.str.size a5,om d hE os,om f hF p0,xS o n6 js nd ng d f,.box D [.bool b4,a8 b6,aj m,a8 n] 225] [pg fn gH,CK fn hn,ap ad ho hK,ap a6.str a5 K,aL an n6 g9,aL ac nd k0,aL aa ng k1,pg hE k2,sW hF k3,bH] a w/\cV A K gH hK h5 M g9 js k0 k1 k2 k3=some f3) ?_ ?_
        ·refine am I fun a I=>?_;rcases cd B with⟨t0,B⟩|⟨t0,B⟩
         ·exact fz
         refine am I fun a I=>?_;obtain⟨F1,qr,B⟩:=bd B;refine kF I uf (cY _ _ I.dlt (ae.mk m n) _ qr) fun w a I=>?_;rcases cd B with⟨t1,B⟩|⟨t1,B⟩
         ·refine am I fun a I=>?_;obtain⟨F2,qv,B⟩:=bd B;replace I:=I.re [5,3,4] [0,1,2,6];refine wl rfl (ci I Dp rfl rfl (hvrec _ _ I.zt (az.mk V (ah.mk W X Y) P Z) (ae.mk m n) _ _ _ _ _ _ _ _ _ _ I.dok I.d4 I.d5 I.d6 I.d7 I.d8 I.d9 _ qv) fun _ w C a O U=>?_);obtain⟨G2,Go,Ha,z5,y3,z6,y4,he,t2,p6,p7,pe,p4,p5⟩:=C;obtain rfl:=he.symm;have I:=U _ t2;replace I:=((((I.fS (p6.sub (ay _))).fS (p7.sub (ay _))).fS (pe.sub (ay _))).fM (p4.keep (al _ _) (ay _))).fM (p5.keep (al _ _) (ay _));exact fz
         refine am I fun a I=>?_;refine aM (J:=fun a w=>∃ (h0:LB) (hM:LK) (h6:Bool) (fr:AM) (hp:Nat) (nl:Value) (hq:LV),St L (MD [xS o E p.b.r F G d f,om d t z,om f u q]) T 135 [(0,pt o 0),(4,.map (some g)),(5,nl),(6,.bool h6),(7,aj A),(8,b7),(9,pt D 0)] [om g fr hp,aA nl hq,.own b7 9 a6.str.size a5,om d dc hl,om f dk hm,xS o eq W er et d f,.box D [.bool b4,a8 b6,aj m,a8 n] 225] [pg fr h0,CK fr hp,ap ad hq hM,ap a6.str a5 K,aL an eq V,aL ac er X,aL aa et Y,pg dc P,sW dk Z,bH] a w/\dV A K V W X Y P Z m n h0 hM h6=some f3) ?_ ?_
         ·refine am I fun a I=>?_;obtain⟨wf,r0,B⟩:=bd B;obtain⟨y5,t3,t4⟩:=jr I ut c6 0 rfl 0 rfl (c:=[aj m,a8 n]) (key:=(ae.mk m n)) rfl N7 (zc:=[a8 cp]) rfl rfl r0;obtain rfl:=t3;refine wl rfl (ky (v:=.tuple #[a8 wf,.bool ((cF aK (ae.mk m n) b9).isSome)]) I (t4 rfl rfl id) rfl rfl fun a I=>?_);refine am I fun a I=>?_;rcases cd B with⟨t5,B⟩|⟨t5,B⟩
          ·refine am I fun a I=>?_;refine aC ?_;refine dr [(6,.blk (some g))] I fun w hQ I=>?_;refine gE [0,1,2,3,4] I fun a I=>?_;obtain⟨pk,r4,B⟩:=bd B;refine ec 5 I Kb (tT _ _ I.dlt (ae.mk m n) _ r4) fun _ w C a O U=>?_;obtain rfl:=C;have I:=eL U;refine e1 6 (Ij I ut c6 0 rfl 0 rfl 1 rfl (c:=[aj m,a8 n]) (cv:=[a8 pk]) (key:=(ae.mk m n)) (val:=pk) rfl rfl rfl rfl rfl fun z7 yb w O I=>⟨jf rfl O gB,?_⟩);refine eD ?_;refine am I fun a I=>?_;refine wl rfl (bf (ps:=[(0,.tmp 70)]) I iA fH (zl:=[aj 0,a8 cp]) (by kernel_rfl) rfl (us:=[[aj m,a8 n]]) ⟨rfl,trivial⟩ (ws:=[aj m,a8 n]) rfl rfl rfl rfl fun xr a w O I=>?_);replace I:=(I.lit (R:=ad) (us:=[aj m,a8 n]) (xs:=[(ae.mk m n)]) 0 rfl (by decide) (aP (R:=ad) (x:=(ae.mk m n)) rfl) rfl rfl).zf (R:=ad) 0 rfl 0 rfl;obtain⟨t6,B⟩:=aW B;refine wl rfl (bG (R:=ad) (xs:=bs) (ys:=[(ae.mk m n)]) I iA (by decide) (by decide) rfl rfl 1 rfl 6 rfl 0 rfl t6 rfl fun Hb ye a w O I=>?_);exact fz
          exact fz
         rintro a w ⟨h0,hM,h6,fr,hp,nl,hq,I,B⟩;unfold dV at B;refine am I fun a I=>?_;obtain⟨w3,q7,B⟩:=bd B;obtain⟨yg,t7,t9⟩:=jr I ut c6 0 rfl 0 rfl (c:=[aj m,a8 n]) (key:=(ae.mk m n)) rfl N7 (zc:=[a8 cp]) rfl rfl q7;obtain rfl:=t7;refine wl rfl (ky (v:=a8 w3) I (t9 rfl rfl id) rfl rfl fun a I=>?_);exact fz
        rintro a w ⟨gH,hK,h5,M,g9,js,k0,k1,k2,k3,fn,hn,n4,ho,hE,os,hF,p0,n6,nd,ng,I,B⟩;unfold cV at B;refine am I fun a I=>?_;refine wl rfl (bf (ps:=[(0,.tmp 89)]) I zK O2 (zl:=[a8 cp]) (by kernel_rfl) rfl (us:=[[a8 M]]) ⟨rfl,trivial⟩ (ws:=[a8 M]) rfl rfl rfl rfl fun xt a w O I=>?_);replace I:=(I.lit (R:=a6.str) (us:=[a8 M]) (xs:=[M]) 0 rfl (by decide) (aP (R:=a6.str) (x:=M) rfl) rfl rfl).zf (R:=a6.str) 0 rfl 0 rfl;obtain⟨te,B⟩:=aW B;refine wl rfl (bG (R:=a6.str) (xs:=K) (ys:=[M]) I zK (by decide) (by decide) rfl rfl 2 rfl 5 rfl 0 rfl te rfl fun Hc yr a w O I=>?_);refine am I fun a I=>?_;refine dr [(10,.blk (some D))] I fun w hQ I=>?_;refine gE [0,1,2,3,4,5] I fun a I=>?_;obtain⟨ht,q2,B⟩:=bd B;obtain⟨rl,vs,zx,yv,th,tk,tl,tm⟩:=kL (R:=ad) I j7 dB 1 rfl 5 rfl q2;obtain rfl:=th;refine dq 6 I (v:=pt rl vs) (tm rfl rfl) fun a I=>?_;refine dq 7 I (l:=[]) (v:=.agg (aX ht).toArray) (cg (k:=0) I dB 1 rfl tk tl rfl bO (us:=(aX ht)) rfl rfl (fun h=>by cases h)) fun a I=>?_;refine gE [8] I fun a I=>?_;have hL:=I;replace hL:=hL.zf (R:=a6.str) 2 rfl 0 rfl;obtain⟨F0,q6,B⟩:=bd B;refine ec 9 I wa (eE _ _ hL.dlt hL.g13 g9 ht (K++([M])) _ _ hL.g8 hL.g0 _ q6) fun _ w C a O U=>?_;obtain rfl:=C;have I:=eL U;refine es 10 I fun w I=>?_;refine eD ?_;exact fin
       refine am I fun a I=>?_;cases B
       have hr:=x0 _ rfl;subst hr;have B:fa A b9 bs cb V W X Y P Z b4 b6 m n=some f2:=vb;exact fin
      rintro a w ⟨gu,hJ,h4,ih,ii,j0,j1,j3,jb,k4,c5,kk,ks,fd,hh,mv,hi,hB,ok,hC,op,n0,n1,n2,I,B⟩;unfold fa at B;refine aC ?_;refine dr [] I fun w hQ I=>?_;refine gE [0,1,2] I fun a I=>?_;obtain⟨eT,q0,B⟩:=bd B;obtain⟨rm,w0,B2,yy,ts,tt,ty,u1⟩:=kL (R:=ad) I j7 dB 1 rfl 2 rfl q0;obtain rfl:=ts;refine dq 3 I (v:=pt rm w0) (u1 rfl rfl) fun a I=>?_;refine dq 4 I (l:=[]) (v:=.agg (aX eT).toArray) (cg (k:=0) I dB 1 rfl tt ty rfl bO (us:=(aX eT)) rfl rfl (fun h=>by cases h)) fun a I=>?_;obtain⟨w2,q5,B⟩:=bd B;obtain⟨yO,u2,u3⟩:=jr I ut c6 0 rfl 0 rfl (c:=(aX eT)) (key:=eT) rfl N7 (zc:=[a8 cp]) rfl rfl q5;obtain rfl:=u2;refine dq 5 I (l:=[]) (v:=a8 w2) (u3 rfl rfl bO) fun a I=>?_;refine gE [6,7,8] I fun a I=>?_;refine eD ?_;refine am I fun a I=>?_;rcases cd B with⟨u8,B⟩|⟨u8,B⟩
      ·refine am I fun a I=>?_;refine dr [(7,.blk (some g)),(9,.blk (some g))] I fun w hQ I=>?_;refine gE [0,1,2] I fun a I=>?_;obtain⟨eX,q1,B⟩:=bd B;obtain⟨rn,w1,Bc,z0,up,uv,v0,v1⟩:=kL (R:=ad) I j7 dB 1 rfl 2 rfl q1;obtain rfl:=up;refine dq 3 I (v:=pt rn w1) (v1 rfl rfl) fun a I=>?_;refine dq 4 I (l:=[]) (v:=.agg (aX eX).toArray) (cg (k:=0) I dB 1 rfl uv v0 rfl bO (us:=(aX eX)) rfl rfl (fun h=>by cases h)) fun a I=>?_;refine gE [5] I fun a I=>?_;refine dq 6 I (l:=[.blk (some g)]) (v:=a8 c5) (dm I rfl MV 5 rfl (gA I 5 rfl rfl 0 rfl rfl (by decide) bO) (us:=[a8 c5]) rfl rfl (fun _=>rfl)) fun a I=>?_;refine e1 7 (Je I rfl ut c6 0 rfl 0 rfl 1 rfl (c:=(aX eX)) (key:=eX) rfl N7 (zc:=[a8 cp]) rfl rfl rfl rfl fun Hg z8 z1 DD a w O I=>⟨jf rfl O gB,?_⟩);refine gE [8] I fun a I=>?_;refine e1 9 (Jf (val:=c5) I 0 rfl 0 rfl rfl rfl rfl rfl fun z9 w O I=>⟨jf rfl O gB,?_⟩);refine gE [10] I fun a I=>?_;refine eD ?_;exact fin
      exact fz
     rintro a w ⟨gs,hI,h3,i2,i3,i4,i5,i9,ib,f8,hf,m2,hg,hz,oi,hA,oj,m3,md,ms,I,B⟩;unfold dU at B;exact fz
    refine am I fun a I=>?_;cases B
    have hr:=hf2 _ rfl;subst hr;have B:iu a3 ak a4 Q ao av b0 b2 b3=some f1:=hMo2;exact fin
   rintro a w ⟨gi,hH,h2,hV,hW,hX,hY,i0,i1,f7,ha,lt,hb,hx,o3,hy,of,lv,m0,m1,I,B⟩;unfold iu at B;exact fin
  refine am I fun a I=>?_;cases B
  have hr:=hf1 _ rfl;subst hr;have B:e9 ca dl dn ds e0 e2 e3 e4=some y:=hMo1;exact fin
 rintro a w ⟨c9,bl,bt,c1,c2,c3,hP,c4,a9,ch,ea,ck,hu,nv,S,cl,a0,a1,a2,I,B⟩;unfold e9 at B;refine io ?_;refine QR I fun a I=>?_;refine Ix (J:=fun a w=>∃ (hN:LB) (fs:AM) (hs:Nat),St L (MD [xS o E p.b.r F G d f,om d t z,om f u q]) T 135 [] [om d fs hs,om f S cl,xS o a0 c1 a1 a2 d f] [aL an a0 bt,aL ac a1 c2,aL aa a2 c3,pg fs hN,sW S c4,bH] a w/\ln bt c1 c2 c3 c4 hN=some y) ?_ ?_
 ·refine am I fun a I=>?_;obtain⟨r1,pf,hMo1⟩:=bd B;refine bF _ (fun s a w=>∃ (g6:Int) (g7:LB) (hG:AM) (p1:Nat),(g6,g7)=s/\St L (MD [xS o E p.b.r F G d f,om d t z,om f u q]) T 135 [(0,pt o 0),(4,.map (some g)),(120,ea),(121,aj (bl.length:Int)),(122,aj g6)] [om g a9 ch,aA ea ck,om d hG p1,om f S cl,xS o a0 c1 a1 a2 d f] [pg a9 c9,CK a9 ch,ap ad ck bl,aL an a0 bt,aL ac a1 c2,aL aa a2 c3,pg hG g7,sW S c4,bH] a w) pf ⟨_,_,_,_,rfl,I.mt [0,1,2,3,4] [0,1,2,3,4,5,6,7,8]⟩ ?_;rintro s a w f1 ⟨g6,g7,hG,p1,rfl,I⟩ B hf1;have B:iv c9 bl g6 g7=some f1:=B;unfold iv at B;refine am I fun a I=>?_;refine aC ?_;rcases cd B with⟨v5,B⟩|⟨v5,B⟩
  ·refine am I fun a I=>?_;refine aC ?_;refine am I fun a I=>?_;obtain⟨d1,pw,B⟩:=bd B;refine wl rfl (dx (R:=ad) I j7 dB rfl rfl 1 rfl 2 rfl pw rfl fun xx zp D0 z2 v6 v7 v8 a I=>?_);obtain rfl:=v6;refine qy I (cg (k:=0) I dB 1 rfl v7 v8 rfl id (us:=(aX d1)) rfl rfl (fun h=>by cases h)) fun a I=>?_;refine ka I fH fun y0 zo a w O I=>?_;refine go I fun a w I=>?_;refine dr [(8,.blk (some d))] I fun w hQ I=>?_;refine gE [0,1,2,3,4,5,6] I fun a I=>?_;obtain⟨la,q4,B⟩:=bd B;obtain⟨z3,v9,va⟩:=jr I ut c6 1 rfl 0 rfl (c:=(aX d1)) (key:=d1) rfl N7 (zc:=[a8 cp]) rfl rfl q4;obtain rfl:=v9;refine dq 7 I (l:=[]) (v:=a8 la) (va rfl rfl bO) fun a I=>?_;refine e1 8 (sN I ut c6 3 rfl 6 rfl (c:=(aX d1)) (cv:=[a8 la]) (key:=d1) (val:=la) rfl rfl rfl rfl rfl fun zb z4 w O I=>⟨jf rfl O gB,?_⟩);refine eD ?_;exact fz
  exact fz
 rintro a w ⟨hN,fs,hs,I,B⟩;unfold ln at B;refine Oo ?_;cases B
 refine aG I Tryz.results172 aI ?_;have hZ:=I.sl [2,0,1] [0,1,2,3,4];exact⟨a0,a1,a2,fs,hs,S,cl,rfl,hZ.zd,hZ.g0,hZ.g1,hZ.g2,hZ.g3,hZ.g4⟩
def e7 (vrec:az->ae->Option (ByteArray×az)) (u:ae) (d:LY) (f:LU) (g:Int) (j:LI) (k:LR) (m:LB) (n:LL) (p:Bool) (o:ByteArray) (q:Int) (t:ByteArray):Option (Fl (LY×LU×Int×LI×LR×LB×LL) (ByteArray×az)):=cond p (some (.out (o,(az.mk f (ah.mk g j k) (dS aK u o m) n)))) ((vrec (az.mk f (ah.mk g j k) m n) (ae.mk q t)).bind fun c=>gd (bP (d.length+([c.1]).length)) <| some (.go ((d++([c.1])),c.2.l,c.2.b.r,c.2.b.i,c.2.b.s,c.2.e,c.2.h)))
def it (vrec:az->ae->Option (ByteArray×az)) (e:ae) (c:LY) (d:LU) (f:Int) (g:LI) (h:LR) (i:LB) (j:LL):=(ej d e c).bind fun b=>e7 vrec e c d f g h i j b.c1 b.u b.x1.v b.x1.x
def eh (vrec:az->ae->Option (ByteArray×az)) (c:az) (d:ae):=(cu d).bind fun g=>cond g ((oL c.b d).bind fun j=>some ((j,c))) ((some ((cF aK d c.e).getD cp)).bind fun k=>cond ((cF aK d c.e).isSome) (some ((k,c))) ((cO d).bind fun m=>cond m ((ie vrec c d).bind fun f=>(some ((cF aK d f.e).getD cp)).bind fun n=>some ((n,f))) ((loop (fun s:LY×LU×Int×LI×LR×LB×LL=>it vrec d s.1 s.2.1 s.2.2.1 s.2.2.2.1 s.2.2.2.2.1 s.2.2.2.2.2.1 s.2.2.2.2.2.2) (([]:List ByteArray),c.l,c.b.r,c.b.i,c.b.s,c.e,c.h)).bind fun y=>some (y))))
theorem wu (vrec:az->ae->Option (ByteArray×az)) (hvrec:ov vrec) (g:az) (k:ae) (n:Nat) (K M P:Value) (d:Nat) (o:Array MapEntry) (q f:Nat) (p:Array MapEntry) (m:Nat) (hD:xH T L [xS n K g.b.r M P d f,om d o q,om f p m]) (f4:aF an (dT T [xS n K g.b.r M P d f,om d o q,om f p m]) L K g.l) (f5:aF ac (dT T [xS n K g.b.r M P d f,om d o q,om f p m]) L M g.b.i) (f6:aF aa (dT T [xS n K g.b.r M P d f,om d o q,om f p m]) L P g.b.s) (eX:bE ad true a6.str false (dT T [xS n K g.b.r M P d f,om d o q,om f p m]) L o g.e) (f2:bE ad true (a6.slice ad) false (dT T [xS n K g.b.r M P d f,om d o q,om f p m]) L p g.h) (hLv:dh (dT T [xS n K g.b.r M P d f,om d o q,om f p m]) L) (y:ByteArray×az) (B:eh vrec g k=some y):bg aR (MD [xS n K g.b.r M P d f,om d o q,om f p m]) 114 [pt n 0,.agg (aX k).toArray] L (fun v w'=>∃ (a3 a4 a5:Value) (z:Array MapEntry) (Q:Nat) (A:Array MapEntry) (S:Nat),v=a8 y.1/\mx L w' [xS n K g.b.r M P d f,om d o q,om f p m] [xS n a3 y.2.b.r a4 a5 d f,om d z Q,om f A S]/\aF an (dT T [xS n a3 y.2.b.r a4 a5 d f,om d z Q,om f A S]) w' a3 y.2.l/\aF ac (dT T [xS n a3 y.2.b.r a4 a5 d f,om d z Q,om f A S]) w' a4 y.2.b.i/\aF aa (dT T [xS n a3 y.2.b.r a4 a5 d f,om d z Q,om f A S]) w' a5 y.2.b.s/\bE ad true a6.str false (dT T [xS n a3 y.2.b.r a4 a5 d f,om d z Q,om f A S]) w' z y.2.e/\bE ad true (a6.slice ad) false (dT T [xS n a3 y.2.b.r a4 a5 d f,om d z Q,om f A S]) w' A y.2.h):=by
 refine fT (c:=_) Tryz.func114 rfl T 64 Tryz.ntmps114 hT rfl hD fun a I=>?_;replace I:=(((((I.fact bH hLv).fS f4).fS f5).fS f6).fM eX).fM f2;unfold eh at B;refine kB I fun ab g6 a w O I=>?_;refine am I fun a I=>?_;refine aC ?_;refine am I fun a I=>?_;obtain⟨g9,c3,B⟩:=bd B;refine kF I yx (da _ _ I.dlt k _ c3) fun w a I=>?_;rcases cd B with⟨dk,B⟩|⟨dk,B⟩
 ·refine am I fun a I=>?_;refine aC ?_;refine dr [] I fun w hQ I=>?_;refine gE [0,1,2,3,4] I fun a I=>?_;obtain⟨gb,c4,B⟩:=bd B;refine ec 5 I Mm (tA _ _ I.dlt g.b k _ _ I.g3 I.g2 _ c4) fun _ w C a O U=>?_;obtain rfl:=C;have I:=eL U;refine gE [6] I fun a I=>?_;refine eD ?_;refine am I fun a I=>?_;cases B
  refine aG I rfl (aw I rfl aI) ?_;have hZ:=I.sl [1,2,3] [4,3,2,1,0];exact⟨K,M,P,o,q,p,m,rfl,hZ.zd,hZ.g0,hZ.g1,hZ.g2,hZ.g3,hZ.g4⟩
 refine am I fun a I=>?_;refine aC ?_;refine aC ?_;refine dr [] I fun w hQ I=>?_;refine gE [0,1,2,3,4] I fun a I=>?_;obtain⟨el,c5,B⟩:=bd B;obtain⟨f8,dl,dn⟩:=jr I ut c6 2 rfl 1 rfl (c:=(aX k)) (key:=k) rfl N7 (zc:=[a8 cp]) rfl rfl c5;obtain rfl:=dl;refine dq 5 I (l:=[]) (v:=.tuple #[a8 el,.bool ((cF aK k g.e).isSome)]) (dn rfl rfl bO) fun a I=>?_;refine gE [6,7,8,9,10] I fun a I=>?_;refine eD ?_;refine am I fun a I=>?_;rcases cd B with⟨ds,B⟩|⟨ds,B⟩
 ·refine am I fun a I=>?_;cases B
  refine aG I rfl (aw I rfl aI) ?_;have hZ:=I.sl [1,2,3] [4,3,2,1,0];exact⟨K,M,P,o,q,p,m,rfl,hZ.zd,hZ.g0,hZ.g1,hZ.g2,hZ.g3,hZ.g4⟩
 refine am I fun a I=>?_;refine aC ?_;refine am I fun a I=>?_;obtain⟨gi,c9,B⟩:=bd B;refine kF I uf (cY _ _ I.dlt k _ c9) fun w a I=>?_;rcases cd B with⟨e0,B⟩|⟨e0,B⟩
 ·refine am I fun a I=>?_;obtain⟨gs,ca,B⟩:=bd B;replace I:=I.re [1,2,3] [0];refine wl rfl (ci I P5 rfl rfl (wv _ _ I.zt vrec hvrec g k _ _ _ _ _ _ _ _ _ _ I.dok I.d4 I.d3 I.d2 I.d1 I.d0 I.d5 _ ca) fun _ w C a O U=>?_);obtain⟨er,et,ex,d8,cl,d9,cs,he,e2,b9,bb,bi,b3,b4⟩:=C;obtain rfl:=he.symm;have I:=U _ e2;replace I:=((((I.fS (b9.sub (ay _))).fS (bb.sub (ay _))).fS (bi.sub (ay _))).fM (b3.keep (al _ _) (ay _))).fM (b4.keep (al _ _) (ay _));refine am I fun a I=>?_;refine aC ?_;refine dr [] I fun w hQ I=>?_;refine gE [0,1,2,3,4] I fun a I=>?_;obtain⟨eq,cb,B⟩:=bd B;obtain⟨fd,e3,e4⟩:=jr I ut c6 1 rfl 1 rfl (c:=(aX k)) (key:=k) rfl N7 (zc:=[a8 cp]) rfl rfl cb;obtain rfl:=e3;refine dq 5 I (l:=[]) (v:=a8 eq) (e4 rfl rfl bO) fun a I=>?_;refine gE [6] I fun a I=>?_;refine eD ?_;refine am I fun a I=>?_;cases B
  refine aG I rfl (aw I rfl aI) ?_;have hZ:=I.sl [0,1,2] [4,3,2,1,0];exact⟨er,et,ex,d8,cl,d9,cs,rfl,hZ.zd,hZ.g0,hZ.g1,hZ.g2,hZ.g3,hZ.g4⟩
 refine am I fun a I=>?_;replace I:=I.zn a6.str 9 (by decide);obtain⟨r1,f3,hMo1⟩:=bd B;refine bF _ (fun s a w=>∃ (t:LY) (u:LU) (D:Int) (E:LI) (F:LR) (G:LB) (H:LL) (a9:Value) (a0:LV) (a1:AM) (av:Nat) (V:AM) (af:Nat) (X Y Z:Value),(t,u,D,E,F,G,H)=s/\St L (MD [xS n K g.b.r M P d f,om d o q,om f p m]) T 64 [(0,pt n 0),(3,pt ab 0),(7,a9)] [.own a9 9 a6.str.size a0,om d a1 av,om f V af,xS n X D Y Z d f,.box ab (aX k) 30] [ap a6.str a0 t,aL an X u,aL ac Y E,aL aa Z F,pg a1 G,sW V H,bH] a w) f3 ⟨_,_,_,_,_,_,_,_,_,_,_,_,_,_,_,_,rfl,I.mt [0,3,4,2,1] [0,5,4,3,2,1,6]⟩ ?_;rintro s a w f1 ⟨t,u,D,E,F,G,H,a9,a0,a1,av,V,af,X,Y,Z,rfl,I⟩ B hf1;have B:it vrec k t u D E F G H=some f1:=B;unfold it at B;refine am I fun a I=>?_;refine aM (J:=fun a w=>∃ (b0:Bool) (a2:ByteArray) (ag:Int) (ak:ByteArray) (ao:Nat),St L (MD [xS n K g.b.r M P d f,om d o q,om f p m]) T 64 [(0,pt n 0),(3,pt ab 0),(7,a9),(8,pt ao 0)] [.own a9 9 a6.str.size a0,om d a1 av,om f V af,xS n X D Y Z d f,.box ab (aX k) 30,.box ao [.bool b0,a8 a2,aj ag,a8 ak] 225] [ap a6.str a0 t,aL an X u,aL ac Y E,aL aa Z F,pg a1 G,sW V H,bH] a w/\e7 vrec k t u D E F G H b0 a2 ag ak=some f1) ?_ ?_
 ·obtain⟨N148,c1⟩:∃ N,N=w.heap.size:=⟨_,rfl⟩;replace I:=I.fact (IS N148) (pP c1);refine dr [(8,.new N148)] I fun w hQ I=>?_;refine gE [0,1,2,3,4,5] I fun a I=>?_;have hL:=I;replace hL:=hL.zf (R:=a6.str) 0 rfl 1 rfl;obtain⟨g7,b2,B⟩:=bd B;refine dQ (i:=6) (j:=7) rfl rfl (by kernel_rfl) rfl rfl ?_ ?_
  ·skip;have hL:=I;replace hL:=hL.zf (R:=a6.str) 0 rfl 1 rfl;refine id (bB I wa rfl rfl (eE _ _ hL.dlt hL.g8 u k t _ _ hL.g3 hL.g0 _ b2) fun _ w C a O U=>⟨fq (O),?_⟩);obtain rfl:=C;have I:=eL U;have e5:=(I.g0:N148<=w.heap.size);refine e1 7 (df I nP rfl fun ch e6 a w O I=>⟨fq (O),?_⟩);refine dw 8 (.blk (some ch)) _ (by kernel_rfl) (pT (cC e5 e6)) ?_;refine es 8 I fun w I=>?_;refine eD ?_;exact fin
  skip;have e8:=(I.g0:N148<=w.heap.size);refine id (df I nP rfl fun ck ea a w O I=>⟨fq (O),?_⟩);refine dw 8 (.blk (some ck)) _ (by kernel_rfl) (pT (cC e8 ea)) ?_;have hL:=I;replace hL:=hL.zf (R:=a6.str) 1 rfl 1 rfl;refine ec 6 I wa (eE _ _ hL.dlt hL.g8 u k t _ _ hL.g3 hL.g0 _ b2) fun _ w C a O U=>?_;obtain rfl:=C;have I:=eL U;refine es 8 I fun w I=>?_;refine eD ?_;exact fin
 rintro a w ⟨b0,a2,ag,ak,ao,I,B⟩;unfold e7 at B;refine aC ?_;refine am I fun a I=>?_;rcases cd B with⟨ed,B⟩|⟨ed,B⟩
 ·refine am I fun a I=>?_;refine aC ?_;refine dr [(7,.blk (some d))] I fun w hQ I=>?_;refine gE [0,1,2,3,4,5,6] I fun a I=>?_;refine e1 7 (sN I ut c6 1 rfl 4 rfl (c:=(aX k)) (cv:=[a8 a2]) (key:=k) (val:=a2) rfl rfl rfl rfl rfl fun dc d7 w O I=>⟨jf rfl O gB,?_⟩);refine eD ?_;refine am I fun a I=>?_;cases B
  have hr:=hf1 _ rfl;subst hr;have B:=hMo1;cases B
  refine aG I rfl (aw I rfl aI) ?_;have hZ:=I.sl [3,1,2] [2,3,4,0,6];exact⟨X,Y,Z,dc,d7,V,af,rfl,hZ.zd,hZ.g0,hZ.g1,hZ.g2,hZ.g3,hZ.g4⟩
 refine am I fun a I=>?_;obtain⟨W,c2,B⟩:=bd B;replace I:=I.re [3,1,2] [0,4,5];refine wl rfl (ci I Dp rfl rfl (hvrec _ _ I.zt (az.mk u (ah.mk D E F) G H) (ae.mk ag ak) _ _ _ _ _ _ _ _ _ _ I.dok I.d1 I.d2 I.d3 I.d4 I.d5 I.d6 _ c2) fun _ w C a O U=>?_);obtain⟨gu,gH,h0,fs,fl,g5,fn,he,eg,bl,bs,bt,b6,b7⟩:=C;obtain rfl:=he.symm;have I:=U _ eg;replace I:=((((I.fS (bl.sub (ay _))).fS (bs.sub (ay _))).fS (bt.sub (ay _))).fM (b6.keep (al _ _) (ay _))).fM (b7.keep (al _ _) (ay _));refine wl rfl (bf (ps:=[(0,.tmp 61)]) I zK O2 (zl:=[a8 cp]) (by kernel_rfl) rfl (us:=[[a8 W.1]]) ⟨rfl,trivial⟩ (ws:=[a8 W.1]) rfl rfl rfl rfl fun f7 a w O I=>?_);replace I:=(I.lit (R:=a6.str) (us:=[a8 W.1]) (xs:=[W.1]) 0 rfl (by decide) (aP (R:=a6.str) (x:=W.1) rfl) rfl rfl).zf (R:=a6.str) 0 rfl 0 rfl;obtain⟨ei,B⟩:=aW B;refine wl rfl (bG (R:=a6.str) (xs:=t) (ys:=[W.1]) I zK (by decide) (by decide) rfl rfl 3 rfl 7 rfl 0 rfl ei rfl fun h1 fr a w O I=>?_);exact fz
end
end
section
open Go.Lib hiding intOf
def gT (s:ByteArray):Int:=if w9 s.toList<0 then 0 else if 65535<w9 s.toList then 0 else w9 s.toList
theorem Gu (s:ByteArray):oI s=some (gT s):=by
 unfold oI gT;rw [Km,ax];by_cases h1:w9 s.toList<0
 ·simp [h1]
 ·by_cases h2:65535<w9 s.toList
  ·simp [h1,h2]
  ·simp [h1,h2]
theorem jq (s:ByteArray):0<=gT s/\gT s<=65535:=by
 unfold gT;split
 ·omega
 ·split <;> omega
theorem tc {n:Nat} (h:n<65536):gT (cL n)=n:=by
 unfold gT;rw [vc,nx,Fy (by omega),if_neg (by omega),if_neg (by omega)]
theorem w4:∀ {l:List Int},(∀ x∈l,0<=x/\x<=65535)->0<=l.sum/\l.sum<=65535*l.length
 | [],_=>by simp
 | a::l,h=>by
  have h1:=w4 (l:=l) fun x hx=>h x (uR _ hx);have h2:=h a kh;simp only [List.sum_cons,eS];omega
def u6 (r:aN) (ls:List ByteArray):Int :=
 let s:=r.C+(ls.map gT).sum
 if r.n=1 then s.tmod 1000 else if r.n=2 then (s.tdiv 2).tmod 1000 else if r.n=3 then (ls.map gT).foldl max r.C else if r.n=4 then s.tmod 2 else (ls.map gT).foldl (fun a b=>wh .or .i64 a b) r.C
theorem MU {α:Type} {l:List α} {k:Nat} (h:k<l.length):l.take (k+1)=l.take k++[l[k]]:=by rw [List.take_add_one,bA h]; rfl
theorem Ku {r:aN} {ls:List ByteArray} (hc:0<=r.C/\r.C<=65535) (hl:ls.length<=1000):qZ r ls=some (u6 r ls):=by
 have hb:∀ x∈ls.map gT,0<=x/\x<=65535:=fun x hx=>by
  obtain⟨s,_,rfl⟩:=fG.1 hx;exact jq s
 have h1:loop (fun s:Int×Int×Int×Int=>jS ls s.1 s.2.1 s.2.2.1 s.2.2.2) (r.C,r.C,r.C,0)=some (r.C+(ls.map gT).sum,(ls.map gT).foldl max r.C,(ls.map gT).foldl (fun a b=>wh .or .i64 a b) r.C):=by
  refine wT (I:=fun k s=>s=(r.C+((ls.take k).map gT).sum,((ls.take k).map gT).foldl max r.C,((ls.take k).map gT).foldl (fun a b=>wh .or .i64 a b) r.C,(k:Int))) _ ls.length ?_ ?_ (by simp)
  ·rintro k _ O rfl;left;refine⟨_,?_,rfl⟩;unfold jS;have hs:=w4 (l:=(ls.take k).map gT) fun x hx=>by
    obtain⟨s,_,rfl⟩:=fG.1 hx;exact jq s
   have hlen:((ls.take k).map gT).length<=1000:=by rw [m5,je]; omega
   have hx:=jq ls[k];dsimp only;rw [dlt O,cond_true,bm O,ax,Gu,ax,qq (by omega) (by omega),qq (by omega) (by omega),MU O];simp only [vT,vU,CH,List.sum_append,List.foldl_append,GO,List.foldl_nil,List.sum_cons,List.sum_nil,Int.add_zero,Int.natCast_add,Int.natCast_one,Int.add_assoc]
  ·rintro _ rfl;unfold jS;rw [bZ];simp
 have hs:=w4 hb;rw [m5] at hs;unfold qZ lU u6;rw [h1,ax];simp only [];by_cases f1:r.n=1
 ·simp [f1]
 ·by_cases f2:r.n=2
  ·have ht:0<=(r.C+(ls.map gT).sum).tdiv 2/\(r.C+(ls.map gT).sum).tdiv 2<=r.C+(ls.map gT).sum:=by
    rw [Int.tdiv_eq_ediv_of_nonneg (by omega)]; omega
   simp only [f2];rw [qq (by omega) (by omega)];simp
  ·by_cases f3:r.n=3
   ·simp [f3]
   ·by_cases f4:r.n=4
    ·simp [f4]
    ·have hb:∀ n:Int,r.n≠n->(r.n==n)=false:=fun n h=>by simpa using h
     rw [hb 1 f1,hb 2 f2,hb 3 f3,hb 4 f4];simp [f1,f2,f3,f4]
theorem Q0 {a b:Nat} (ha:a<65536) (hb:b<65536):wh .or .i64 (a:Int) (b:Int)=((a ||| b:Nat):Int)/\a ||| b<65536:=by
 have h:=Nat.or_lt_two_pow (n:=16) ha hb;refine⟨?_,h⟩;unfold wh;simp only [show IntKind.i64.bits=64 from rfl];rw [BitVec.toNat_or,BitVec.toNat_ofInt,BitVec.toNat_ofInt,show ((a:Int) % ((2 ^ IntKind.i64.bits:Nat):Int)).toNat=a by rw [show IntKind.i64.bits=64 from rfl]; omega,show ((b:Int) % ((2 ^ IntKind.i64.bits:Nat):Int)).toNat=b by rw [show IntKind.i64.bits=64 from rfl]; omega];exact qq (by omega) (by omega)
theorem EB:∀ (l:List Nat) (a:Nat),(∀ x∈l,x<=65535)->a<65536->(l.map fun x:Nat=>(x:Int)).foldl (fun a b=>wh .or .i64 a b) (a:Int)=((l.foldl (· ||| ·) a:Nat):Int)/\l.foldl (· ||| ·) a<65536
 | [],a,_,ha=>⟨rfl,ha⟩
 | x::l,a,h,ha=>by
  have hx:=h x kh;obtain⟨h1,h2⟩:=Q0 ha (show x<65536 by omega);simp only [vU,GO,h1];exact EB l _ (fun y hy=>h y (uR _ hy)) h2
theorem u7 {l:List aN} {n:Nat} {r:aN} (C:aV l) (h:l[n]? = some r) {ls:List ByteArray} (hl:ls.length<=3):∃ m:Nat,u6 r ls=m/\m<65536:=by
 have hb:∀ x∈ls.map gT,0<=x/\x<=65535:=fun x hx=>by
  obtain⟨s,_,rfl⟩:=fG.1 hx;exact jq s
 have hs:=w4 hb;rw [m5] at hs;have hr:=C.each n r h;unfold u6;dsimp only;cases hg:r.f with
 | false =>
  obtain⟨h1,h2,h3,h4⟩:=hr.plain hg;have key:∀ z:Int,0<=z->z<65536->∃ m:Nat,z=m/\m<65536:=fun z h1 h2=>⟨z.toNat,by omega,by omega⟩;by_cases f1:r.n=1
  ·rw [if_pos f1];refine key _ (D7 _ (by omega)) ?_;have:=D6 (r.C+(ls.map gT).sum) (b:=1000) (by omega);omega
  ·rw [if_neg f1];by_cases f2:r.n=2
   ·rw [if_pos f2];have ht:0<=(r.C+(ls.map gT).sum).tdiv 2:=by rw [Int.tdiv_eq_ediv_of_nonneg (by omega)]; omega
    refine key _ (D7 _ ht) ?_;have:=D6 ((r.C+(ls.map gT).sum).tdiv 2) (b:=1000) (by omega);omega
   ·rw [if_neg f2];by_cases f3:r.n=3
    ·rw [if_pos f3];have hm:∀ (xs:List Int) (c:Int),(∀ x∈xs,0<=x/\x<=65535)->0<=c->c<=65535->0<=xs.foldl max c/\xs.foldl max c<=65535:=by
      intro xs
      induction xs with
      | nil=>intro c _ h1 h2; exact⟨h1,h2⟩
      | cons x xs ih =>
       intro c hx h1 h2;have:=hx x kh;exact ih _ (fun y hy=>hx y (uR _ hy)) (by omega) (by omega)
     have:=hm (ls.map gT) r.C hb (by omega) (by omega);exact key _ this.1 (by omega)
    ·rw [if_neg f3,if_pos (by omega)];refine key _ (D7 _ (by omega)) ?_;have:=D6 (r.C+(ls.map gT).sum) (b:=2) (by omega);omega
 | true =>
  obtain⟨h1,h2,h3⟩:=hr.ring hg;rw [if_neg (by omega),if_neg (by omega),if_neg (by omega),if_neg (by omega)];obtain⟨c,hc⟩:∃ c:Nat,r.C=c:=⟨r.C.toNat,by omega⟩;have e:ls.map gT=(ls.map fun s=>(gT s).toNat).map fun x:Nat=>(x:Int):=by
   rw [List.map_map];refine List.map_congr_left fun s _=>?_;have:=jq s;simp only [Function.comp];omega
  rw [e,hc];have:=EB (ls.map fun s=>(gT s).toNat) c (fun x hx=>by
   obtain⟨s,_,rfl⟩:=fG.1 hx;have:=jq s;omega) (by omega)
  exact⟨_,this.1,this.2⟩
end
section
open Go.Lib hiding intOf
variable {a b:ae}
theorem H3:∀ a:List UInt8,compareBytes a a=0
 | []=>rfl
 | x::r=>by
  have:¬ x<x:=UInt8.lt_irrefl x;simp [compareBytes,this,H3 r]
theorem Nh:∀ {a b:List UInt8},compareBytes a b=0->a=b
 | [],[],_=>rfl
 | [],_::_,h=>by simp [compareBytes] at h
 | _::_,[],h=>by simp [compareBytes] at h
 | x::a,y::b,h=>by
  unfold compareBytes at h;split at h
  ·cases h
  ·split at h
   ·cases h
   ·rename_i h1 h2;have e:x=y:=UInt8.le_antisymm (An.1 h2) (An.1 h1);rw [e,Nh h]
theorem H2:∀ a b:List UInt8,compareBytes b a = -compareBytes a b
 | [],[]=>rfl
 | [],_::_=>rfl
 | _::_,[]=>rfl
 | x::a,y::b=>by
  unfold compareBytes;by_cases h1:x<y
  ·have h2:¬ y<x:=fun h=>UInt8.lt_irrefl _ (UInt8.lt_trans h1 h);simp [h1,h2]
  ·by_cases h2:y<x
   ·simp [h1,h2]
   ·simp [h1,h2,H2 a b]
theorem JX (a b:List UInt8):compareBytes a b = -1∨compareBytes a b=0∨compareBytes a b=1:=by
 induction a generalizing b with
 | nil=>cases b <;> simp [compareBytes]
 | cons x a ih =>
  cases b with
  | nil=>simp [compareBytes]
  | cons y b =>
   unfold compareBytes;split
   ·simp
   ·split
    ·simp
    ·exact ih b
theorem Fm:∀ {a b c:List UInt8},compareBytes a b<0->compareBytes b c<0->compareBytes a c<0
 | [],[],_,h,_=>by simp [compareBytes] at h
 | [],_::_,[],_,h=>by simp [compareBytes] at h
 | [],_::_,_::_,_,_=>by simp [compareBytes]
 | _::_,[],_,h,_=>by simp [compareBytes] at h
 | _::_,_::_,[],_,h=>by simp [compareBytes] at h
 | x::a,y::b,z::c,h1,h2=>by
  unfold compareBytes at h1 h2 ⊢;by_cases e1:x<y
  ·by_cases e2:y<z
   ·simp [UInt8.lt_trans e1 e2]
   ·by_cases e3:z<y
    ·simp [e2,e3] at h2
    ·have e:y=z:=UInt8.le_antisymm (An.1 e3) (An.1 e2);subst e; simp [e1]
  ·by_cases e2:y<x
   ·simp [e1,e2] at h1
   ·have e:x=y:=UInt8.le_antisymm (An.1 e2) (An.1 e1);subst e;simp only [e1,if_false] at h1;by_cases e3:x<z
    ·simp [e3]
    ·by_cases e4:z<x
     ·simp [e3,e4] at h2
     ·simp only [e3,e4,if_false] at h2 ⊢;exact Fm h1 h2
def cc (a b:ae):Int:=if a.v<b.v then -1 else if b.v<a.v then 1 else compareBytes a.x.toList b.x.toList
theorem toList_inj {a b:ByteArray} (h:a.toList=b.toList):a=b:=by
 rw [ByteArray.toList_eq,ByteArray.toList_eq] at h;exact GJ (D3.1 h)
theorem ul (a:ae):cc a a=0:=by simp [cc,H3]
theorem Ik (h:cc a b=0):a=b:=by
 unfold cc at h;split at h
 ·cases h
 ·split at h
  ·cases h
  ·obtain⟨k,t⟩:=a;obtain⟨l,s⟩:=b;simp only [ae.mk.injEq] at *;exact⟨by omega,toList_inj (Nh h)⟩
theorem Jg:cc a b=0↔a=b:=⟨Ik,fun h=>by rw [h,ul]⟩
theorem zP (a b:ae):cc b a = -cc a b:=by
 unfold cc;by_cases h1:a.v<b.v
 ·have h2:¬ b.v<a.v:=by omega
  simp [h1,h2]
 ·by_cases h2:b.v<a.v
  ·simp [h1,h2]
  ·simp [h1,h2,H2 a.x.toList]
theorem sP (a b:ae):cc a b = -1∨cc a b=0∨cc a b=1:=by
 unfold cc;split
 ·simp
 ·split
  ·simp
  ·exact JX _ _
theorem lI {c:ae} (h1:cc a b<0) (h2:cc b c<0):cc a c<0:=by
 unfold cc at h1 h2 ⊢;by_cases e1:a.v<b.v
 ·by_cases e2:b.v<c.v
  ·rw [if_pos (by omega)]; omega
  ·by_cases e3:c.v<b.v
   ·simp [e2,e3] at h2
   ·rw [if_pos (by omega)]; omega
 ·by_cases e2:b.v<a.v
  ·simp [e1,e2] at h1
  ·simp only [e1,e2,if_false] at h1;by_cases e3:b.v<c.v
   ·rw [if_pos (by omega)]; omega
   ·by_cases e4:c.v<b.v
    ·simp [e3,e4] at h2
    ·simp only [e3,e4,if_false] at h2;rw [if_neg (by omega),if_neg (by omega)];exact Fm h1 h2
theorem o7:0<cc a b↔cc b a<0:=by rw [zP a b]; omega
theorem BM:¬ cc a a<0:=by rw [ul]; omega
theorem Dz (h:cc a b<0):¬ cc b a<0:=by rw [zP a b]; omega
theorem tv (h:cc a b<0):a≠b:=fun e=>by subst e; exact BM h
theorem um (a b:ae):cc a b<0∨a=b∨cc b a<0:=by
 rcases sP a b with h | h | h
 ·exact .inl (by omega)
 ·exact .inr (.inl (Ik h))
 ·exact .inr (.inr (by rw [zP a b]; omega))
theorem ny {c:ae} (h1:¬ cc b a<0) (h2:cc b c<0):cc a c<0:=by
 rcases um a b with h | h | h
 ·exact lI h h2
 ·subst h; exact h2
 ·exact absurd h h1
def dt (a b:ae):Bool:=a.v==b.v&&a.x.toList==b.x.toList
theorem dM:dt a b=true↔a=b:=by
 unfold dt;obtain⟨k,t⟩:=a;obtain⟨l,s⟩:=b;simp only [kg,beq_iff_eq,ae.mk.injEq];exact⟨fun h=>⟨h.1,toList_inj h.2⟩,fun h=>⟨h.1,by rw [h.2]⟩⟩
theorem wS:dt a b=false↔a≠b:=by rw [<- Bool.not_eq_true,dM]
theorem Mo (x y:Int):qQ x y=some (if x<y then -1 else if y<x then 1 else 0):=by
 unfold qQ nn;by_cases h1:x<y
 ·simp [h1]
 ·by_cases h2:y<x <;> simp [h1,h2]
theorem OF (a b:Int):Bs [a,b]=some (if a≠0 then a else b):=by
 unfold Bs;by_cases h:a=0
 ·subst h;rw [Bf (s':=1)]
  ·by_cases hb:b=0
   ·subst hb;rw [Bf (s':=2)]
    ·rw [lJ (r:=.go ())]
     ·rfl
     ·rfl
    ·rfl
   ·rw [lJ (r:=.out b)]
    ·simp [Fl.el]
    ·unfold ug;have:(b != 0)=true:=by simpa using hb
     simp [bu,this]
  ·rfl
 ·rw [lJ (r:=.out a)]
  ·simp [Fl.el,h]
  ·unfold ug;have:(a != 0)=true:=by simpa using h
   simp [bu,this]
theorem Hi (a b:ae):ve a b=some (cc a b):=by
 unfold ve cc r8;rw [Mo];simp only [ax];rw [OF];by_cases h1:a.v<b.v
 ·simp [h1]
 ·by_cases h2:b.v<a.v <;> simp [h1,h2]
section
variable {κ ν:Type} {q:κ->κ->Bool} (hq:∀ a b,q a b=true↔a=b)
def Nd (xs:List (κ×ν)):Prop:=(xs.map (·.1)).Nodup
include hq
theorem sY (a:κ):q a a=true:=(hq a a).2 rfl
theorem zW {a b:κ} (h:a≠b):q a b=false:=by rw [<- Bool.not_eq_true,hq]; exact h
theorem BS {k:κ} {v:ν}:∀ {xs:List (κ×ν)},Nd xs->(cF q k xs=some v↔(k,v)∈xs)
 | [],_=>by simp [cF]
 | x::r,h=>by
  have h':=Am.1 (show (x.1::r.map (·.1)).Nodup from h);have ih:=BS (k:=k) (v:=v) (xs:=r) h'.2;by_cases e:k=x.1
  ·subst e;rw [cF,sY hq,cond_true];constructor
   ·intro h; injection h with h; rw [<- h]; exact kh
   ·intro hm;rcases cI.1 hm with hm | hm
    ·rw [<- hm]
    ·exact absurd (IL (f:=(·.1)) hm) h'.1
  ·rw [cF,zW hq e,cond_false,ih,cI];constructor
   ·exact .inr
   ·rintro (h | h)
    ·exact absurd (congrArg (·.1) h) e
    ·exact h
theorem DG {k:κ}:∀ {xs:List (κ×ν)},cF q k xs=none↔∀ v,(k,v) ∉ xs
 | []=>by simp [cF]
 | x::r=>by
  by_cases e:k=x.1
  ·rw [cF,e,sY hq,cond_true];constructor
   ·intro h; cases h
   ·intro h; exact absurd kh (h x.2)
  ·rw [cF,zW hq e,cond_false,DG];constructor
   ·intro h v hv;rcases cI.1 hv with hv | hv
    ·exact e (congrArg (·.1) hv)
    ·exact h v hv
   ·intro h v hv; exact h v (uR _ hv)
theorem kR (k k':κ) (v:ν):∀ (xs:List (κ×ν)),cF q k (dS q k' v xs)=if q k k' then some v else cF q k xs
 | []=>by simp [dS,cF,Bool.cond_eq_ite]
 | x::r=>by
  by_cases e:k'=x.1
  ·rw [dS,e,sY hq,cond_true,cF,cF];cases q k x.1 <;> simp
  ·rw [dS,zW hq e,cond_false,cF,cF,kR k k' v r];by_cases e2:k=x.1
   ·have:q k k'=false:=zW hq (fun h=>e (h.symm.trans e2));rw [e2,sY hq,cond_true,cond_true,<- e2,this]; rfl
   ·rw [zW hq e2]; rfl
theorem DH (k:κ) (v:ν):∀ {xs:List (κ×ν)},Nd xs->(dS q k v xs).Perm ((k,v)::xs.filter fun y=>!q k y.1)
 | [],_=>by simp [dS]
 | x::r,h=>by
  have h':=Am.1 (show (x.1::r.map (·.1)).Nodup from h);by_cases e:k=x.1
  ·rw [dS,e,sY hq,cond_true,rK (by simp [sY hq])];rw [xF.2];intro y hy;rw [zW hq]; rfl;intro e2;exact h'.1 (e2▸IL hy)
  ·rw [dS,zW hq e,cond_false,uP (by simp [zW hq e])];exact ((DH k v h'.2).cons x).trans (List.Perm.swap _ _ _)
theorem wj (k:κ):∀ {xs:List (κ×ν)},Nd xs->tn q k xs=xs.filter fun y=>!q k y.1
 | [],_=>rfl
 | x::r,h=>by
  have h':=Am.1 (show (x.1::r.map (·.1)).Nodup from h);by_cases e:k=x.1
  ·rw [tn,e,sY hq,cond_true,rK (by simp [sY hq])];rw [xF.2];intro y hy;rw [zW hq]; rfl;intro e2;exact h'.1 (e2▸IL hy)
  ·rw [tn,zW hq e,cond_false,uP (by simp [zW hq e]),wj k h'.2]
omit hq in
theorem Nd.perm {xs ys:List (κ×ν)} (h:Nd xs) (p:xs.Perm ys):Nd ys:=(p.map _).nodup_iff.1 h
omit hq in
theorem Nd.filter {xs:List (κ×ν)} (h:Nd xs) (p:κ×ν->Bool):Nd (xs.filter p):=h.sublist (List.Sublist.map _ List.filter_sublist)
theorem Nd.put {xs:List (κ×ν)} (h:Nd xs) (k:κ) (v:ν):Nd (dS q k v xs):=by
 refine Nd.perm ?_ (DH hq k v h).symm;show (k::(xs.filter fun y=>!q k y.1).map (·.1)).Nodup;refine Am.2 ⟨fun hm=>?_,h.filter _⟩;obtain⟨y,hy,e⟩:=fG.1 hm;have:=(iC.1 hy).2;rw [e,sY hq] at this;cases this
theorem Nd.del {xs:List (κ×ν)} (h:Nd xs) (k:κ):Nd (tn q k xs):=by rw [wj hq k h]; exact h.filter _
theorem KQ (k k':κ) {xs:List (κ×ν)} (h:Nd xs):cF q k (tn q k' xs)=if q k k' then none else cF q k xs:=by
 rw [wj hq k' h];by_cases e:k=k'
 ·subst e;rw [sY hq,if_pos rfl,DG hq];intro v hv;have:=(iC.1 hv).2;simp [sY hq] at this
 ·rw [zW hq e,if_neg (by simp)];refine Option.ext fun v=>?_;rw [BS hq (h.filter _),BS hq h,iC];simp [zW hq (fun h=>e h.symm)]
end
end
end Go.Proofs.YtcpplgcgcbihoaaGreatDoor
