/- Texts of the proof, joined (2). -/
import Derived.Test.YtcpplgcgcbihoaaGreatDoorD1
import Derived.Test.YtcpplgcgcbihoaaGreatDoorD0
import Derived.Shelf.SlSortCmp.NoneTotal
import Derived.Lib.RowBridge
set_option linter.unusedVariables false
set_option linter.unusedSimpArgs false
set_option linter.unusedSectionVars false
namespace Go.Proofs.YtcpplgcgcbihoaaGreatDoor
open Go.RowKit
section
set_option maxRecDepth 100000
set_option maxHeartbeats 4000000
variable (T:Nat->Prop) (L:World) (hT:TW T L)
include hT
noncomputable section
def rB (b:Bool):=some (b)
def mq (b:Bool):=some (b)
def mr (b c:Int):=cond (decide ((0:Int)<=b)) (mq (decide (b<c))) (mq false)
def rR (b:LU) (e:Int) (g:fh) (c:Int):=cond g.t1 (cond (decide ((0:Int)<=c)) (rB (decide (c<=15))) (rB false)) ((n8 b e).bind fun d=>(bG b e).bind fun f=>cond (!(f.o)) (mr c d.1) (mr c d.2))
theorem zK (b:LU) (g:Int) (k:fh) (f:Int) (o:Value) (n:aG aB T L o b) (y:Bool) (B:rR b g k f=some y):bc aO No 206 [o,am g,.agg (NO k).toArray,am f] L (fun v w'=>v = .bool y):=by
 refine en Tryz.func206 Tryz.ntmps206 hT fun a I=>?_;replace I:=I.fS (aG.dn n);unfold rR at B;refine kB I fun p t a w O I=>?_;refine al I fun a I=>?_;refine ay ?_;refine al I fun a I=>?_;rcases cd B with⟨l,B⟩|⟨l,B⟩
 ·refine al I fun a I=>?_;refine aM (J:=fun a w=>∃ (d:Bool),St L No T 39 [(8,.bool d)] [] [] a w/\rB d=some y) ?_ ?_
  ·exact fz
  rintro a w ⟨d,I,B⟩;unfold rB at B;exact fz
 refine al I fun a I=>?_;obtain⟨x,i,B⟩:=bd B;refine kF I MR (wO _ _ I.dlt b g _ I.g0 _ i) fun w a I=>?_;refine aM (J:=fun a w=>∃ (c:Int),St L No T 39 [(3,am f),(10,am c)] [] [] a w/\mr f c=some y) ?_ ?_
 ·refine al I fun a I=>?_;obtain⟨s,h,B⟩:=bd B;refine wl rfl (bz (R:=aB) I za sY rfl rfl 0 rfl h rfl fun q u r m a I=>?_);obtain⟨z,rfl,j⟩:=m;replace I:=I.fS j;exact fz
 rintro a w ⟨c,I,B⟩;unfold mr at B;refine aM (J:=fun a w=>∃ (e:Bool),St L No T 39 [(8,.bool e)] [] [] a w/\mq e=some y) ?_ ?_
 ·exact fz
 rintro a w ⟨e,I,B⟩;unfold mq at B;exact fz
def oN (b:LU):=some (decide ((b.length:Int)<=24))
def oO (b:Int):Option (Fl (Int) (Fl (Unit) Bool)):=some (.go (IntKind.i64.wrap (b+1)))
def dS (b:Int) (c:Bool):=cond c (some (.out (.out false))) (oO b)
def il (c:Int) (b:aS):=cond b.o (cond (b.p != 5) (dS c true) (cond (decide (b.C<0)) (dS c true) (cond (decide ((65535:Int)<b.C)) (dS c true) (dS c false)))) (cond (decide (b.p<1)) (dS c true) (cond (decide ((4:Int)<b.p)) (dS c true) (cond (decide (b.C<0)) (dS c true) (dS c (decide ((999:Int)<b.C))))))
def eZ (b:Int) (c:Bool):Option (Fl (Int) (Fl (Unit) Bool)):=cond c (some (.out (.out false))) (some (.go (IntKind.i64.wrap (b+1))))
def fZ (d:LU) (f:Int) (e:aS) (b:Int):=cond (decide (b<(e.g.length:Int))) ((bG e.g b).bind fun c=>(rR d f c c.N).bind fun h=>cond (!(h)) (eZ b true) (cond c.c1 (cond e.o (eZ b true) (cond (b==0) (eZ b true) ((rR d f c c.u1).bind fun i=>cond (!(i)) (eZ b true) (eZ b false)))) (eZ b (c.u1 != 0)))) (some (.out (.go ())))
def im (b:LU) (c:Int):=cond (decide (c<(b.length:Int))) ((bG b c).bind fun d=>cond (decide ((6:Int)<(d.g.length:Int))) (some (.out (.out false))) ((loop (fun s:Int=>fZ b c d s) 0).bind fun r=>Fl.el r (fun s=>il c d) (fun y=>some (.out (.out y))))) (some (.out (.go ())))
def qx (b:LU):=(loop (fun s:Int=>im b s) 0).bind fun r=>Fl.el r (fun s=>oN b) (fun y=>some (y))
theorem Cd (b:LU) (d:Value) (Q:aG aB T L d b) (y:Bool) (B:qx b=some y):bc aO No 170 [d] L (fun v w'=>v = .bool y):=by
 refine en Tryz.func170 Tryz.ntmps170 hT fun a I=>?_;replace I:=I.fS (aG.dn Q);unfold qx at B;refine al I fun a I=>?_;refine aM (J:=fun a w=>St L No T 111 [(0,d)] [] [aQ aB d b] a w/\oN b=some y) ?_ ?_
 ·refine al I fun a I=>?_;obtain⟨r1,M,hMo1⟩:=bd B;refine bF _ (fun s a w=>∃ (c:Int),c=s/\St L No T 111 [(0,d),(7,d),(8,am (b.length:Int)),(9,am c)] [] [aQ aB d b] a w) M ⟨_,rfl,I.mt [] [0]⟩ ?_;rintro s a w n ⟨c,rfl,I⟩ B hf1;have B:im b c=some n:=B;unfold im at B;refine al I fun a I=>?_;refine ay ?_;rcases cd B with⟨u,B⟩|⟨u,B⟩
  ·refine al I fun a I=>?_;refine aM (J:=fun a w=>St L No T 111 [(0,d),(7,d),(8,am (b.length:Int)),(9,am c)] [] [aQ aB d b] a w/\oO c=some n) ?_ ?_
   ·refine al I fun a I=>?_;obtain⟨e,o,B⟩:=bd B;refine wl rfl (bz (R:=aB) I za sY rfl rfl 0 rfl o rfl fun S a1 X x a I=>?_);obtain⟨f,rfl,t⟩:=x;replace I:=I.fS t;refine kA I u6 fun h Z a w O I=>?_;refine go I fun a w I=>?_;refine ay ?_;refine al I fun a I=>?_;rcases cd B with⟨z,B⟩|⟨z,B⟩
    ·exact fz
    refine al I fun a I=>?_;refine aM (J:=fun a w=>St L No T 111 [(0,d),(4,pt h 0),(7,d),(8,am (b.length:Int)),(9,am c)] [.box h (wH e f) 150] [aQ aB d b,aQ fo f e.g] a w/\il c e=some n) ?_ ?_
    ·refine al I fun a I=>?_;obtain⟨r2,P,hMo2⟩:=bd B;refine bF _ (fun s a w=>∃ (i:Int),i=s/\St L No T 111 [(0,d),(3,am c),(4,pt h 0),(7,d),(8,am (b.length:Int)),(9,am c),(19,f),(20,am (e.g.length:Int)),(21,am i)] [.box h (wH e f) 150] [aQ aB d b,aQ fo f e.g] a w) P ⟨_,rfl,I.mt [0] [2,0]⟩ ?_;rintro s a w K ⟨i,rfl,I⟩ B hf2;have B:fZ b c e i=some K:=B;unfold fZ at B;refine al I fun a I=>?_;refine ay ?_;rcases cd B with⟨A,B⟩|⟨A,B⟩
     ·refine al I fun a I=>?_;refine ay ?_;refine al I fun a I=>?_;obtain⟨j,p,B⟩:=bd B;refine wl rfl (bz (R:=fo) I KK KU rfl rfl 1 rfl p rfl fun V a2 Y D a I=>?_);obtain rfl:=D;refine kA I BT fun W a0 a w O I=>?_;refine go I fun a w I=>?_;refine aM (J:=fun a w=>∃ (l:Bool),St L No T 111 [(0,d),(3,am c),(4,pt h 0),(7,d),(8,am (b.length:Int)),(9,am c),(19,f),(20,am (e.g.length:Int)),(21,am i),(63,.bool l)] [.box h (wH e f) 150] [aQ aB d b,aQ fo f e.g] a w/\eZ i l=some K) ?_ ?_
      ·refine al I fun a I=>?_;obtain⟨a3,q,B⟩:=bd B;refine kF I M2 (zK _ _ I.dlt b c j j.N _ I.g1 _ q) fun w a I=>?_;rcases cd B with⟨E,B⟩|⟨E,B⟩
       ·exact fz
       refine al I fun a I=>?_;rcases cd B with⟨F,B⟩|⟨F,B⟩
       ·refine al I fun a I=>?_;rcases cd B with⟨G,B⟩|⟨G,B⟩
        ·exact fz
        refine al I fun a I=>?_;rcases cd B with⟨m,B⟩|⟨m,B⟩
        ·exact fz
        refine al I fun a I=>?_;obtain⟨a4,r,B⟩:=bd B;refine wg I rfl rfl rfl m (bL I M2 rfl rfl (zK _ _ I.dlt b c j j.u1 _ I.g1 _ r) fun _ w C a O U=>?_);obtain rfl:=C;have I:=fp U;exact fz
       exact fz
      rintro a w ⟨l,I,B⟩;unfold eZ at B;rcases cd B with⟨H,B⟩|⟨H,B⟩
      ·refine al I fun a I=>?_;cases B
       have hr:=hf2 _ rfl;subst hr;replace hMo2:=ly hMo2;have B:=hMo2;cases B
       have hr:=hf1 _ rfl;subst hr;replace hMo1:=ly hMo1;have B:=hMo1;cases B
       refine aE I rfl (ap I rfl aC) ?_;exact rfl
      exact fz
     exact fz
    rintro a w ⟨I,B⟩;unfold il at B;refine aM (J:=fun a w=>∃ (k:Bool),St L No T 111 [(0,d),(7,d),(8,am (b.length:Int)),(9,am c),(106,.bool k)] [] [aQ aB d b] a w/\dS c k=some n) ?_ ?_
    ·exact fz
    rintro a w ⟨k,I,B⟩;unfold dS at B;exact fz
   rintro a w ⟨I,B⟩;unfold oO at B;exact fz
  exact fz
 rintro a w ⟨I,B⟩;unfold oN at B;exact fz
def qw (c:ByteArray) (b:Int):=some ((ae.mk b c))
def lF (c:LU) (b:Int):=cond (decide (b<0)) (some ((ae.mk 0 cg))) (cond (decide ((c.length:Int)<=b)) (some ((ae.mk 0 cg))) (cond (decide ((99:Int)<b)) (some ((ae.mk 0 cg))) ((xW b).bind fun d=>(bG c b).bind fun e=>cond e.o (qw d 32) (qw d 31))))
theorem pE (hLv:fi T L) (c:LU) (g:Int) (p:Value) (o:aG aB T L p c) (y:ae) (B:lF c g=some y):bc aO No 92 [p,am g] L (fun v w'=>v = .agg (bf y).toArray):=by
 refine en Tryz.func92 Tryz.ntmps92 hT fun a I=>?_;replace I:=(I.fact cc (fi.dn hLv)).fS (aG.dn o);unfold lF at B;refine kA I iA fun e t a w O I=>?_;refine al I fun a I=>?_;refine ay ?_;refine dN ?_;refine al I fun a I=>?_;rcases cd B with⟨k,B⟩|⟨k,B⟩
 ·refine al I fun a I=>?_;refine qy I (bk (ps:=[]) I DV iA rfl (us:=[]) trivial (ws:=[am 0,aT cg]) rfl) fun a I=>?_;refine go I fun a w I=>?_;cases B
  refine aE I rfl (rC 0 I) ?_;exact rfl
 refine al I fun a I=>?_;rcases cd B with⟨l,B⟩|⟨l,B⟩
 ·refine al I fun a I=>?_;refine qy I (bk (ps:=[]) I DV iA rfl (us:=[]) trivial (ws:=[am 0,aT cg]) rfl) fun a I=>?_;refine go I fun a w I=>?_;cases B
  refine aE I rfl (rC 0 I) ?_;exact rfl
 refine al I fun a I=>?_;rcases cd B with⟨m,B⟩|⟨m,B⟩
 ·refine al I fun a I=>?_;refine qy I (bk (ps:=[]) I DV iA rfl (us:=[]) trivial (ws:=[am 0,aT cg]) rfl) fun a I=>?_;refine go I fun a w I=>?_;cases B
  refine aE I rfl (rC 0 I) ?_;exact rfl
 refine al I fun a I=>?_;obtain⟨b,i,B⟩:=bd B;refine kE I GW (An _ _ I.dlt I.g1 g _ i) fun w a I=>?_;refine qy I (bk (ps:=[(0,.const (am 31)),(1,.tmp 20)]) I DV iA rfl (us:=[[am 31],[aT b]]) ⟨rfl,⟨rfl,trivial⟩⟩ (ws:=[am 31,aT b]) rfl) fun a I=>?_;refine ka I iA fun f u a w O I=>?_;refine go I fun a w I=>?_;refine aM (J:=fun a w=>∃ (d:Int),St L No T 29 [(4,pt e 0),(5,pt f 0)] [.box e [am 0,aT cg] 30,.box f [am d,aT b] 30] [cc] a w/\qw b d=some y) ?_ ?_
 ·refine al I fun a I=>?_;obtain⟨s,h,B⟩:=bd B;refine wl rfl (bz (R:=aB) I za sY rfl rfl 0 rfl h rfl fun q x r n a I=>?_);obtain⟨z,rfl,j⟩:=n;replace I:=I.fS j;exact fz
 rintro a w ⟨d,I,B⟩;unfold qw at B;refine go I fun a w I=>?_;cases B
 refine aE I rfl (rC 0 I) ?_;exact rfl
def f9 (b:Bool):=some (b)
def od (c:LU) (b:ae):=(cV b).bind fun f=>cond f (cond (b.k != 31) (cond (b.k != 32) (f9 true) ((iZ b).bind fun g=>(lF c g).bind fun d=>f9 (d.k==b.k&&d.t.toList==b.t.toList))) ((iZ b).bind fun h=>(lF c h).bind fun e=>f9 (e.k==b.k&&e.t.toList==b.t.toList))) (f9 false)
theorem wQ (hLv:fi T L) (c:LU) (b:ae) (u:Value) (s:aG aB T L u c) (y:Bool) (B:od c b=some y):bc aO No 171 [u,.agg (bf b).toArray] L (fun v w'=>v = .bool y):=by
 refine en Tryz.func171 Tryz.ntmps171 hT fun a I=>?_;replace I:=(I.fact cc (fi.dn hLv)).fS (aG.dn s);unfold od at B;refine kB I fun x z a w O I=>?_;refine al I fun a I=>?_;refine aM (J:=fun a w=>∃ (e:Bool),St L No T 25 [(4,.bool e)] [] [cc] a w/\f9 e=some y) ?_ ?_
 ·refine dr [] I fun w hQ I=>?_;refine gE [0] I fun a I=>?_;obtain⟨A,h,B⟩:=bd B;refine ec 1 I F8 (jn _ _ I.dlt b _ h) fun _ w C a O U=>?_;obtain rfl:=C;have I:=fp U;refine gE [2] I fun a I=>?_;rcases cd B with⟨o,B⟩|⟨o,B⟩
  ·refine gE [3,4,5,6] I fun a I=>?_;rcases cd B with⟨p,B⟩|⟨p,B⟩
   ·refine gE [7,8,9,10,11] I fun a I=>?_;rcases cd B with⟨d,B⟩|⟨d,B⟩
    ·refine gE [12,13,14,15,16,17,18,19,20] I fun a I=>?_;refine eD ?_;exact fin
    refine gE [12,13,16] I fun a I=>?_;obtain⟨q,j,B⟩:=bd B;refine dW (i:=14) rfl (by kernel_rfl) I rfl rfl rfl d (bL I GX rfl rfl (oL _ _ I.dlt b _ j) fun _ w C a O U=>⟨gO (O),?_⟩);obtain rfl:=C;have I:=fp U;obtain⟨f,l,B⟩:=bd B;refine dW (i:=15) rfl (by kernel_rfl) I rfl rfl rfl d (bL I Ib rfl rfl (pE _ _ I.dlt I.g1 c q _ I.g0 _ l) fun _ w C a O U=>⟨gO (O),?_⟩);obtain rfl:=C;have I:=fp U;refine dg 17 I d (v:=.bool (f.k==b.k&&f.t.toList==b.t.toList)) (Ge I rfl rfl) fun a I=>?_;refine gE [18,19,20] I fun a I=>?_;refine eD ?_;exact fin
   refine gE [7,8,9,10,11,12,13,16] I fun a I=>?_;obtain⟨r,m,B⟩:=bd B;refine dW (i:=14) rfl (by kernel_rfl) I rfl rfl rfl rfl (bL I GX rfl rfl (oL _ _ I.dlt b _ m) fun _ w C a O U=>⟨gO (O),?_⟩);obtain rfl:=C;have I:=fp U;obtain⟨g,n,B⟩:=bd B;refine dW (i:=15) rfl (by kernel_rfl) I rfl rfl rfl rfl (bL I Ib rfl rfl (pE _ _ I.dlt I.g1 c r _ I.g0 _ n) fun _ w C a O U=>⟨gO (O),?_⟩);obtain rfl:=C;have I:=fp U;refine dg 17 I rfl (v:=.bool (g.k==b.k&&g.t.toList==b.t.toList)) (Ge I rfl rfl) fun a I=>?_;refine gE [18,19,20] I fun a I=>?_;refine eD ?_;exact fin
  refine gE [3,4,5,6,7,8,9,10,11,12,13,14,15,16,17,18,19,20] I fun a I=>?_;refine eD ?_;exact fin
 rintro a w ⟨e,I,B⟩;unfold f9 at B;exact fz
def sx:Option Int:=some (0)
def lY (d:LU) (b:LK) (c:Int):Option (Fl (Int) (Fl (Unit) Int)):=cond (decide (c<(b.length:Int))) ((bG b c).bind fun e=>(od d e).bind fun f=>cond (!(f)) (some (.out (.out 40))) (some (.go (IntKind.i64.wrap (c+1))))) (some (.out (.go ())))
def lX (c:LU) (f:ar) (b:LK):=(qx c).bind fun d=>cond (!(d)) (some (41)) ((lP f).bind fun e=>cond (!(e)) (some (42)) (cond (decide ((32:Int)<(b.length:Int))) (some (3)) ((loop (fun s:Int=>lY c b s) 0).bind fun r=>Fl.el r (fun s=>sx) (fun y=>some (y)))))
theorem tq (hLv:fi T L) (b:LU) (e:ar) (c:LK) (k D:Value) (E l:Value) (u:aG aB T L k b) (x:aG ab T L D e.i) (z:aG aa T L E e.s) (A:aG ac T L l c) (y:Int) (B:lX b e c=some y):bc aO No 117 [k,.agg (bo e D E).toArray,l] L (fun v w'=>v=am y):=by
 refine en Tryz.func117 Tryz.ntmps117 hT fun a I=>?_;replace I:=((((I.fact cc (fi.dn hLv)).fS (aG.dn u)).fS (aG.dn x)).fS (aG.dn z)).fS (aG.dn A);unfold lX at B;refine kB I fun F N a w O I=>?_;refine al I fun a I=>?_;refine ay ?_;refine al I fun a I=>?_;obtain⟨V,h,B⟩:=bd B;refine kF I Ps (Cd _ _ I.dlt b _ I.g3 _ h) fun w a I=>?_;rcases cd B with⟨n,B⟩|⟨n,B⟩
 ·exact fz
 refine al I fun a I=>?_;obtain⟨W,j,B⟩:=bd B;refine kF I NS (tl _ _ I.dlt I.g4 e _ _ I.g2 I.g1 _ j) fun w a I=>?_;rcases cd B with⟨o,B⟩|⟨o,B⟩
 ·exact fz
 refine al I fun a I=>?_;rcases cd B with⟨p,B⟩|⟨p,B⟩
 ·exact fz
 refine al I fun a I=>?_;refine aM (J:=fun a w=>St L No T 32 [] [] [cc] a w/\sx=some y) ?_ ?_
 ·refine al I fun a I=>?_;obtain⟨X,t,hMo1⟩:=bd B;refine bF _ (fun s a w=>∃ (d:Int),d=s/\St L No T 32 [(0,k),(21,l),(22,am (c.length:Int)),(23,am d)] [] [aQ aB k b,aQ ac l c,cc] a w) t ⟨_,rfl,I.mt [] [3,0,4]⟩ ?_;rintro s a w M ⟨d,rfl,I⟩ B hf1;have B:lY b c d=some M:=B;unfold lY at B;refine al I fun a I=>?_;refine ay ?_;rcases cd B with⟨q,B⟩|⟨q,B⟩
  ·refine al I fun a I=>?_;refine ay ?_;refine al I fun a I=>?_;obtain⟨m,f,B⟩:=bd B;refine wl rfl (bz (R:=ac) I qQ ix rfl rfl 1 rfl f rfl fun G Q K r a I=>?_);obtain rfl:=r;refine kA I iA fun H P a w O I=>?_;refine go I fun a w I=>?_;obtain⟨S,g,B⟩:=bd B;refine kE I MW (wQ _ _ I.dlt I.g3 b m _ I.g1 _ g) fun w a I=>?_;exact fz
  exact fz
 rintro a w ⟨I,B⟩;unfold sx at B;exact fz
def kq (b:LU):=some (b)
def iu (e d:LU) (c:Int):Option (Fl (LU×Int) (LU)):=cond (decide (c<(e.length:Int))) ((bG e c).bind fun b=>gd (bW (([]:List fh).length+b.g.length)) <| gd (bW (d.length+([(aS.mk b.o (([]:List fh)++b.g) b.p b.C)]).length)) <| some (.go ((d++([(aS.mk b.o (([]:List fh)++b.g) b.p b.C)])),IntKind.i64.wrap (c+1)))) (some (.out d))
def kS (b:LU):=(loop (fun s:LU×Int=>iu b s.1 s.2) (([]:List aS),0)).bind fun r=>kq r
theorem yk (h:LU) (r:Value) (F:aG aB T L r h) (y:LU) (B:kS h=some y):bc aO No 182 [r] L (fun v w'=>∃ (D:Value) (dA:bC),v=D/\j9 aB T L w' [cx D dA] 150 D dA y):=by
 refine en Tryz.func182 Tryz.ntmps182 hT fun a I=>?_;replace I:=I.fS (aG.dn F);unfold kS at B;refine al I fun a I=>?_;refine aM (J:=fun a w=>∃ (k:LU) (f:Value) (d:LV),St L No T 22 [(3,f)] [cx f d] [ao aB d k] a w/\kq k=some y) ?_ ?_
 ·refine al I fun a I=>?_;replace I:=I.zn aB 150 (by decide);obtain⟨Y,E,hMo1⟩:=bd B;refine bF _ (fun s a w=>∃ (c:LU) (e:Int) (l:Value) (j:LV),(c,e)=s/\St L No T 22 [(3,l),(6,r),(7,am (h.length:Int)),(8,am e)] [cx l j] [ao aB j c,aQ aB r h] a w) E ⟨_,_,_,_,rfl,I.mt [0] [0,1]⟩ ?_;rintro s a w Q ⟨c,e,l,j,rfl,I⟩ B hf1;have B:iu h c e=some Q:=B;unfold iu at B;refine al I fun a I=>?_;refine ay ?_;rcases cd B with⟨t,B⟩|⟨t,B⟩
  ·refine al I fun a I=>?_;refine ay ?_;refine al I fun a I=>?_;obtain⟨b,n,B⟩:=bd B;refine wl rfl (bz (R:=aB) I za sY rfl rfl 1 rfl n rfl fun G V M u a I=>?_);obtain⟨W,rfl,q⟩:=u;replace I:=I.fS q;refine kA I u6 fun H S a w O I=>?_;refine go I fun a w I=>?_;replace I:=I.zn fo 147 (by decide);obtain⟨z,B⟩:=aU B;refine wl rfl (bJ (R:=fo) (xs:=([]:List fh)) (ys:=b.g) I Ju (by decide) (by decide) rfl rfl 0 rfl 0 rfl 1 rfl z rfl fun m N a w O I=>?_);refine go I fun a w I=>?_;refine wl rfl (ba (ps:=[(0,.tmp 17)]) I LQ u6 (zl:=[.bool false,.slice none 0 0,am 0,am 0]) (by kernel_rfl) rfl (us:=[(wH b m)]) ⟨rfl,trivial⟩ (ws:=(wH b m)) rfl rfl rfl rfl fun K a w O I=>?_);replace I:=I.zf (R:=fo) 1 rfl 0 rfl;replace I:=(I.lit (R:=aB) (us:=(wH b m)) (xs:=[(aS.mk b.o (([]:List fh)++b.g) b.p b.C)]) 0 rfl (by decide) (aF (R:=aB) (x:=(aS.mk b.o (([]:List fh)++b.g) b.p b.C)) (⟨_,rfl,I.g0⟩)) rfl rfl).zf (R:=aB) 0 rfl 0 rfl;obtain⟨A,B⟩:=aU B;refine wl rfl (bJ (R:=aB) (xs:=c) (ys:=[(aS.mk b.o (([]:List fh)++b.g) b.p b.C)]) I LQ (by decide) (by decide) rfl rfl 1 rfl 7 rfl 0 rfl A rfl fun X P a w O I=>?_);exact fz
  exact fz
 rintro a w ⟨k,f,d,I,B⟩;unfold kq at B;refine al I fun a I=>?_;cases B
 refine aE I rfl (ap I rfl aC) ?_;exact⟨f,d,rfl,I.zo ⟨.inr (aK (i:=0) rfl),trivial⟩ 0 rfl 0 rfl⟩
def dh (b:LF):=some (b)
def cq (g f:LF) (c:Int):Option (Fl (LF×Int) (LF)):=cond (decide (c<(g.length:Int))) ((bG g c).bind fun b=>gd (bW (([]:List ae).length+b.v.length)) <| gd (bW (([]:List ByteArray).length+b.e.length)) <| gd (bW (f.length+([(bR.mk b.d b.w b.i1 (([]:List ae)++b.v) (([]:List ByteArray)++b.e))]).length)) <| some (.go ((f++([(bR.mk b.d b.w b.i1 (([]:List ae)++b.v) (([]:List ByteArray)++b.e))])),IntKind.i64.wrap (c+1)))) (some (.out f))
def eR (b:LF):=(loop (fun s:LF×Int=>cq b s.1 s.2) (([]:List bR),0)).bind fun r=>dh r
theorem xo (j:LF) (A:Value) (N:aG az T L A j) (y:LF) (B:eR j=some y):bc aO No 183 [A] L (fun v w'=>∃ (K:Value) (dA:bC),v=K/\j9 az T L w' [ej K dA] 202 K dA y):=by
 refine en Tryz.func183 Tryz.ntmps183 hT fun a I=>?_;replace I:=I.fS (aG.dn N);unfold eR at B;refine al I fun a I=>?_;refine aM (J:=fun a w=>∃ (m:LF) (h:Value) (f:LV),St L No T 26 [(3,h)] [ej h f] [ao az f m] a w/\dh m=some y) ?_ ?_
 ·refine al I fun a I=>?_;replace I:=I.zn az 202 (by decide);obtain⟨r1,M,hMo1⟩:=bd B;refine bF _ (fun s a w=>∃ (c:LF) (g:Int) (n:Value) (k:LV),(c,g)=s/\St L No T 26 [(3,n),(6,A),(7,am (j.length:Int)),(8,am g)] [ej n k] [ao az k c,aQ az A j] a w) M ⟨_,_,_,_,rfl,I.mt [0] [0,1]⟩ ?_;rintro s a w Y ⟨c,g,n,k,rfl,I⟩ B hf1;have B:cq j c g=some Y:=B;unfold cq at B;refine al I fun a I=>?_;refine ay ?_;rcases cd B with⟨D,B⟩|⟨D,B⟩
  ·refine al I fun a I=>?_;refine ay ?_;refine al I fun a I=>?_;obtain⟨b,t,B⟩:=bd B;refine wl rfl (bz (R:=az) I vL vN rfl rfl 1 rfl t rfl fun P a0 S E a I=>?_);obtain⟨a1,r,rfl,u,z⟩:=E;replace I:=(I.fS u).fS z;refine kA I ub fun q Z a w O I=>?_;refine go I fun a w I=>?_;refine ay ?_;replace I:=(I.zn ac 30 (by decide)).zn aL.str 9 (by decide);refine dr [(2,.blk (Value.ownBlock (.slice none 0 0))),(5,.blk (Value.ownBlock (.slice none 0 0))),(7,.blk (some q)),(9,.blk (some q))] I fun w hQ I=>?_;refine gE [0,1,3] I fun a I=>?_;refine dq 4 I (l:=[.blk (Value.ownBlock (.slice none 0 0))]) (v:=r) (eB I rfl Gz 2 rfl (iX I 2 rfl rfl 0 rfl rfl (by decide) bU) (us:=[r]) rfl rfl (fun _=>rfl)) fun a I=>?_;obtain⟨F,B⟩:=aU B;refine e1 2 (bJ (R:=ac) (xs:=([]:List ae)) (ys:=b.v) I kG (by decide) (by decide) rfl rfl 1 rfl 1 rfl 3 rfl F rfl fun o V a w O I=>⟨kU rfl O kI,?_⟩);refine gE [6] I fun a I=>?_;obtain⟨G,B⟩:=aU B;refine e1 5 (bJ (R:=aL.str) (xs:=([]:List ByteArray)) (ys:=b.e) I zY (by decide) (by decide) rfl rfl 0 rfl 1 rfl 3 rfl G rfl fun p W a w O I=>⟨kU rfl O kI,?_⟩);refine es 7 I fun w I=>?_;refine gE [8] I fun a I=>?_;refine es 9 I fun w I=>?_;refine eD ?_;refine al I fun a I=>?_;refine wl rfl (ba (ps:=[(0,.tmp 21)]) I xT ub (zl:=[am 0,aT cg,.bool false,am 0,.slice none 0 0,.slice none 0 0]) (by kernel_rfl) rfl (us:=[(mG b o p)]) ⟨rfl,trivial⟩ (ws:=(mG b o p)) rfl rfl rfl rfl fun Q a w O I=>?_);replace I:=(I.zf (R:=ac) 2 rfl 1 rfl).zf (R:=aL.str) 1 rfl 1 rfl;replace I:=(I.lit (R:=az) (us:=(mG b o p)) (xs:=[(bR.mk b.d b.w b.i1 (([]:List ae)++b.v) (([]:List ByteArray)++b.e))]) 0 rfl (by decide) (aF (R:=az) (x:=(bR.mk b.d b.w b.i1 (([]:List ae)++b.v) (([]:List ByteArray)++b.e))) (⟨_,_,rfl,I.g1,I.g0⟩)) rfl rfl).zf (R:=az) 0 rfl 0 rfl;obtain⟨H,B⟩:=aU B;refine wl rfl (bJ (R:=az) (xs:=c) (ys:=[(bR.mk b.d b.w b.i1 (([]:List ae)++b.v) (([]:List ByteArray)++b.e))]) I xT (by decide) (by decide) rfl rfl 1 rfl 11 rfl 0 rfl H rfl fun a2 X a w O I=>?_);exact fz
  exact fz
 rintro a w ⟨m,h,f,I,B⟩;unfold dh at B;refine al I fun a I=>?_;cases B
 refine aE I rfl (ap I rfl aC) ?_;exact⟨h,f,rfl,I.zo ⟨.inr (aK (i:=0) rfl),trivial⟩ 0 rfl 0 rfl⟩
def nW (c:eP):=(kS c.x).bind fun d=>(fC c.b).bind fun e=>gd (bW (([]:List ae).length+c.b1.length)) <| (eR c.s1).bind fun f=>gd (bW (([]:List ae).length+c.r1.length)) <| some ((eP.mk d e (([]:List ae)++c.b1) f (([]:List ae)++c.r1)))
theorem uB (d:eP) (v1 v2:Value) (v3 v4:Value) (N P:Value) (hD:rJ T L []) (a3:aG aB (dT T []) L v1 d.x) (a4:aG ab (dT T []) L v2 d.b.i) (a5:aG aa (dT T []) L v3 d.b.s) (a9:aG ac (dT T []) L v4 d.b1) (af:aG az (dT T []) L N d.s1) (ag:aG ac (dT T []) L P d.r1) (y:eP) (B:nW d=some y):bc aO (MD []) 140 [.agg (wI d v1 v2 v3 v4 N P).toArray] L (fun v w'=>∃ (z:Value) (AL:bC) (A:Value) (rW:bC) (h:Value) (ue:bC) (j:Value) (e:bC) (k:Value) (f:bC) (m:Value) (g:bC),v = .agg (wI y z A h j k m).toArray/\aY aB (dT T [cx z AL,a7 A rW,aJ h ue,aD j e,ej k f,aD m g]) w' AL y.x/\aY ab (dT T [cx z AL,a7 A rW,aJ h ue,aD j e,ej k f,aD m g]) w' rW y.b.i/\aY aa (dT T [cx z AL,a7 A rW,aJ h ue,aD j e,ej k f,aD m g]) w' ue y.b.s/\aY ac (dT T [cx z AL,a7 A rW,aJ h ue,aD j e,ej k f,aD m g]) w' e y.b1/\aY az (dT T [cx z AL,a7 A rW,aJ h ue,aD j e,ej k f,aD m g]) w' f y.s1/\aY ac (dT T [cx z AL,a7 A rW,aJ h ue,aD j e,ej k f,aD m g]) w' g y.r1/\gk L w' [] [cx z AL,a7 A rW,aJ h ue,aD j e,ej k f,aD m g]):=by
 refine cT (c:=_) Tryz.func140 rfl T 19 Tryz.ntmps140 hT rfl hD fun a I=>?_;replace I:=(((((I.fS a3).fS a4).fS a5).fS a9).fS af).fS ag;unfold nW at B;refine kB I fun b3 b4 a w O I=>?_;refine ka I vY fun Q b5 a w O I=>?_;refine al I fun a I=>?_;refine ay ?_;replace I:=(I.zn ac 30 (by decide)).zn ac 30 (by decide);refine dr [(8,.blk (Value.ownBlock (.slice none 0 0))),(14,.blk (Value.ownBlock (.slice none 0 0))),(16,.blk (some Q))] I fun w hQ I=>?_;refine gE [0,1,3,4,6,7,9] I fun a I=>?_;refine dq 10 I (l:=[.blk (Value.ownBlock (.slice none 0 0))]) (v:=N) (eB I rfl Nv 3 rfl (iX I 3 rfl rfl 0 rfl rfl (by decide) bU) (us:=[N]) rfl rfl (fun _=>rfl)) fun a I=>?_;refine gE [12] I fun a I=>?_;refine dq 13 I (l:=[.blk (Value.ownBlock (.slice none 0 0))]) (v:=P) (eB I rfl Gy 3 rfl (iX I 3 rfl rfl 0 rfl rfl (by decide) bU) (us:=[P]) rfl rfl (fun _=>rfl)) fun a I=>?_;obtain⟨b6,J,B⟩:=bd B;refine ec 2 I PB (yk _ _ I.dlt d.x _ I.g7 _ J) fun _ w C a O U=>?_;obtain⟨n,S,he,E⟩:=C;obtain rfl:=he.symm;have I:=uc U E;obtain⟨D,K,B⟩:=bd B;refine ec 5 I AK (e6 _ _ I.dlt d.b _ _ I.g7 I.g6 _ K) fun _ w C a O U=>?_;obtain⟨o,V,p,W,he,F,G,a2⟩:=C;obtain rfl:=he.symm;have I:=BV U F G a2;obtain⟨a0,B⟩:=aU B;refine e1 8 (bJ (R:=ac) (xs:=([]:List ae)) (ys:=d.b1) I kG (by decide) (by decide) rfl rfl 4 rfl 3 rfl 7 rfl a0 rfl fun q X a w O I=>⟨kU rfl O kI,?_⟩);obtain⟨b8,M,B⟩:=bd B;refine ec 11 I MX (xo _ _ I.dlt d.s1 _ I.g7 _ M) fun _ w C a O U=>?_;obtain⟨t,Y,he,H⟩:=C;obtain rfl:=he.symm;have I:=uc U H;obtain⟨a1,B⟩:=aU B;refine e1 14 (bJ (R:=ac) (xs:=([]:List ae)) (ys:=d.r1) I kG (by decide) (by decide) rfl rfl 4 rfl 5 rfl 7 rfl a1 rfl fun u Z a w O I=>⟨kU rfl O kI,?_⟩);refine dq 15 I (v:=.agg #[n,am D.r,o,p,q,t,u]) (bk (ps:=[(0,.tmp 5),(1,.tmp 8),(2,.tmp 11),(3,.tmp 14),(4,.tmp 17)]) I Kc vY rfl (us:=[[n],(bo D o p),[q],[t],[u]]) ⟨(lh (gh (I.own _ (aK (i:=3) rfl)).1)),⟨rfl,⟨(lh (gh (I.own _ (aK (i:=5) rfl)).1)),⟨(lh (gh (I.own _ (aK (i:=0) rfl)).1)),⟨(lh (gh (I.own _ (aK (i:=4) rfl)).1)),trivial⟩⟩⟩⟩⟩ (ws:=[n,am D.r,o,p,q,t,u]) rfl) fun a I=>?_;refine es 16 I fun w I=>?_;refine eD ?_;refine al I fun a I=>?_;cases B
 refine aE I rfl (rC 6 I) ?_;have hZ:=I.sl [3,1,2,5,0,4] [5,4,3,2,1,0];exact⟨n,S,o,V,p,W,q,X,t,Y,u,Z,rfl,hZ.g0,hZ.g1,hZ.g2,hZ.g3,hZ.g4,hZ.g5,hZ.zd⟩
def qF (c:LU) (e:ar) (b:LK):=(lX c e b).bind fun d=>cond (d != 0) (some (((eP.mk ([]:List aS) (ar.mk 0 ([]:List be) ([]:List aA)) ([]:List ae) ([]:List bR) ([]:List ae)),d))) ((nW (eP.mk c e b ([]) ([]))).bind fun f=>some ((f,0)))
theorem tr (g:LU) (j:ar) (f:LK) (G H:Value) (J K:Value) (hD:rJ T L []) (a3:aG aB (dT T []) L G g) (a4:aG ab (dT T []) L H j.i) (a5:aG aa (dT T []) L J j.s) (a9:aG ac (dT T []) L K f) (hLv:fi (dT T []) L) (y:eP×Int) (B:qF g j f=some y):bc aO (MD []) 87 [G,.agg (bo j H J).toArray,K] L (fun v w'=>∃ (n:Value) (zD:bC) (o:Value) (AL:bC) (p:Value) (rW:bC) (k:Value) (ue:bC) (l:Value) (d:bC) (m:Value) (e:bC),v = .tuple #[.agg (wI y.1 n o p k l m).toArray,am y.2]/\aY aB (dT T [cx n zD,a7 o AL,aJ p rW,aD k ue,ej l d,aD m e]) w' zD y.1.x/\aY ab (dT T [cx n zD,a7 o AL,aJ p rW,aD k ue,ej l d,aD m e]) w' AL y.1.b.i/\aY aa (dT T [cx n zD,a7 o AL,aJ p rW,aD k ue,ej l d,aD m e]) w' rW y.1.b.s/\aY ac (dT T [cx n zD,a7 o AL,aJ p rW,aD k ue,ej l d,aD m e]) w' ue y.1.b1/\aY az (dT T [cx n zD,a7 o AL,aJ p rW,aD k ue,ej l d,aD m e]) w' d y.1.s1/\aY ac (dT T [cx n zD,a7 o AL,aJ p rW,aD k ue,ej l d,aD m e]) w' e y.1.r1/\gk L w' [] [cx n zD,a7 o AL,aJ p rW,aD k ue,ej l d,aD m e]):=by
 refine cT (c:=_) Tryz.func87 rfl T 22 Tryz.ntmps87 hT rfl hD fun a I=>?_;replace I:=((((I.fact cc hLv).fS a3).fS a4).fS a5).fS a9;unfold qF at B;refine kB I fun af ak a w O I=>?_;refine ka I vY fun ag av a w O I=>?_;refine al I fun a I=>?_;refine ay ?_;refine al I fun a I=>?_;obtain⟨b0,E,B⟩:=bd B;refine kF I Jb (tq _ _ I.dlt I.g4 g j f _ _ _ _ I.g3 I.g2 I.g1 I.g0 _ E) fun w a I=>?_;rcases cd B with⟨V,B⟩|⟨V,B⟩
 ·refine al I fun a I=>?_;refine qy I (bk (ps:=[]) I Kc vY rfl (us:=[]) trivial (ws:=[.slice none 0 0,am 0,.slice none 0 0,.slice none 0 0,.slice none 0 0,.slice none 0 0,.slice none 0 0]) rfl) fun a I=>?_;refine go I fun a w I=>?_;replace I:=(((((I.zn aB 150 (by decide)).zn ab 91 (by decide)).zn aa 33 (by decide)).zn ac 30 (by decide)).zn az 202 (by decide)).zn ac 30 (by decide);cases B
  refine aE I Tryz.results87 (bu I rfl 6 rfl t8 rfl (fun h=>by cases h) (ap I rfl aC)) ?_;have hZ:=I.sl [5,4,3,2,1,0] [5,4,3,0,1];exact⟨(.slice none 0 0),[],(.slice none 0 0),[],(.slice none 0 0),[],(.slice none 0 0),[],(.slice none 0 0),[],(.slice none 0 0),[],rfl,hZ.g0,hZ.g1,hZ.g2,hZ.g3,hZ.g4,hZ.g3,hZ.zd⟩
 refine al I fun a I=>?_;refine qy I (bk (ps:=[(0,.tmp 17),(1,.tmp 18),(2,.tmp 19)]) I Kc vY rfl (us:=[[G],(bo j H J),[K]]) ⟨(lh (aG.one (I.g3:aG aB _ _ _ _))),⟨rfl,⟨(lh (aG.one (I.g0:aG ac _ _ _ _))),trivial⟩⟩⟩ (ws:=[G,am j.r,H,J,K,.slice none 0 0,.slice none 0 0]) rfl) fun a I=>?_;replace I:=(I.fact (aQ az (.slice none 0 0) []) (aG.nil_ _ _ _)).fact (aQ ac (.slice none 0 0) []) (aG.nil_ _ _ _);obtain⟨b2,F,B⟩:=bd B;replace I:=I.re [] [0,1];refine wl rfl (aZ I Je rfl rfl (uB _ _ I.zt (eP.mk g j f ([]) ([])) _ _ _ _ _ _ I.dok I.d5 I.d4 I.d3 I.d2 I.d1 I.d0 _ F) fun _ w C a O U=>?_);obtain⟨X,M,Y,N,Z,P,a0,Q,a1,R,a2,S,he,q,t,u,z,A,D,W⟩:=C;obtain rfl:=he.symm;have I:=U _ W;replace I:=(((((I.fR (q.keep (aj _ _) (aq _))).fR (t.keep (aj _ _) (aq _))).fR (u.keep (aj _ _) (aq _))).fR (z.keep (aj _ _) (aq _))).fR (A.keep (aj _ _) (aq _))).fR (D.keep (aj _ _) (aq _));refine go I fun a w I=>?_;cases B
 refine aE I Tryz.results87 (bu I rfl 6 rfl t8 rfl (fun h=>by cases h) (ap I rfl aC)) ?_;have hZ:=I.sl [0,1,2,3,4,5] [5,4,3,2,1,0];exact⟨X,M,Y,N,Z,P,a0,Q,a1,R,a2,S,rfl,hZ.g0,hZ.g1,hZ.g2,hZ.g3,hZ.g4,hZ.g5,hZ.zd⟩
def tR (k:br) (b:LU):=(co k 8).bind fun c=>cond (c.1==1) ((co (br.mk c.2.L c.2.i1) 4).bind fun e=>(nU e.1).bind fun h=>some ((h,(br.mk e.2.L e.2.i1)))) ((co (br.mk c.2.L c.2.i1) 2).bind fun d=>cond (d.1==0) ((co (br.mk d.2.L d.2.i1) (min 3 (b.length:Int))).bind fun f=>(lF b (IntKind.i64.wrap ((IntKind.i64.wrap ((b.length:Int)-1))-f.1))).bind fun i=>some ((i,(br.mk f.2.L f.2.i1)))) ((co (br.mk d.2.L d.2.i1) (b.length:Int)).bind fun g=>(lF b g.1).bind fun j=>some ((j,(br.mk g.2.L g.2.i1)))))
theorem Fa (e:br) (b:LU) (d W:Value) (h:Nat) (R:L.heap[h]? = some (.cells (bp e d).toArray 84 (0,0))) (Q:¬ T h) (S:aG (aL.int .i64) (dT T [.box h (bp e d) 84]) L d e.L) (V:aG aB (dT T [.box h (bp e d) 84]) L W b) (hLv:fi (dT T [.box h (bp e d) 84]) L) (y:ae×br) (B:tR e b=some y):bc aO (fun k=>k=h) 116 [pt h 0,W] L (fun v w'=>∃ (M:Value),v = .agg (bf y.1).toArray/\w'.heap[h]? = some (.cells (bp y.2 M).toArray 84 (0,0))/\aG (aL.int .i64) (dT T [.box h (bp y.2 M) 84]) w' M y.2.L/\d=M):=by
 refine nR (c:=_) Tryz.func116 rfl T 31 Tryz.ntmps116 hT rfl R Q fun a I=>?_;replace I:=((I.fact cc hLv).fS S).fS V;unfold tR at B;refine kA I iA fun X Y a w O I=>?_;refine al I fun a I=>?_;refine ay ?_;refine al I fun a I=>?_;obtain⟨f,A,B⟩:=bd B;refine wl rfl (bV I nP rfl rfl 1 rfl (bK _ _ (I.drop 1).dlt e 8 _ _ (I.zb 1 rfl) (I.zi 1 rfl) (aG.lent (i:=1) rfl I.g1) _ A) fun _ w C O=>?_);obtain⟨a2,he,hrow,p,l⟩:=C;obtain rfl:=he.symm;subst l;refine⟨(bp f.2 d),hrow,fun a I=>?_⟩;replace I:=I.fS (aG.back (i:=1) rfl p);refine al I fun a I=>?_;rcases cd B with⟨N,B⟩|⟨N,B⟩
 ·refine al I fun a I=>?_;obtain⟨u,D,B⟩:=bd B;refine wl rfl (bV I nP rfl rfl 1 rfl (bK _ _ (I.drop 1).dlt (br.mk f.2.L f.2.i1) 4 _ _ (I.zb 1 rfl) (I.zi 1 rfl) (aG.lent (i:=1) rfl I.g0) _ D) fun _ w C O=>?_);obtain⟨a3,he,hrow,q,m⟩:=C;obtain rfl:=he.symm;subst m;refine⟨(bp u.2 d),hrow,fun a I=>?_⟩;replace I:=I.fS (aG.back (i:=1) rfl q);obtain⟨Z,E,B⟩:=bd B;refine kE I NX (ut _ _ I.dlt I.g4 u.1 _ E) fun w a I=>?_;refine go I fun a w I=>?_;cases B
  refine aE I rfl (rC 0 I) ?_;exact⟨d,rfl,I.zb 1 rfl,(aG.up ⟨.inr (aK (i:=1) rfl),trivial⟩ I.g0),rfl⟩
 refine al I fun a I=>?_;refine ay ?_;refine al I fun a I=>?_;obtain⟨g,F,B⟩:=bd B;refine wl rfl (bV I nP rfl rfl 1 rfl (bK _ _ (I.drop 1).dlt (br.mk f.2.L f.2.i1) 2 _ _ (I.zb 1 rfl) (I.zi 1 rfl) (aG.lent (i:=1) rfl I.g0) _ F) fun _ w C O=>?_);obtain⟨a4,he,hrow,r,n⟩:=C;obtain rfl:=he.symm;subst n;refine⟨(bp g.2 d),hrow,fun a I=>?_⟩;replace I:=I.fS (aG.back (i:=1) rfl r);refine al I fun a I=>?_;rcases cd B with⟨P,B⟩|⟨P,B⟩
 ·refine al I fun a I=>?_;refine qy I (K4 I rfl rfl) fun a I=>?_;obtain⟨x,G,B⟩:=bd B;refine wl rfl (bV I nP rfl rfl 1 rfl (bK _ _ (I.drop 1).dlt (br.mk g.2.L g.2.i1) (min 3 (b.length:Int)) _ _ (I.zb 1 rfl) (I.zi 1 rfl) (aG.lent (i:=1) rfl I.g0) _ G) fun _ w C O=>?_);obtain⟨a5,he,hrow,s,o⟩:=C;obtain rfl:=he.symm;subst o;refine⟨(bp x.2 d),hrow,fun a I=>?_⟩;replace I:=I.fS (aG.back (i:=1) rfl s);refine al I fun a I=>?_;obtain⟨a0,H,B⟩:=bd B;refine kE I Ib (pE _ _ I.dlt I.g5 b (IntKind.i64.wrap ((IntKind.i64.wrap ((b.length:Int)-1))-x.1)) _ I.g3 _ H) fun w a I=>?_;refine go I fun a w I=>?_;cases B
  refine aE I rfl (rC 0 I) ?_;exact⟨d,rfl,I.zb 1 rfl,(aG.up ⟨.inr (aK (i:=1) rfl),trivial⟩ I.g0),rfl⟩
 refine al I fun a I=>?_;obtain⟨z,J,B⟩:=bd B;refine wl rfl (bV I nP rfl rfl 1 rfl (bK _ _ (I.drop 1).dlt (br.mk g.2.L g.2.i1) (b.length:Int) _ _ (I.zb 1 rfl) (I.zi 1 rfl) (aG.lent (i:=1) rfl I.g0) _ J) fun _ w C O=>?_);obtain⟨a9,he,hrow,t,j⟩:=C;obtain rfl:=he.symm;subst j;refine⟨(bp z.2 d),hrow,fun a I=>?_⟩;replace I:=I.fS (aG.back (i:=1) rfl t);obtain⟨a1,K,B⟩:=bd B;refine kE I Ib (pE _ _ I.dlt I.g5 b z.1 _ I.g3 _ K) fun w a I=>?_;refine go I fun a w I=>?_;cases B
 refine aE I rfl (rC 0 I) ?_;exact⟨d,rfl,I.zb 1 rfl,(aG.up ⟨.inr (aK (i:=1) rfl),trivial⟩ I.g0),rfl⟩
def pU (d:LK) (b:LN) (c:Int):=some ((d,(br.mk b c)))
def pV (g:LU) (c:LK) (f:Int) (d:LN) (e:Int):Option (Fl (LK×Int×LN×Int) (LK×LN×Int)):=cond (decide ((0:Int)<f)) ((tR (br.mk d e) g).bind fun b=>gd (bW (c.length+([(ae.mk b.1.k b.1.t)]).length)) <| some (.go ((c++([(ae.mk b.1.k b.1.t)])),IntKind.i64.wrap (f-1),b.2.L,b.2.i1))) (some (.out (c,d,e)))
def nS (e:br) (c:LU) (d:Int):=(co e d).bind fun b=>(loop (fun s:LK×Int×LN×Int=>pV c s.1 s.2.1 s.2.2.1 s.2.2.2) (([]:List ae),IntKind.i64.wrap (b.1+1),b.2.L,b.2.i1)).bind fun r=>pU r.1 r.2.1 r.2.2
theorem ry (l:br) (d:LU) (o:Int) (j N:Value) (e:Nat) (X:L.heap[e]? = some (.cells (bp l j).toArray 84 (0,0))) (V:¬ T e) (Z:aG (aL.int .i64) (dT T [.box e (bp l j) 84]) L j l.L) (a0:aG aB (dT T [.box e (bp l j) 84]) L N d) (hLv:fi (dT T [.box e (bp l j) 84]) L) (y:LK×br) (B:nS l d o=some y):bc aO (fun k=>k=e) 36 [pt e 0,N,am o] L (fun v w'=>∃ (P:Value) (uf:bC) (H:Value),v=P/\j9 ac T L w' [aD P uf,.box e (bp y.2 H) 84] 30 P uf y.1/\w'.heap[e]? = some (.cells (bp y.2 H).toArray 84 (0,0))/\aG (aL.int .i64) (dT T [aD P uf,.box e (bp y.2 H) 84]) w' H y.2.L/\j=H):=by
 refine nR (c:=_) Tryz.func36 rfl T 24 Tryz.ntmps36 hT rfl X V fun a I=>?_;replace I:=((I.fact cc hLv).fS Z).fS a0;unfold nS at B;refine al I fun a I=>?_;refine aM (J:=fun a w=>∃ (D:LK) (z:LN) (A:Int) (p:Value) (m:LV),St L (fun k=>k=e) T 24 [(7,p)] [aD p m,.box e [j,am A] 84] [ao ac m D,aQ (aL.int .i64) j z,cc] a w/\pU D z A=some y) ?_ ?_
 ·refine al I fun a I=>?_;obtain⟨W,M,B⟩:=bd B;refine wl rfl (bV I nP rfl rfl 0 rfl (bK _ _ (I.drop 0).dlt l o _ _ (I.zb 0 rfl) (I.zi 0 rfl) (aG.lent (i:=0) rfl I.g1) _ M) fun _ w C O=>?_);obtain⟨a4,he,hrow,F,q⟩:=C;obtain rfl:=he.symm;subst q;refine⟨(bp W.2 j),hrow,fun a I=>?_⟩;replace I:=I.fS (aG.back (i:=0) rfl F);refine al I fun a I=>?_;replace I:=I.zn ac 30 (by decide);obtain⟨r1,Y,hMo1⟩:=bd B;refine bF _ (fun s a w=>∃ (h:LK) (n:Int) (f:LN) (g:Int) (E:Value) (u:LV),(h,n,f,g)=s/\St L (fun k=>k=e) T 24 [(0,pt e 0),(1,N),(7,E),(8,am n)] [aD E u,.box e [j,am g] 84] [aQ aB N d,ao ac u h,aQ (aL.int .i64) j f,cc] a w) Y ⟨_,_,_,_,_,_,rfl,I.mt [0,1] [2,0,1,4]⟩ ?_;rintro s a w f1 ⟨h,n,f,g,E,u,rfl,I⟩ B hf1;have B:pV d h n f g=some f1:=B;unfold pV at B;refine ay ?_;refine al I fun a I=>?_;rcases cd B with⟨Q,B⟩|⟨Q,B⟩
  ·refine al I fun a I=>?_;refine ay ?_;refine al I fun a I=>?_;obtain⟨b,K,B⟩:=bd B;refine wl rfl (bV I O6 rfl rfl 1 rfl (Fa _ _ (I.drop 1).dlt (br.mk f g) d _ _ _ (I.zb 1 rfl) (I.zi 1 rfl) (aG.lent (i:=1) rfl I.g2) (aG.lent (i:=1) rfl I.g0) (cc.keep I.g3 (aj _ _) (fun k O=>.inl ((pn (i:=1) rfl k).1 O))) _ K) fun _ w C O=>?_);obtain⟨a5,he,hrow,G,r⟩:=C;obtain rfl:=he.symm;subst r;refine⟨(bp b.2 j),hrow,fun a I=>?_⟩;replace I:=I.fS (aG.back (i:=1) rfl G);refine wl rfl (ba (ps:=[(0,.tmp 20)]) I kG iA (zl:=[am 0,aT cg]) (by kernel_rfl) rfl (us:=[(bf b.1)]) ⟨rfl,trivial⟩ (ws:=(bf b.1)) rfl rfl rfl rfl fun a1 a w O I=>?_);replace I:=(I.lit (R:=ac) (us:=(bf b.1)) (xs:=[(ae.mk b.1.k b.1.t)]) 0 rfl (by decide) (aF (R:=ac) (x:=(ae.mk b.1.k b.1.t)) rfl) rfl rfl).zf (R:=ac) 0 rfl 0 rfl;obtain⟨S,B⟩:=aU B;refine wl rfl (bJ (R:=ac) (xs:=h) (ys:=[(ae.mk b.1.k b.1.t)]) I kG (by decide) (by decide) rfl rfl 0 rfl 4 rfl 0 rfl S rfl fun a9 a2 a w O I=>?_);refine al I fun a I=>?_;exact fin
  refine al I fun a I=>?_;cases B
  have hr:=hf1 _ rfl;subst hr;have B:pU h f g=some y:=hMo1;exact fin
 rintro a w ⟨D,z,A,p,m,I,B⟩;unfold pU at B;refine al I fun a I=>?_;cases B
 refine aE I rfl (ap I rfl aC) ?_;exact⟨p,m,j,rfl,I.zm ⟨.inr (aK (i:=0) rfl),⟨.inr (aK (i:=1) rfl),trivial⟩⟩ 0 rfl 0 rfl 1 rfl (by decide),I.zb 1 rfl,(aG.up ⟨.inr (aK (i:=0) rfl),⟨.inr (aK (i:=1) rfl),trivial⟩⟩ I.g1),rfl⟩
def tf:=some (((aA.mk (ae.mk 0 cg) cg ([]) 0 0 0 false),false))
def jp (f:LR) (e:ae) (c:Int):Option (Fl (Int) (Fl (Unit) (aA×Bool))):=cond (decide (c<(f.length:Int))) ((bG f c).bind fun b=>cond (b.d.k==e.k&&b.d.t.toList==e.t.toList) ((gV b).bind fun g=>some (.out (.out (g,true)))) (some (.go (IntKind.i64.wrap (c+1))))) (some (.out (.go ())))
def da (c:LR) (b:ae):=(loop (fun s:Int=>jp c b s) 0).bind fun r=>Fl.el r (fun s=>tf) (fun y=>some (y))
theorem cn (f:LR) (b:ae) (p:Value) (E:aG aa T L p f) (y:aA×Bool) (B:da f b=some y):bc aO No 40 [p,.agg (bf b).toArray] L (fun v w'=>∃ (A:Value) (dA:bC),v = .tuple #[.agg (bx y.1 A).toArray,.bool y.2]/\j9 ac T L w' [aD A dA] 30 A dA y.1.v):=by
 refine en Tryz.func40 Tryz.ntmps40 hT fun a I=>?_;replace I:=I.fS (aG.dn E);unfold da at B;refine kB I fun j M a w O I=>?_;refine ka I ge fun c N a w O I=>?_;refine al I fun a I=>?_;refine aM (J:=fun a w=>St L No T 22 [(4,pt c 0)] [.box c [am 0,aT cg,aT cg,.slice none 0 0,am 0,am 0,am 0,.bool false] 33] [] a w/\tf=some y) ?_ ?_
 ·refine al I fun a I=>?_;obtain⟨W,D,hMo1⟩:=bd B;refine bF _ (fun s a w=>∃ (e:Int),e=s/\St L No T 22 [(3,pt j 0),(4,pt c 0),(8,p),(9,am (f.length:Int)),(10,am e)] [.box j (bf b) 30,.box c [am 0,aT cg,aT cg,.slice none 0 0,am 0,am 0,am 0,.bool false] 33] [aQ aa p f] a w) D ⟨_,rfl,I.mt [1,0] [0]⟩ ?_;rintro s a w K ⟨e,rfl,I⟩ B hf1;have B:jp f b e=some K:=B;unfold jp at B;refine al I fun a I=>?_;refine ay ?_;rcases cd B with⟨r,B⟩|⟨r,B⟩
  ·refine al I fun a I=>?_;refine ay ?_;refine al I fun a I=>?_;obtain⟨g,m,B⟩:=bd B;refine wl rfl (bz (R:=aa) I rb ow rfl rfl 0 rfl m rfl fun F Q H u a I=>?_);obtain⟨V,rfl,o⟩:=u;replace I:=I.fS o;refine kA I ge fun G P a w O I=>?_;refine go I fun a w I=>?_;refine wl rfl (ky (v:=.bool (g.d.k==b.k&&g.d.t.toList==b.t.toList)) I (Ge I rfl rfl) rfl rfl fun a I=>?_);refine al I fun a I=>?_;rcases cd B with⟨x,B⟩|⟨x,B⟩
   ·refine al I fun a I=>?_;obtain⟨S,n,B⟩:=bd B;refine kc I GS (nE _ _ I.dlt g _ I.g0 _ n) fun _ w C a O U=>?_;obtain⟨z,q,he,l⟩:=C;obtain rfl:=he.symm;have I:=uc U l;refine go I fun a w I=>?_;cases B
    have hr:=hf1 _ rfl;subst hr;replace hMo1:=ly hMo1;have B:=hMo1;cases B
    refine aE I Tryz.results40 (bu I rfl 3 rfl ow rfl (fun h=>by cases h) (ap I rfl aC)) ?_;exact⟨z,q,rfl,I.zo ⟨.inr (aK (i:=0) rfl),trivial⟩ 0 rfl 0 rfl⟩
   exact fz
  exact fz
 rintro a w ⟨I,B⟩;unfold tf at B;refine al I fun a I=>?_;refine qy I (bk (ps:=[]) I Og ge rfl (us:=[]) trivial (ws:=[am 0,aT cg,aT cg,.slice none 0 0,am 0,am 0,am 0,.bool false]) rfl) fun a I=>?_;refine go I fun a w I=>?_;cases B
 refine aE I Tryz.results40 (bu I rfl 0 rfl ow rfl (fun h=>by cases h) (ap I rfl aC)) ?_;exact⟨.slice none 0 0,[],rfl,fP _ _ _ _ _ _⟩
def uw:=some (false)
def mp (e:LK) (d:ae) (b:Int):Option (Fl (Int) (Fl (Unit) Bool)):=cond (decide (b<(e.length:Int))) ((bG e b).bind fun c=>cond (c.k==d.k&&c.t.toList==d.t.toList) (some (.out (.out true))) (some (.go (IntKind.i64.wrap (b+1))))) (some (.out (.go ())))
def pD (c:LK) (b:ae):=(loop (fun s:Int=>mp c b s) 0).bind fun r=>Fl.el r (fun s=>uw) (fun y=>some (y))
theorem vx (d:LK) (b:ae) (h:Value) (m:aG ac T L h d) (y:Bool) (B:pD d b=some y):bc aO No 38 [h,.agg (bf b).toArray] L (fun v w'=>v = .bool y):=by
 refine en Tryz.func38 Tryz.ntmps38 hT fun a I=>?_;replace I:=I.fS (aG.dn m);unfold pD at B;refine kB I fun e r a w O I=>?_;refine al I fun a I=>?_;refine aM (J:=fun a w=>St L No T 17 [] [] [] a w/\uw=some y) ?_ ?_
 ·refine al I fun a I=>?_;obtain⟨z,l,hMo1⟩:=bd B;refine bF _ (fun s a w=>∃ (c:Int),c=s/\St L No T 17 [(3,pt e 0),(7,h),(8,am (d.length:Int)),(9,am c)] [.box e (bf b) 30] [aQ ac h d] a w) l ⟨_,rfl,I.mt [0] [0]⟩ ?_;rintro s a w q ⟨c,rfl,I⟩ B hf1;have B:mp d b c=some q:=B;unfold mp at B;refine al I fun a I=>?_;refine ay ?_;rcases cd B with⟨i,B⟩|⟨i,B⟩
  ·refine al I fun a I=>?_;refine ay ?_;refine al I fun a I=>?_;obtain⟨f,g,B⟩:=bd B;refine wl rfl (bz (R:=ac) I qQ ix rfl rfl 0 rfl g rfl fun n x p j a I=>?_);obtain rfl:=j;refine kA I iA fun o u a w O I=>?_;refine go I fun a w I=>?_;refine wl rfl (ky (v:=.bool (f.k==b.k&&f.t.toList==b.t.toList)) I (Ge I rfl rfl) rfl rfl fun a I=>?_);exact fz
  exact fz
 rintro a w ⟨I,B⟩;unfold uw at B;exact fz
def nH (b:(List dY)):=some (b)
def nI (b:Int) (c:(List dY)):Option (Fl ((List dY)×Int) ((List dY))):=some (.go (c,IntKind.i64.wrap (b+1)))
def kP (b:Int) (c:(List dY)):Option (Fl ((List dY)×Int) ((List dY))):=some (.go (c,IntKind.i64.wrap (b+1)))
def iQ (f:LK) (e:ae) (g:(aA×Bool)) (c:(List dY)) (b:Int):=cond (decide (b<(g.1.v.length:Int))) ((bG g.1.v b).bind fun d=>(pD f d).bind fun h=>cond (!(h)) (gd (bW (c.length+([(dY.mk e d)]).length)) <| kP b (c++([(dY.mk e d)]))) (kP b c)) (some (.out c))
def kQ (g:LR) (b:LK) (e:(List dY)) (c:Int):=cond (decide (c<(b.length:Int))) ((bG b c).bind fun d=>(da g d).bind fun f=>(loop (fun s:(List dY)×Int=>iQ b d f s.1 s.2) (e,0)).bind fun r=>nI c r) (some (.out e))
def jc (c:LR) (b:LK):=(loop (fun s:(List dY)×Int=>kQ c b s.1 s.2) (([]:List dY),0)).bind fun r=>nH r
theorem oT (j:LR) (b:LK) (n f:Value) (b1:aG aa T L n j) (b2:aG ac T L f b) (y:(List dY)) (B:jc j b=some y):bc aO No 211 [n,f] L (fun v w'=>∃ (v3:Value) (sO:bC),v=v3/\j9 gt T L w' [nB v3 sO] 257 v3 sO y):=by
 refine en Tryz.func211 Tryz.ntmps211 hT fun a I=>?_;replace I:=(I.fS (aG.dn b1)).fS (aG.dn b2);unfold jc at B;refine al I fun a I=>?_;refine aM (J:=fun a w=>∃ (G:(List dY)) (u:Value) (p:LV),St L No T 44 [(5,u)] [nB u p] [ao gt p G] a w/\nH G=some y) ?_ ?_
 ·refine al I fun a I=>?_;replace I:=I.zn gt 257 (by decide);obtain⟨r1,av,hMo1⟩:=bd B;refine bF _ (fun s a w=>∃ (r:(List dY)) (e:Int) (M:Value) (A:LV),(r,e)=s/\St L No T 44 [(0,n),(1,f),(5,M),(12,f),(13,am (b.length:Int)),(14,am e)] [nB M A] [aQ aa n j,aQ ac f b,ao gt A r] a w) av ⟨_,_,_,_,rfl,I.mt [0] [2,1,0]⟩ ?_;rintro s a w f1 ⟨r,e,M,A,rfl,I⟩ B hf1;have B:kQ j b r e=some f1:=B;unfold kQ at B;refine al I fun a I=>?_;refine ay ?_;rcases cd B with⟨Z,B⟩|⟨Z,B⟩
  ·refine al I fun a I=>?_;refine aM (J:=fun a w=>∃ (H:(List dY)) (N:Value) (D:LV),St L No T 44 [(0,n),(1,f),(5,N),(12,f),(13,am (b.length:Int)),(14,am e)] [nB N D] [aQ aa n j,aQ ac f b,ao gt D H] a w/\nI e H=some f1) ?_ ?_
   ·refine al I fun a I=>?_;obtain⟨c,V,B⟩:=bd B;refine wl rfl (bz (R:=ac) I qQ ix rfl rfl 1 rfl V rfl fun b3 c1 b9 a0 a I=>?_);obtain rfl:=a0;refine kA I iA fun o bl a w O I=>?_;refine go I fun a w I=>?_;obtain⟨m,X,B⟩:=bd B;refine kc I sN (cn _ _ I.dlt j c _ I.g1 _ X) fun _ w C a O U=>?_;obtain⟨z,q,he,S⟩:=C;obtain rfl:=he.symm;have I:=uc U S;refine kA I ge fun b4 bs a w O I=>?_;refine go I fun a w I=>?_;obtain⟨r2,b0,hMo2⟩:=bd B;refine bF _ (fun s a w=>∃ (l:(List dY)) (g:Int) (P:Value) (E:LV),(l,g)=s/\St L No T 44 [(0,n),(1,f),(5,P),(7,pt o 0),(12,f),(13,am (b.length:Int)),(14,am e),(25,z),(26,am (m.1.v.length:Int)),(27,am g)] [nB P E,aD z q,.box o (bf c) 30] [aQ aa n j,aQ ac f b,ao gt E l,ao ac q m.1.v] a w) b0 ⟨_,_,_,_,rfl,I.mt [3,1,2] [2,3,4,0]⟩ ?_;rintro s a w f2 ⟨l,g,P,E,rfl,I⟩ B hf2;have B:iQ b c m l g=some f2:=B;unfold iQ at B;refine al I fun a I=>?_;refine ay ?_;rcases cd B with⟨a1,B⟩|⟨a1,B⟩
    ·refine al I fun a I=>?_;refine aM (J:=fun a w=>∃ (K:(List dY)) (Q:Value) (F:LV),St L No T 44 [(0,n),(1,f),(5,Q),(7,pt o 0),(12,f),(13,am (b.length:Int)),(14,am e),(25,z),(26,am (m.1.v.length:Int)),(27,am g)] [nB Q F,aD z q,.box o (bf c) 30] [aQ aa n j,aQ ac f b,ao gt F K,ao ac q m.1.v] a w/\kP g K=some f2) ?_ ?_
     ·refine al I fun a I=>?_;obtain⟨d,W,B⟩:=bd B;refine wl rfl (eQ (R:=ac) I qQ ix rfl rfl 1 rfl 3 rfl W rfl fun b5 c2 c3 bb a2 a3 a4 a I=>?_);obtain rfl:=a2;refine qy I (cC (k:=0) I ix 1 rfl a3 a4 rfl id (us:=(bf d)) rfl rfl (fun h=>by cases h)) fun a I=>?_;refine ka I iA fun b6 bt a w O I=>?_;refine go I fun a w I=>?_;obtain⟨c4,Y,B⟩:=bd B;refine kF I NT (vx _ _ I.dlt b d _ I.g1 _ Y) fun w a I=>?_;rcases cd B with⟨a5,B⟩|⟨a5,B⟩
      ·refine al I fun a I=>?_;refine qy I (bk (ps:=[(0,.tmp 36),(1,.tmp 37)]) I Qt HY rfl (us:=[(bf c),(bf d)]) ⟨rfl,⟨rfl,trivial⟩⟩ (ws:=[am c.k,aT c.t,am d.k,aT d.t]) rfl) fun a I=>?_;refine wl rfl (ba (ps:=[(0,.tmp 38)]) I Ng HY (zl:=[am 0,aT cg,am 0,aT cg]) (by kernel_rfl) rfl (us:=[[am c.k,aT c.t,am d.k,aT d.t]]) ⟨rfl,trivial⟩ (ws:=[am c.k,aT c.t,am d.k,aT d.t]) rfl rfl rfl rfl fun b8 a w O I=>?_);replace I:=(I.lit (R:=gt) (us:=[am c.k,aT c.t,am d.k,aT d.t]) (xs:=[(dY.mk c d)]) 0 rfl (by decide) (aF (R:=gt) (x:=(dY.mk c d)) rfl) rfl rfl).zf (R:=gt) 0 rfl 0 rfl;obtain⟨a9,B⟩:=aU B;refine wl rfl (bJ (R:=gt) (xs:=l) (ys:=[(dY.mk c d)]) I Ng (by decide) (by decide) rfl rfl 1 rfl 4 rfl 0 rfl a9 rfl fun c5 bi a w O I=>?_);exact fz
      exact fz
     rintro a w ⟨K,Q,F,I,B⟩;unfold kP at B;exact fz
    exact fz
   rintro a w ⟨H,N,D,I,B⟩;unfold nI at B;exact fz
  exact fz
 rintro a w ⟨G,u,p,I,B⟩;unfold nH at B;refine al I fun a I=>?_;cases B
 refine aE I rfl (ap I rfl aC) ?_;exact⟨u,p,rfl,I.zo ⟨.inr (aK (i:=0) rfl),trivial⟩ 0 rfl 0 rfl⟩
def qY (b:LK):=some (b)
def iP (b:Int) (c:LK):Option (Fl (LK×Int) (LK)):=some (.go (c,IntKind.i64.wrap (b+1)))
def fk (c:LK) (e:Int) (d:ae) (f:Int) (h:Bool):=cond h ((tY c 0 f).bind fun b=>(tY c f c.length).bind fun g=>gd (bW (([]:List ae).length+b.length)) <| gd (bW ((([]:List ae)++b).length+([d]).length)) <| gd (bW (((([]:List ae)++b)++([d])).length+g.length)) <| iP e (((([]:List ae)++b)++([d]))++g)) (iP e c)
def kJ (d:LK) (f:Int) (b:ae) (c:Int):=cond (c==(d.length:Int)) (fk d f b c true) ((bG d c).bind fun e=>fk d f b c (!(e.k==b.k&&e.t.toList==b.t.toList)))
def gq (c:LK) (d:ae) (b:Int):Option (Fl (Int) (Int)):=cond (decide (b<(c.length:Int))) ((bG c b).bind fun e=>(jN e d).bind fun f=>cond (decide (f<0)) (some (.go (IntKind.i64.wrap (b+1)))) (some (.out b))) (some (.out b))
def nC (e c:LK) (b:Int):=cond (decide (b<(e.length:Int))) ((bG e b).bind fun d=>(loop (fun s:Int=>gq c d s) 0).bind fun r=>kJ c b d r) (some (.out c))
def km (b:LK):=(loop (fun s:LK×Int=>nC b s.1 s.2) (([]:List ae),0)).bind fun r=>qY r
theorem vy (hLv:fi T L) (e:LK) (o:Value) (c9:aG ac T L o e) (y:LK) (B:km e=some y):bc aO No 119 [o] L (fun v w'=>∃ (v2:Value) (dA:bC),v=v2/\j9 ac T L w' [aD v2 dA] 30 v2 dA y):=by
 refine en Tryz.func119 Tryz.ntmps119 hT fun a I=>?_;replace I:=(I.fact cc (fi.dn hLv)).fS (aG.dn c9);unfold km at B;refine al I fun a I=>?_;refine aM (J:=fun a w=>∃ (M:LK) (D:Value) (q:LV),St L No T 53 [(3,D)] [aD D q] [ao ac q M,cc] a w/\qY M=some y) ?_ ?_
 ·refine al I fun a I=>?_;replace I:=I.zn ac 30 (by decide);obtain⟨r1,c4,hMo1⟩:=bd B;refine bF _ (fun s a w=>∃ (d:LK) (c:Int) (g:Value) (f:LV),(d,c)=s/\St L No T 53 [(3,g),(7,o),(8,am (e.length:Int)),(9,am c)] [aD g f] [ao ac f d,aQ ac o e,cc] a w) c4 ⟨_,_,_,_,rfl,I.mt [0] [0,1,2]⟩ ?_;rintro s a w X ⟨d,c,g,f,rfl,I⟩ B hf1;have B:nC e d c=some X:=B;unfold nC at B;refine al I fun a I=>?_;refine ay ?_;rcases cd B with⟨ag,B⟩|⟨ag,B⟩
  ·refine al I fun a I=>?_;refine aM (J:=fun a w=>∃ (N:LK) (P:Value) (E:LV),St L No T 53 [(3,P),(7,o),(8,am (e.length:Int)),(9,am c)] [aD P E] [ao ac E N,aQ ac o e,cc] a w/\iP c N=some X) ?_ ?_
   ·refine al I fun a I=>?_;obtain⟨b,Y,B⟩:=bd B;refine wl rfl (bz (R:=ac) I qQ ix rfl rfl 1 rfl Y rfl fun ca d4 cl ak a I=>?_);obtain rfl:=ak;refine kA I iA fun m d3 a w O I=>?_;refine go I fun a w I=>?_;refine aM (J:=fun a w=>∃ (p:Int),St L No T 53 [(3,g),(5,pt m 0),(6,am p),(7,o),(8,am (e.length:Int)),(9,am c)] [aD g f,.box m (bf b) 30] [ao ac f d,aQ ac o e,cc] a w/\kJ d c b p=some X) ?_ ?_
    ·refine al I fun a I=>?_;obtain⟨r2,c5,hMo2⟩:=bd B;refine bF _ (fun s a w=>∃ (A:Int),A=s/\St L No T 53 [(3,g),(5,pt m 0),(6,am A),(7,o),(8,am (e.length:Int)),(9,am c)] [aD g f,.box m (bf b) 30] [ao ac f d,aQ ac o e,cc] a w) c5 ⟨_,rfl,I.mt [1,0] [1,2,3]⟩ ?_;rintro s a w f2 ⟨A,rfl,I⟩ B hf2;have B:gq d b A=some f2:=B;unfold gq at B;refine ay ?_;refine ay ?_;refine dr [] I fun w hQ I=>?_;refine gE [0,1,2,3,4] I fun a I=>?_;rcases cd B with⟨u,B⟩|⟨u,B⟩
     ·refine gE [5,6] I fun a I=>?_;obtain⟨F,a0,B⟩:=bd B;obtain⟨a4,bi,d5,cs,av,b0,b1,b2⟩:=mR (R:=ac) I qQ ix 0 rfl 0 rfl a0;obtain rfl:=av;refine dg 7 I u (v:=pt a4 bi) (b2 rfl rfl) fun a I=>?_;refine dg 8 I u (l:=[]) (v:=.agg (bf F).toArray) (cC (k:=0) I ix 0 rfl b0 b1 rfl bU (us:=(bf F)) rfl rfl (fun h=>by cases h)) fun a I=>?_;refine gE [9] I fun a I=>?_;obtain⟨d7,a3,B⟩:=bd B;refine dW (i:=10) rfl (by kernel_rfl) I rfl rfl rfl u (bL I F9 rfl rfl (lE _ _ I.dlt I.g2 F b _ a3) fun _ w C a O U=>⟨gO (O),?_⟩);obtain rfl:=C;have I:=fp U;refine gE [11,12] I fun a I=>?_;refine eD ?_;exact fz
     refine gE [5,6,7,8,9,10,11,12] I fun a I=>?_;refine eD ?_;exact fz
    rintro a w ⟨p,I,B⟩;unfold kJ at B;refine aM (J:=fun a w=>∃ (G:Bool),St L No T 53 [(3,g),(5,pt m 0),(6,am p),(7,o),(8,am (e.length:Int)),(9,am c),(39,.bool G)] [aD g f,.box m (bf b) 30] [ao ac f d,aQ ac o e,cc] a w/\fk d c b p G=some X) ?_ ?_
    ·refine dr [] I fun w hQ I=>?_;refine gE [0,1,2,3,4] I fun a I=>?_;rcases cd B with⟨z,B⟩|⟨z,B⟩
     ·refine gE [5,6,7,8,9,10,11] I fun a I=>?_;refine eD ?_;exact fin
     refine gE [5,6] I fun a I=>?_;obtain⟨r,Z,B⟩:=bd B;obtain⟨a5,bl,d6,cv,b3,b4,b5,b6⟩:=mR (R:=ac) I qQ ix 0 rfl 0 rfl Z;obtain rfl:=b3;refine dg 7 I z (v:=pt a5 bl) (b6 rfl rfl) fun a I=>?_;refine dg 8 I z (l:=[]) (v:=.agg (bf r).toArray) (cC (k:=0) I ix 0 rfl b4 b5 rfl bU (us:=(bf r)) rfl rfl (fun h=>by cases h)) fun a I=>?_;refine gE [9] I fun a I=>?_;refine dg 10 I z (v:=.bool (!(r.k==b.k&&r.t.toList==b.t.toList))) (AX I rfl rfl) fun a I=>?_;refine gE [11] I fun a I=>?_;refine eD ?_;exact fin
    rintro a w ⟨G,I,B⟩;unfold fk at B;rcases cd B with⟨b8,B⟩|⟨b8,B⟩
    ·refine al I fun a I=>?_;replace I:=I.zn ac 30 (by decide);refine dr [(3,.blk (Value.ownBlock (.slice none 0 0))),(6,.any),(10,.any)] I fun w hQ I=>?_;refine gE [0,1] I fun a I=>?_;obtain⟨n,a1,B⟩:=bd B;obtain⟨bs,Q,b9⟩:=xc (R:=ac) I qQ ix 1 rfl 1 rfl a1;refine dq 2 I (v:=bs) (b9 (k1:=.i64) rfl (.inr ⟨rfl,rfl⟩) (.inl ⟨_,rfl,rfl⟩)) fun a I=>?_;refine dq 4 I (l:=[.blk (Value.ownBlock (.slice none 0 0))]) (v:=.agg (bf b).toArray) (eB I rfl ix 2 rfl (iX I 2 rfl rfl 0 rfl rfl (by decide) bU) (us:=(bf b)) rfl rfl (fun h=>by cases h)) fun a I=>?_;refine gE [7,8] I fun a I=>?_;obtain⟨W,a2,B⟩:=bd B;obtain⟨bt,S,bb⟩:=xc (R:=ac) I qQ ix 1 rfl 1 rfl a2;refine dq 9 I (v:=bt) (bb (k2:=.i64) rfl (.inl ⟨_,rfl,rfl⟩) (.inr ⟨rfl,rfl⟩)) fun a I=>?_;obtain⟨V,B⟩:=aU B;refine eG (i:=3) (j:=5) rfl rfl (by kernel_rfl) rfl rfl ?_ ?_
     ·skip;replace I:=I.zf (R:=ac) 1 rfl 1 rfl;replace I:=I.fS (Q _ _ I.g0);refine id (bJ (R:=ac) (xs:=([]:List ae)) (ys:=n) I kG (by decide) (by decide) rfl rfl 0 rfl 2 rfl 0 rfl V rfl fun d8 d0 a w O I=>⟨kU rfl O kI,?_⟩);refine e1 5 (ba (ps:=[(0,.tmp 44)]) I kG iA (zl:=[am 0,aT cg]) (by kernel_rfl) rfl (us:=[(bf b)]) ⟨rfl,trivial⟩ (ws:=(bf b)) rfl rfl rfl rfl fun ch a w O I=>⟨gO (O),?_⟩);replace I:=(I.lit (R:=ac) (us:=(bf b)) (xs:=[b]) 0 rfl (by decide) (aF (R:=ac) (x:=b) rfl) rfl rfl).zf (R:=ac) 0 rfl 0 rfl;obtain⟨H,B⟩:=aU B;refine e1 6 (bJ (R:=ac) (xs:=(([]:List ae)++n)) (ys:=[b]) I kG (by decide) (by decide) rfl rfl 0 rfl 2 rfl 0 rfl H rfl fun c1 a9 a w O I=>⟨kU rfl O sR,?_⟩);replace I:=I.fS (S _ _ I.g5);obtain⟨K,B⟩:=aU B;refine e1 10 (bJ (R:=ac) (xs:=((([]:List ae)++n)++([b]))) (ys:=W) I kG (by decide) (by decide) rfl rfl 0 rfl 1 rfl 0 rfl K rfl fun c2 af a w O I=>⟨kU rfl O sR,?_⟩);refine gE [11] I fun a I=>?_;refine eD ?_;exact fin
     skip;refine id (ba (ps:=[(0,.tmp 44)]) I kG iA (zl:=[am 0,aT cg]) (by kernel_rfl) rfl (us:=[(bf b)]) ⟨rfl,trivial⟩ (ws:=(bf b)) rfl rfl rfl rfl fun ck a w O I=>⟨gO (O),?_⟩);replace I:=I.zf (R:=ac) 2 rfl 1 rfl;replace I:=I.fS (Q _ _ I.g0);refine e1 3 (bJ (R:=ac) (xs:=([]:List ae)) (ys:=n) I kG (by decide) (by decide) rfl rfl 1 rfl 2 rfl 0 rfl V rfl fun d9 d1 a w O I=>⟨kU rfl O kI,?_⟩);replace I:=(I.lit (R:=ac) (us:=(bf b)) (xs:=[b]) 0 rfl (by decide) (aF (R:=ac) (x:=b) rfl) rfl rfl).zf (R:=ac) 0 rfl 0 rfl;obtain⟨H,B⟩:=aU B;refine e1 6 (bJ (R:=ac) (xs:=(([]:List ae)++n)) (ys:=[b]) I kG (by decide) (by decide) rfl rfl 0 rfl 2 rfl 0 rfl H rfl fun c1 a9 a w O I=>⟨kU rfl O sR,?_⟩);replace I:=I.fS (S _ _ I.g5);obtain⟨K,B⟩:=aU B;refine e1 10 (bJ (R:=ac) (xs:=((([]:List ae)++n)++([b]))) (ys:=W) I kG (by decide) (by decide) rfl rfl 0 rfl 1 rfl 0 rfl K rfl fun c2 af a w O I=>⟨kU rfl O sR,?_⟩);refine gE [11] I fun a I=>?_;refine eD ?_;exact fin
    exact fz
   rintro a w ⟨N,P,E,I,B⟩;unfold iP at B;exact fz
  exact fz
 rintro a w ⟨M,D,q,I,B⟩;unfold qY at B;refine al I fun a I=>?_;cases B
 refine aE I rfl (ap I rfl aC) ?_;exact⟨D,q,rfl,I.zo ⟨.inr (aK (i:=0) rfl),trivial⟩ 0 rfl 0 rfl⟩
def jq (b:Bool):=some (b)
def pI (f:LR) (b:Int) (d:ae):=(da f d).bind fun c=>cond c.2 ((cU d).bind fun e=>cond e (cond (decide (c.1.l<b)) (jq (!(c.1.d1))) (jq false)) (jq false)) (jq false)
theorem yh (g:LR) (b:Int) (d:ae) (k:Value) (j:aG aa T L k g) (y:Bool) (B:pI g b d=some y):bc aO No 246 [k,am b,.agg (bf d).toArray] L (fun v w'=>v = .bool y):=by
 refine en Tryz.func246 Tryz.ntmps246 hT fun a I=>?_;replace I:=I.fS (aG.dn j);unfold pI at B;refine kB I fun l o a w O I=>?_;refine al I fun a I=>?_;obtain⟨q,h,B⟩:=bd B;refine kc I sN (cn _ _ I.dlt g d _ I.g0 _ h) fun _ w C a O U=>?_;obtain⟨s,n,he,f⟩:=C;obtain rfl:=he.symm;have I:=uc U f;refine kA I ge fun m p a w O I=>?_;refine go I fun a w I=>?_;refine aM (J:=fun a w=>∃ (c:Bool),St L No T 31 [(6,.bool c)] [] [] a w/\jq c=some y) ?_ ?_
 ·refine al I fun a I=>?_;rcases cd B with⟨e,B⟩|⟨e,B⟩
  ·refine al I fun a I=>?_;obtain⟨r,i,B⟩:=bd B;refine wg I rfl rfl rfl e (bL I tG rfl rfl (dp _ _ I.dlt d _ i) fun _ w C a O U=>?_);obtain rfl:=C;have I:=fp U;exact fz
  exact fz
 rintro a w ⟨c,I,B⟩;unfold jq at B;exact fz
def oU (b:LO):=some (b)
def lU (b:Int) (d:LO) (c:LK):Option (Fl (LO×LK×Int) (LO)):=some (.go (d,c,IntKind.i64.wrap (b+1)))
def lV (b:Int) (d:LO) (c:LK):Option (Fl (LO×LK×Int) (LO×LK)):=some (.go (d,c,IntKind.i64.wrap (b+1)))
def lW (e:LO) (c:LK) (d:Int) (b:ae) (f:Bool):=cond f (gd (bW (c.length+([b]).length)) <| lV d (fV aR b true e) (c++([b]))) (lV d e c)
def ga (j:LR) (e:Int) (g:(aA×Bool)) (d:LO) (f:LK) (c:Int):=cond (decide (c<(g.1.v.length:Int))) ((bG g.1.v c).bind fun b=>(pI j e b).bind fun h=>cond h ((some ((dv aR b d).getD false)).bind fun i=>lW d f c b (!(i))) (lW d f c b false)) (some (.out (d,f)))
def ir (f:LR) (b:Int) (e:LO) (d:LK) (c:Int):=cond (decide (c<(d.length:Int))) ((bG d c).bind fun g=>(da f g).bind fun h=>(loop (fun s:LO×LK×Int=>ga f b h s.1 s.2.1 s.2.2) (e,d,0)).bind fun r=>lU c r.1 r.2) (some (.out e))
def oh (d:LR) (b:Int) (c:ae):=(loop (fun s:LO×LK×Int=>ir d b s.1 s.2.1 s.2.2) (([]:LO),[c],0)).bind fun r=>oU r
theorem wR (l:LR) (b:Int) (u:ae) (q:Value) (d0:aG aa T L q l) (y:LO) (B:oh l b u=some y):bc aO No 247 [q,am b,.agg (bf u).toArray] L (fun v w'=>∃ (b2:Nat) (b6:Array MapEntry) (b5:Nat),v = .map (some b2)/\OW ac true aL.bool false T L w' [om b2 b6 b5] b2 b6 b5 y):=by
 refine en Tryz.func247 Tryz.ntmps247 hT fun a I=>?_;replace I:=I.fS (aG.dn d0);unfold oh at B;refine kB I fun d1 e2 a w O I=>?_;refine al I fun a I=>?_;refine wl rfl (sS ac true aL.bool false I rfl fun e e3 a w O I=>?_);refine al I fun a I=>?_;refine wl rfl (ba (ps:=[(0,.tmp 15)]) I kG iA (zl:=[am 0,aT cg]) (by kernel_rfl) rfl (us:=[(bf u)]) ⟨rfl,trivial⟩ (ws:=(bf u)) rfl rfl rfl rfl fun d2 a w O I=>?_);refine al I fun a I=>?_;refine aM (J:=fun a w=>∃ (X:LO) (A:AM) (F:Nat),St L No T 57 [(7,.map (some e))] [om e A F] [wN A X] a w/\oU X=some y) ?_ ?_
 ·refine al I fun a I=>?_;replace I:=I.lit (R:=ac) (us:=(bf u)) (xs:=[u]) 0 rfl (by decide) (aF (R:=ac) (x:=u) rfl) rfl rfl;obtain⟨r1,cl,hMo1⟩:=bd B;refine bF _ (fun s a w=>∃ (E:LO) (D:LK) (f:Int) (N:AM) (a4:Nat) (a0:Value) (G:LV),(E,D,f)=s/\St L No T 57 [(0,q),(1,am b),(7,.map (some e)),(8,a0),(9,am f)] [om e N a4,aD a0 G] [aQ aa q l,wN N E,ao ac G D] a w) cl ⟨_,_,_,_,_,_,_,rfl,I.mt [1,0] [2,1,0]⟩ ?_;rintro s a w f1 ⟨E,D,f,N,a4,a0,G,rfl,I⟩ B hf1;have B:ir l b E D f=some f1:=B;unfold ir at B;refine ay ?_;refine al I fun a I=>?_;rcases cd B with⟨bi,B⟩|⟨bi,B⟩
  ·refine al I fun a I=>?_;refine aM (J:=fun a w=>∃ (Y:LO) (V:LK) (P:AM) (a5:Nat) (a1:Value) (H:LV),St L No T 57 [(0,q),(1,am b),(7,.map (some e)),(8,a1),(9,am f)] [om e P a5,aD a1 H] [aQ aa q l,wN P Y,ao ac H V] a w/\lU f Y V=some f1) ?_ ?_
   ·refine al I fun a I=>?_;obtain⟨af,b0,B⟩:=bd B;refine wl rfl (eQ (R:=ac) I qQ ix rfl rfl 1 rfl 2 rfl b0 rfl fun d3 ea ed d7 bl bs bt a I=>?_);obtain rfl:=bl;refine qy I (cC (k:=0) I ix 1 rfl bs bt rfl id (us:=(bf af)) rfl rfl (fun h=>by cases h)) fun a I=>?_;obtain⟨n,b1,B⟩:=bd B;refine kc I sN (cn _ _ I.dlt l af _ I.g0 _ b1) fun _ w C a O U=>?_;obtain⟨p,o,he,ak⟩:=C;obtain rfl:=he.symm;have I:=uc U ak;refine kA I ge fun d4 e4 a w O I=>?_;refine go I fun a w I=>?_;obtain⟨r2,cs,hMo2⟩:=bd B;refine bF _ (fun s a w=>∃ (m:LO) (j:LK) (g:Int) (t:AM) (K:Nat) (z:Value) (r:LV),(m,j,g)=s/\St L No T 57 [(0,q),(1,am b),(7,.map (some e)),(8,z),(9,am f),(33,p),(34,am (n.1.v.length:Int)),(35,am g)] [om e t K,aD z r,aD p o] [aQ aa q l,wN t m,ao ac r j,ao ac o n.1.v] a w) cs ⟨_,_,_,_,_,_,_,rfl,I.mt [2,3,1] [1,2,3,0]⟩ ?_;rintro s a w f2 ⟨m,j,g,t,K,z,r,rfl,I⟩ B hf2;have B:ga l b n m j g=some f2:=B;unfold ga at B;refine al I fun a I=>?_;refine ay ?_;rcases cd B with⟨c1,B⟩|⟨c1,B⟩
    ·refine al I fun a I=>?_;refine aM (J:=fun a w=>∃ (Z:LO) (W:LK) (Q:AM) (a9:Nat) (a2:Value) (M:LV),St L No T 57 [(0,q),(1,am b),(7,.map (some e)),(8,a2),(9,am f),(33,p),(34,am (n.1.v.length:Int)),(35,am g)] [om e Q a9,aD a2 M,aD p o] [aQ aa q l,wN Q Z,ao ac M W,ao ac o n.1.v] a w/\lV g Z W=some f2) ?_ ?_
     ·refine al I fun a I=>?_;obtain⟨d,av,B⟩:=bd B;refine wl rfl (eQ (R:=ac) I qQ ix rfl rfl 2 rfl 3 rfl av rfl fun d5 eb el d8 c2 c3 c4 a I=>?_);obtain rfl:=c2;refine qy I (cC (k:=0) I ix 2 rfl c3 c4 rfl id (us:=(bf d)) rfl rfl (fun h=>by cases h)) fun a I=>?_;refine ka I iA fun a3 e5 a w O I=>?_;refine go I fun a w I=>?_;refine aM (J:=fun a w=>∃ (S:Bool),St L No T 57 [(0,q),(1,am b),(7,.map (some e)),(8,z),(9,am f),(13,pt a3 0),(33,p),(34,am (n.1.v.length:Int)),(35,am g),(48,.bool S)] [om e t K,aD z r,aD p o,.box a3 (bf d) 30] [aQ aa q l,wN t m,ao ac r j,ao ac o n.1.v] a w/\lW m j g d S=some f2) ?_ ?_
      ·refine al I fun a I=>?_;obtain⟨eq,b3,B⟩:=bd B;refine kF I Nb (yh _ _ I.dlt l b d _ I.g0 _ b3) fun w a I=>?_;rcases cd B with⟨ag,B⟩|⟨ag,B⟩
       ·refine al I fun a I=>?_;obtain⟨ck,b4,B⟩:=bd B;obtain⟨d9,c5,c9⟩:=mi I wM eW 1 rfl 1 rfl (c:=(bf d)) (key:=d) rfl OR (zc:=[.bool false]) rfl rfl b4;obtain rfl:=c5;refine wg I rfl rfl rfl ag (ky (v:=.bool ck) I (c9 rfl rfl id) rfl rfl fun a I=>?_);exact fz
       exact fz
      rintro a w ⟨S,I,B⟩;unfold lW at B;rcases cd B with⟨ca,B⟩|⟨ca,B⟩
      ·refine al I fun a I=>?_;refine wl rfl (A5 I wM eW 0 rfl 1 rfl (c:=(bf d)) (cv:=[.bool true]) (key:=d) (val:=true) rfl rfl rfl rfl rfl fun e0 dl w O I=>?_);refine al I fun a I=>?_;refine wl rfl (ba (ps:=[(0,.tmp 52)]) I kG iA (zl:=[am 0,aT cg]) (by kernel_rfl) rfl (us:=[(bf d)]) ⟨rfl,trivial⟩ (ws:=(bf d)) rfl rfl rfl rfl fun d6 a w O I=>?_);replace I:=(I.lit (R:=ac) (us:=(bf d)) (xs:=[d]) 0 rfl (by decide) (aF (R:=ac) (x:=d) rfl) rfl rfl).zf (R:=ac) 0 rfl 0 rfl;obtain⟨ch,B⟩:=aU B;refine wl rfl (bJ (R:=ac) (xs:=j) (ys:=[d]) I kG (by decide) (by decide) rfl rfl 1 rfl 5 rfl 0 rfl ch rfl fun er ds a w O I=>?_);exact fz
      exact fz
     rintro a w ⟨Z,W,Q,a9,a2,M,I,B⟩;unfold lV at B;exact fz
    refine al I fun a I=>?_;cases B
    have hr:=hf2 _ rfl;subst hr;have B:lU f m j=some f1:=hMo2;exact fin
   rintro a w ⟨Y,V,P,a5,a1,H,I,B⟩;unfold lU at B;exact fz
  exact fz
 rintro a w ⟨X,A,F,I,B⟩;unfold oU at B;refine al I fun a I=>?_;cases B
 refine aE I rfl (ap I rfl aC) ?_;exact⟨e,A,F,rfl,I.retMap ⟨.inr (aK (i:=0) rfl),trivial⟩ 0 rfl 0 rfl⟩
def sV (b:LK):=(km b).bind fun c=>some (c)
def qE (b:Int) (c:LK):Option (Fl (LK×Int) (LK)):=some (.go (c,IntKind.i64.wrap (b+1)))
def oe (b:LK) (e:Int) (c:aA) (f:Bool):=cond f (gd (bW (b.length+([c.d]).length)) <| qE e (b++([c.d]))) (qE e b)
def og (h:LR) (f:Int) (g:ae) (i:LO) (e:LK) (c:Int):=cond (decide (c<(h.length:Int))) ((bG h c).bind fun b=>cond (!(b.d.k==g.k&&b.d.t.toList==g.t.toList)) ((some ((dv aR b.d i).getD false)).bind fun j=>cond j ((oh h f b.d).bind fun l=>(some ((dv aR g l).getD false)).bind fun m=>oe e c b m) (oe e c b false)) (oe e c b false)) (some (.out e))
def nc (d:LR) (b:Int) (c:ae):=(pI d b c).bind fun f=>cond (!(f)) (some ([c])) ((oh d b c).bind fun e=>(loop (fun s:LK×Int=>og d b c e s.1 s.2) ([c],0)).bind fun r=>sV r)
theorem uz (hLv:fi T L) (g:LR) (b:Int) (e:ae) (q:Value) (ca:aG aa T L q g) (y:LK) (B:nc g b e=some y):bc aO No 210 [q,am b,.agg (bf e).toArray] L (fun v w'=>∃ (v2:Value) (dA:bC),v=v2/\j9 ac T L w' [aD v2 dA] 30 v2 dA y):=by
 refine en Tryz.func210 Tryz.ntmps210 hT fun a I=>?_;replace I:=(I.fact cc (fi.dn hLv)).fS (aG.dn ca);unfold nc at B;refine kB I fun o d2 a w O I=>?_;refine al I fun a I=>?_;refine ay ?_;refine al I fun a I=>?_;obtain⟨d7,b0,B⟩:=bd B;refine kF I Nb (yh _ _ I.dlt g b e _ I.g0 _ b0) fun w a I=>?_;rcases cd B with⟨b8,B⟩|⟨b8,B⟩
 ·refine al I fun a I=>?_;refine wl rfl (ba (ps:=[(0,.tmp 16)]) I kG iA (zl:=[am 0,aT cg]) (by kernel_rfl) rfl (us:=[(bf e)]) ⟨rfl,trivial⟩ (ws:=(bf e)) rfl rfl rfl rfl fun b2 a w O I=>?_);refine al I fun a I=>?_;replace I:=I.lit (R:=ac) (us:=(bf e)) (xs:=[e]) 0 rfl (by decide) (aF (R:=ac) (x:=e) rfl) rfl rfl;cases B
  refine aE I rfl (ap I rfl aC) ?_;exact⟨(.slice (some ⟨b2,0,none⟩) 1 1),(bf e),rfl,I.zo ⟨.inr (aK (i:=0) rfl),trivial⟩ 0 rfl 0 rfl⟩
 refine al I fun a I=>?_;refine wl rfl (ba (ps:=[(0,.tmp 18)]) I kG iA (zl:=[am 0,aT cg]) (by kernel_rfl) rfl (us:=[(bf e)]) ⟨rfl,trivial⟩ (ws:=(bf e)) rfl rfl rfl rfl fun ch a w O I=>?_);refine al I fun a I=>?_;obtain⟨A,af,B⟩:=bd B;refine kc I Nc (wR _ _ I.dlt g b e _ I.g0 _ af) fun _ w C a O U=>?_;obtain⟨j,m,u,he,⟨X,S,a0⟩⟩:=C;obtain rfl:=he.symm;have I:=U [om j m u] (kD X (Hi S)) (Af _);replace I:=I.fM (a0.keep (aj _ _) (rh _));refine al I fun a I=>?_;refine aM (J:=fun a w=>∃ (z:LK) (K:Value) (D:LV),St L No T 57 [(7,K)] [aD K D] [ao ac D z,cc] a w/\sV z=some y) ?_ ?_
 ·refine al I fun a I=>?_;replace I:=I.lit (R:=ac) (us:=(bf e)) (xs:=[e]) 1 rfl (by decide) (aF (R:=ac) (x:=e) rfl) rfl rfl;obtain⟨r1,c9,hMo1⟩:=bd B;refine bF _ (fun s a w=>∃ (n:LK) (h:Int) (r:Value) (p:LV),(n,h)=s/\St L No T 57 [(0,q),(1,am b),(5,pt o 0),(7,r),(8,.map (some j)),(24,q),(25,am (g.length:Int)),(26,am h)] [aD r p,om j m u,.box o (bf e) 30] [aQ aa q g,ao ac p n,wN m A,cc] a w) c9 ⟨_,_,_,_,rfl,I.mt [1,0,2] [2,0,1,3]⟩ ?_;rintro s a w f1 ⟨n,h,r,p,rfl,I⟩ B hf1;have B:og g b e A n h=some f1:=B;unfold og at B;refine al I fun a I=>?_;refine ay ?_;rcases cd B with⟨b9,B⟩|⟨b9,B⟩
  ·refine al I fun a I=>?_;refine aM (J:=fun a w=>∃ (H:LK) (M:Value) (E:LV),St L No T 57 [(0,q),(1,am b),(5,pt o 0),(7,M),(8,.map (some j)),(24,q),(25,am (g.length:Int)),(26,am h)] [aD M E,om j m u,.box o (bf e) 30] [aQ aa q g,ao ac E H,wN m A,cc] a w/\qE h H=some f1) ?_ ?_
   ·refine al I fun a I=>?_;obtain⟨f,a5,B⟩:=bd B;refine wl rfl (bz (R:=aa) I rb ow rfl rfl 0 rfl a5 rfl fun ck d4 cs bb a I=>?_);obtain⟨a3,rfl,b1⟩:=bb;replace I:=I.fS b1;refine kA I ge fun N d3 a w O I=>?_;refine go I fun a w I=>?_;refine aM (J:=fun a w=>∃ (F:Bool),St L No T 57 [(0,q),(1,am b),(5,pt o 0),(7,r),(8,.map (some j)),(10,pt N 0),(24,q),(25,am (g.length:Int)),(26,am h),(48,.bool F)] [aD r p,om j m u,.box o (bf e) 30,.box N (bx f a3) 33] [aQ aa q g,ao ac p n,wN m A,aQ ac a3 f.v,cc] a w/\oe n h f F=some f1) ?_ ?_
    ·refine dr [] I fun w hQ I=>?_;refine gE [0,1,2] I fun a I=>?_;refine dq 3 I (v:=.bool (!(f.d.k==e.k&&f.d.t.toList==e.t.toList))) (AX I rfl rfl) fun a I=>?_;refine gE [4] I fun a I=>?_;rcases cd B with⟨Q,B⟩|⟨Q,B⟩
     ·refine gE [5,6,7] I fun a I=>?_;obtain⟨c3,ag,B⟩:=bd B;obtain⟨cv,bi,bl⟩:=mi I wM eW 2 rfl 4 rfl (c:=(bf f.d)) (key:=f.d) rfl OR (zc:=[.bool false]) rfl rfl ag;obtain rfl:=bi;refine dg 8 I Q (l:=[]) (v:=.bool c3) (bl rfl rfl bU) fun a I=>?_;refine gE [9,10] I fun a I=>?_;rcases cd B with⟨G,B⟩|⟨G,B⟩
      ·refine gE [11,12,13,14,16] I fun a I=>?_;obtain⟨d6,ak,B⟩:=bd B;refine dW (i:=15) rfl (by kernel_rfl) I rfl rfl rfl G (bL I Nc rfl rfl (wR _ _ I.dlt g b f.d _ I.g2 _ ak) fun _ w C a O U=>⟨gO (O),?_⟩);obtain⟨b3,b5,b4,he,⟨Y,V,a1⟩⟩:=C;obtain rfl:=he.symm;have I:=U [om b3 b5 b4] (kD Y (Hi V)) (Af _);replace I:=I.fM (a1.keep (aj _ _) (rh _));obtain⟨c4,av,B⟩:=bd B;obtain⟨d0,bs,bt⟩:=mi I wM eW 0 rfl 0 rfl (c:=(bf e)) (key:=e) rfl OR (zc:=[.bool false]) rfl rfl av;obtain rfl:=bs;refine dg 17 I G (l:=[]) (v:=.bool c4) (bt rfl rfl bU) fun a I=>?_;refine gE [18] I fun a I=>?_;refine eD ?_;exact fin
      refine gE [11,12,13,14,15,16,17,18] I fun a I=>?_;refine eD ?_;exact fin
     refine gE [5,6,7,8,9,10,11,12,13,14,15,16,17,18] I fun a I=>?_;refine eD ?_;exact fin
    rintro a w ⟨F,I,B⟩;unfold oe at B;rcases cd B with⟨c1,B⟩|⟨c1,B⟩
    ·refine al I fun a I=>?_;refine wl rfl (ba (ps:=[(0,.tmp 51)]) I kG iA (zl:=[am 0,aT cg]) (by kernel_rfl) rfl (us:=[(bf f.d)]) ⟨rfl,trivial⟩ (ws:=(bf f.d)) rfl rfl rfl rfl fun cl a w O I=>?_);replace I:=(I.lit (R:=ac) (us:=(bf f.d)) (xs:=[f.d]) 0 rfl (by decide) (aF (R:=ac) (x:=f.d) rfl) rfl rfl).zf (R:=ac) 0 rfl 0 rfl;obtain⟨c2,B⟩:=aU B;refine wl rfl (bJ (R:=ac) (xs:=n) (ys:=[f.d]) I kG (by decide) (by decide) rfl rfl 0 rfl 3 rfl 0 rfl c2 rfl fun d8 d1 a w O I=>?_);exact fz
    exact fz
   rintro a w ⟨H,M,E,I,B⟩;unfold qE at B;exact fz
  exact fz
 rintro a w ⟨z,K,D,I,B⟩;unfold sV at B;refine al I fun a I=>?_;have hL:=I;replace hL:=hL.zf (R:=ac) 0 rfl 0 rfl;obtain⟨d5,a9,B⟩:=bd B;refine kc I MQ (vy _ _ hL.dlt hL.g2 z _ hL.g0 _ a9) fun _ w C a O U=>?_;obtain⟨a4,P,he,⟨Z,W,a2⟩⟩:=C;obtain rfl:=he.symm;have I:=U [aD a4 P] (kD ⟨Z,by decide⟩ W) (Af _);replace I:=I.fR a2;refine al I fun a I=>?_;cases B
 refine aE I rfl (ap I rfl aC) ?_;exact⟨a4,P,rfl,I.zo ⟨.inr (aK (i:=0) rfl),trivial⟩ 0 rfl 0 rfl⟩
end
end
section
set_option maxRecDepth 100000
set_option maxHeartbeats 4000000
variable (T:Nat->Prop) (L:World) (hT:TW T L)
include hT
noncomputable section
def nT (b:LN):=some (decide ((b.length:Int)<=400))
theorem DO (b:LN) (d:Value) (c:aG (aL.int .i64) T L d b) (y:Bool) (B:nT b=some y):bc aO No 9 [d] L (fun v w'=>v = .bool y):=by
 refine en Tryz.func9 Tryz.ntmps9 hT fun a I=>?_;replace I:=I.fS (aG.dn c);unfold nT at B;exact fz
def yO:Option Int:=some (0)
def tH (c:LN) (b:Int):Option (Fl (Int) (Fl (Unit) Int)):=cond (decide (b<(c.length:Int))) ((bG c b).bind fun d=>cond (d != 0) (some (.out (.out d))) (some (.go (IntKind.i64.wrap (b+1))))) (some (.out (.go ())))
def AN (b:LN):=(loop (fun s:Int=>tH b s) 0).bind fun r=>Fl.el r (fun s=>yO) (fun y=>some (y))
theorem Jn (b:LN) (e:Value) (i:aG (aL.int .i64) T L e b) (y:Int) (B:AN b=some y):bc aO No 178 [e] L (fun v w'=>v=am y):=by
 refine en Tryz.func178 Tryz.ntmps178 hT fun a I=>?_;replace I:=I.fS (aG.dn i);unfold AN at B;refine al I fun a I=>?_;refine aM (J:=fun a w=>St L No T 18 [(3,am 0)] [] [] a w/\yO=some y) ?_ ?_
 ·refine al I fun a I=>?_;obtain⟨o,h,hMo1⟩:=bd B;refine bF _ (fun s a w=>∃ (c:Int),c=s/\St L No T 18 [(3,am 0),(6,e),(7,am (b.length:Int)),(8,am c)] [] [aQ (aL.int .i64) e b] a w) h ⟨_,rfl,I.mt [] [0]⟩ ?_;rintro s a w m ⟨c,rfl,I⟩ B hf1;have B:tH b c=some m:=B;unfold tH at B;refine al I fun a I=>?_;refine ay ?_;rcases cd B with⟨f,B⟩|⟨f,B⟩
  ·refine al I fun a I=>?_;refine ay ?_;refine al I fun a I=>?_;obtain⟨l,d,B⟩:=bd B;refine wl rfl (bz (R:=(aL.int .i64)) I IH Ea rfl rfl 0 rfl d rfl fun j n k g a I=>?_);obtain rfl:=g;exact fz
  exact fz
 rintro a w ⟨I,B⟩;unfold yO at B;exact fz
def mP (b:Int):=some (b != b)
theorem uS (b:Int) (y:Bool) (B:mP b=some y):bc aO No 221 [am b] L (fun v w'=>v = .bool y):=by
 refine en Tryz.func221 Tryz.ntmps221 hT fun a I=>?_;unfold mP at B;exact fz
def ql (c d:Int):=(mP c).bind fun e=>(mP d).bind fun b=>cond e (cond b (some (0)) (some ((-1)))) (cond b (some (1)) (cond (decide (c<d)) (some ((-1))) (cond (decide (d<c)) (some (1)) (some (0)))))
theorem B5 (b c y:Int) (B:ql b c=some y):bc aO No 179 [am b,am c] L (fun v w'=>v=am y):=by
 refine en Tryz.func179 Tryz.ntmps179 hT fun a I=>?_;unfold ql at B;refine al I fun a I=>?_;obtain⟨i,d,B⟩:=bd B;refine kF I M8 (uS _ _ I.dlt b _ d) fun w a I=>?_;obtain⟨j,e,B⟩:=bd B;refine kF I M8 (uS _ _ I.dlt c _ e) fun w a I=>?_;refine ay ?_;refine al I fun a I=>?_;rcases cd B with⟨f,B⟩|⟨f,B⟩
 ·refine al I fun a I=>?_;refine ay ?_;exact fz
 refine al I fun a I=>?_;refine ay ?_;refine al I fun a I=>?_;rcases cd B with⟨g,B⟩|⟨g,B⟩
 ·exact fz
 refine al I fun a I=>?_;refine ay ?_;refine al I fun a I=>?_;rcases cd B with⟨h,B⟩|⟨h,B⟩
 ·exact fz
 refine al I fun a I=>?_;refine ay ?_;exact fz
def wi (b c:ae):=(ql b.k c.k).bind fun d=>(rL b.t c.t).bind fun e=>(AN ([d,e])).bind fun f=>some (f)
theorem CL (hLv:fi T L) (d e:ae) (y:Int) (B:wi d e=some y):bc aO No 124 [.agg (bf d).toArray,.agg (bf e).toArray] L (fun v w'=>v=am y):=by
 refine en Tryz.func124 Tryz.ntmps124 hT fun a I=>?_;replace I:=I.fact cc (fi.dn hLv);unfold wi at B;refine kB I fun i m a w O I=>?_;refine kb I fun j n a w O I=>?_;refine al I fun a I=>?_;refine ay ?_;refine dr [] I fun w hQ I=>?_;refine gE [0,1,2,3,5,6,7,8] I fun a I=>?_;obtain⟨b,f,B⟩:=bd B;refine ec 4 I Py (B5 _ _ I.dlt d.k e.k _ f) fun _ w C a O U=>?_;obtain rfl:=C;have I:=fp U;obtain⟨c,g,B⟩:=bd B;refine ec 9 I EB (qn _ _ I.dlt I.g0 d.t e.t _ g) fun _ w C a O U=>?_;obtain rfl:=C;have I:=fp U;refine e1 10 (ba (ps:=[(0,.tmp 9),(1,.tmp 14)]) I LP Q3 (zl:=[am 0,am 0]) (by kernel_rfl) rfl (us:=[[am b],[am c]]) ⟨rfl,⟨rfl,trivial⟩⟩ (ws:=[am b,am c]) rfl rfl rfl rfl fun l a w O I=>⟨gO (O),?_⟩);replace I:=I.lit (R:=(aL.int .i64)) (us:=[am b,am c]) (xs:=[b,c]) 0 rfl (by decide) ((aF (R:=(aL.int .i64)) (x:=b) rfl).append (aF (R:=(aL.int .i64)) (x:=c) rfl)) rfl rfl;have hL:=I;replace hL:=hL.zf (R:=(aL.int .i64)) 0 rfl 0 rfl;obtain⟨o,h,B⟩:=bd B;refine ec 11 I Px (Jn _ _ hL.dlt ([b,c]) _ hL.g0 _ h) fun _ w C a O U=>?_;obtain rfl:=C;have I:=fp U;refine gE [12] I fun a I=>?_;refine eD ?_;exact fz
def sg (b:Bool):=some (b)
def nx (b:Int):=cond (decide ((30:Int)<=b)) (sg (decide (b<=32))) (sg false)
theorem CN (c:Int) (y:Bool) (B:nx c=some y):bc aO No 196 [am c] L (fun v w'=>v = .bool y):=by
 refine en Tryz.func196 Tryz.ntmps196 hT fun a I=>?_;unfold nx at B;refine al I fun a I=>?_;refine aM (J:=fun a w=>∃ (b:Bool),St L No T 9 [(2,.bool b)] [] [] a w/\sg b=some y) ?_ ?_
 ·exact fz
 rintro a w ⟨b,I,B⟩;unfold sg at B;exact fz
def kk (c:ae):=(nx c.k).bind fun d=>cond (!(d)) (some ((-1))) ((xL c.t).bind fun b=>cond b.2 (some ((-1))) (cond (decide (b.1<0)) (some ((-1))) (cond (decide ((99:Int)<b.1)) (some ((-1))) ((xW b.1).bind fun e=>cond (!(e.toList==c.t.toList)) (some ((-1))) (some (b.1))))))
theorem DJ (hLv:fi T L) (b:ae) (y:Int) (B:kk b=some y):bc aO No 160 [.agg (bf b).toArray] L (fun v w'=>v=am y):=by
 refine en Tryz.func160 Tryz.ntmps160 hT fun a I=>?_;replace I:=I.fact cc (fi.dn hLv);unfold kk at B;refine kB I fun n o a w O I=>?_;refine al I fun a I=>?_;refine ay ?_;refine al I fun a I=>?_;obtain⟨p,f,B⟩:=bd B;refine kF I M0 (CN _ _ I.dlt b.k _ f) fun w a I=>?_;rcases cd B with⟨j,B⟩|⟨j,B⟩
 ·exact fz
 refine al I fun a I=>?_;obtain⟨e,g,B⟩:=bd B;refine kc I PG (Ll _ _ I.dlt I.g0 b.t _ g) fun _ w C a O U=>?_;obtain⟨s,he,d⟩:=C;obtain rfl:=he.symm;have I:=U [] (fun r hr=>by cases hr) rn;refine al I fun a I=>?_;refine ay ?_;refine ay ?_;refine dr [] I fun w hQ I=>?_;refine gE [0] I fun a I=>?_;refine dq 1 I (v:=.bool e.2) (Mv I rfl d P8) fun a I=>?_;refine gE [2] I fun a I=>?_;rcases cd B with⟨l,B⟩|⟨l,B⟩
 ·refine gE [3,4,5,6,7,8,9,10,11,12,13,14,15,16] I fun a I=>?_;refine eD ?_;exact fz
 refine gE [3,4,5,6] I fun a I=>?_;rcases cd B with⟨m,B⟩|⟨m,B⟩
 ·refine gE [7,8,9,10,11,12,13,14,15,16] I fun a I=>?_;refine eD ?_;exact fz
 refine gE [7,8,9,10] I fun a I=>?_;rcases cd B with⟨c,B⟩|⟨c,B⟩
 ·refine gE [11,12,13,14,15,16] I fun a I=>?_;refine eD ?_;exact fz
 refine gE [11,13,14] I fun a I=>?_;obtain⟨q,h,B⟩:=bd B;refine dW (i:=12) rfl (by kernel_rfl) I rfl rfl rfl c (bL I GW rfl rfl (An _ _ I.dlt I.g0 e.1 _ h) fun _ w C a O U=>⟨gO (O),?_⟩);obtain rfl:=C;have I:=fp U;refine gE [15,16] I fun a I=>?_;refine eD ?_;exact fz
def eF (b:Bool):=some (b)
def gJ (b:Int):=cond (decide ((1:Int)<=b)) (eF (decide (b<=22))) (eF false)
theorem vp (c:Int) (y:Bool) (B:gJ c=some y):bc aO No 197 [am c] L (fun v w'=>v = .bool y):=by
 refine en Tryz.func197 Tryz.ntmps197 hT fun a I=>?_;unfold gJ at B;refine al I fun a I=>?_;refine aM (J:=fun a w=>∃ (b:Bool),St L No T 9 [(2,.bool b)] [] [] a w/\eF b=some y) ?_ ?_
 ·exact fz
 rintro a w ⟨b,I,B⟩;unfold eF at B;exact fz
def fN (b:Bool):=some (b)
def iY (b:ae) (c:Bool):=(gJ b.k).bind fun d=>cond d (cond (decide (((b.t.size:Int):Int)<=1073741824)) (cond (!(c)) (fN true) (fN (b.t.toList==cg.toList))) (fN false)) (fN false)
def dm (b:ae):=(nx b.k).bind fun c=>cond c ((kk b).bind fun d=>some (decide ((0:Int)<=d))) (cond (b.k==1) (iY b true) (iY b (b.k==21)))
theorem qt (hLv:fi T L) (b:ae) (y:Bool) (B:dm b=some y):bc aO No 157 [.agg (bf b).toArray] L (fun v w'=>v = .bool y):=by
 refine en Tryz.func157 Tryz.ntmps157 hT fun a I=>?_;replace I:=I.fact cc (fi.dn hLv);unfold dm at B;refine kB I fun e j a w O I=>?_;refine al I fun a I=>?_;refine ay ?_;refine al I fun a I=>?_;obtain⟨m,g,B⟩:=bd B;refine kF I M0 (CN _ _ I.dlt b.k _ g) fun w a I=>?_;rcases cd B with⟨i,B⟩|⟨i,B⟩
 ·refine al I fun a I=>?_;obtain⟨n,h,B⟩:=bd B;refine kE I Pq (DJ _ _ I.dlt I.g0 b _ h) fun w a I=>?_;exact fz
 refine al I fun a I=>?_;refine aM (J:=fun a w=>∃ (c:Bool),St L No T 36 [(1,pt e 0),(3,.bool c)] [.box e (bf b) 30] [cc] a w/\iY b c=some y) ?_ ?_
 ·exact fz
 rintro a w ⟨c,I,B⟩;unfold iY at B;refine aM (J:=fun a w=>∃ (d:Bool),St L No T 36 [(2,.bool d)] [] [cc] a w/\fN d=some y) ?_ ?_
 ·refine al I fun a I=>?_;obtain⟨l,f,B⟩:=bd B;refine kE I M1 (vp _ _ I.dlt b.k _ f) fun w a I=>?_;exact fz
 rintro a w ⟨d,I,B⟩;unfold fN at B;exact fz
def mm (b:Bool):=some (b)
def n6 (b:ae):=cond (b.k==1) (mm true) (cond (b.k==2) (mm true) (mm (b.k==30)))
theorem vo (c:ae) (y:Bool) (B:n6 c=some y):bc aO No 177 [.agg (bf c).toArray] L (fun v w'=>v = .bool y):=by
 refine en Tryz.func177 Tryz.ntmps177 hT fun a I=>?_;unfold n6 at B;refine kB I fun d e a w O I=>?_;refine al I fun a I=>?_;refine aM (J:=fun a w=>∃ (b:Bool),St L No T 16 [(2,.bool b)] [] [] a w/\mm b=some y) ?_ ?_
 ·exact fz
 rintro a w ⟨b,I,B⟩;unfold mm at B;exact fz
def lu:=some (false)
def eX (b:Bool):=cond b (some (true)) (lu)
def oJ (b:Int):=cond (b==7) (eX (b==7)) (cond (b==14) (eX (b==14)) (cond (b==17) (eX (b==17)) (eX (b==18))))
theorem yZ (c:Int) (y:Bool) (B:oJ c=some y):bc aO No 249 [am c] L (fun v w'=>v = .bool y):=by
 refine en Tryz.func249 Tryz.ntmps249 hT fun a I=>?_;unfold oJ at B;refine al I fun a I=>?_;refine aM (J:=fun a w=>St L No T 9 [] [] [] a w/\lu=some y) ?_ ?_
 ·refine al I fun a I=>?_;refine aM (J:=fun a w=>∃ (b:Bool),St L No T 9 [(4,.bool b)] [] [] a w/\eX b=some y) ?_ ?_
  ·exact fz
  rintro a w ⟨b,I,B⟩;unfold eX at B;exact fz
 rintro a w ⟨I,B⟩;unfold lu at B;exact fz
def kW (b:Bool):=some (b)
def sf (b:ae):=cond (b.k==32) (kW true) ((gJ b.k).bind fun c=>cond c ((oJ b.k).bind fun d=>kW d) (kW false))
theorem DI (c:ae) (y:Bool) (B:sf c=some y):bc aO No 218 [.agg (bf c).toArray] L (fun v w'=>v = .bool y):=by
 refine en Tryz.func218 Tryz.ntmps218 hT fun a I=>?_;unfold sf at B;refine kB I fun h i a w O I=>?_;refine al I fun a I=>?_;refine aM (J:=fun a w=>∃ (b:Bool),St L No T 16 [(2,.bool b)] [] [] a w/\kW b=some y) ?_ ?_
 ·refine al I fun a I=>?_;rcases cd B with⟨d,B⟩|⟨d,B⟩
  ·exact fz
  refine al I fun a I=>?_;obtain⟨j,f,B⟩:=bd B;refine wg I rfl rfl rfl d (bL I M1 rfl rfl (vp _ _ I.dlt c.k _ f) fun _ w C a O U=>?_);obtain rfl:=C;have I:=fp U;refine al I fun a I=>?_;rcases cd B with⟨e,B⟩|⟨e,B⟩
  ·refine al I fun a I=>?_;obtain⟨l,g,B⟩:=bd B;refine wg I rfl rfl rfl e (bL I PQ rfl rfl (yZ _ _ I.dlt c.k _ g) fun _ w C a O U=>?_);obtain rfl:=C;have I:=fp U;exact fz
  exact fz
 rintro a w ⟨b,I,B⟩;unfold kW at B;exact fz
def lD (c:ae):=(dm c).bind fun b=>some (!(b))
theorem y0 (hLv:fi T L) (b:ae) (y:Bool) (B:lD b=some y):bc aO No 219 [.agg (bf b).toArray] L (fun v w'=>v = .bool y):=by
 refine en Tryz.func219 Tryz.ntmps219 hT fun a I=>?_;replace I:=I.fact cc (fi.dn hLv);unfold lD at B;refine kB I fun d e a w O I=>?_;refine al I fun a I=>?_;obtain⟨f,c,B⟩:=bd B;refine kE I EC (qt _ _ I.dlt I.g0 b _ c) fun w a I=>?_;exact fz
def tb:=some ((-1))
def mU (c:LK) (f:ae->Option Bool) (b:Int):Option (Fl (Int) (Fl (Unit) Int)):=cond (decide (b<(c.length:Int))) ((bG c b).bind fun d=>(f d).bind fun e=>cond e (some (.out (.out b))) (some (.go (IntKind.i64.wrap (b+1))))) (some (.out (.go ())))
def sa (b:ae->Option Bool) (c:LK):=(loop (fun s:Int=>mU c b s) 0).bind fun r=>Fl.el r (fun s=>tb) (fun y=>some (y))
theorem DF (hLv:fi T L) (f_1g:Nat) (f:aP aO f_1g=true) (f_1k:bC) (f_1P:cD) (d:ae->Option Bool) (m:∀ (T:Nat->Prop) (L:World) (hT:TW T L) (hLv:fi T L) (hP:f_1P.p T L) (q:ae) (y:Bool) (B:d q=some y),bc aO No f_1g ([.agg (bf q).toArray]++f_1k) L (fun v w'=>v = .bool y)) (e:f_1P.p T L) (c:LK) (i:Value) (o:aG ac T L i c) (y:Int) (B:sa d c=some y):bc aO No 250 [i,.func (.func f_1g) #[] f_1k.toArray] L (fun v w'=>v=am y):=by
 refine en Tryz.func250 Tryz.ntmps250 hT fun a I=>?_;replace I:=((I.fact f_1P (cD.dn _ e)).fact cc (fi.dn hLv)).fS (aG.dn o);unfold sa at B;refine al I fun a I=>?_;refine aM (J:=fun a w=>St L No T 19 [] [] [cc,f_1P] a w/\tb=some y) ?_ ?_
 ·refine al I fun a I=>?_;obtain⟨A,n,hMo1⟩:=bd B;refine bF _ (fun s a w=>∃ (b:Int),b=s/\St L No T 19 [(0,i),(1,.func (.func f_1g) #[] f_1k.toArray),(7,am (c.length:Int)),(8,am b)] [] [aQ ac i c,cc,f_1P] a w) n ⟨_,rfl,I.mt [] [0,1,2]⟩ ?_;rintro s a w u ⟨b,rfl,I⟩ B hf1;have B:mU c d b=some u:=B;unfold mU at B;refine al I fun a I=>?_;refine ay ?_;rcases cd B with⟨k,B⟩|⟨k,B⟩
  ·refine al I fun a I=>?_;refine ay ?_;refine al I fun a I=>?_;obtain⟨j,g,B⟩:=bd B;refine wl rfl (bz (R:=ac) I qQ ix rfl rfl 0 rfl g rfl fun r x t l a I=>?_);obtain rfl:=l;refine al I fun a I=>?_;obtain⟨z,h,B⟩:=bd B;refine wl rfl (Ha (cap:=f_1k) I rfl f rfl rfl (m _ _ I.dlt I.g2 I.g3 j _ h) fun _ w C a O U=>?_);obtain rfl:=C;have I:=fp U;exact fz
  exact fz
 rintro a w ⟨I,B⟩;unfold tb at B;exact fz
def mQ (c:ae->Option Bool) (d:LK):=(sa c d).bind fun b=>some (decide ((0:Int)<=b))
theorem zX (hLv:fi T L) (f_1g:Nat) (e:aP aO f_1g=true) (f_1k:bC) (f_1P:cD) (b:ae->Option Bool) (g:∀ (T:Nat->Prop) (L:World) (hT:TW T L) (hLv:fi T L) (hP:f_1P.p T L) (j:ae) (y:Bool) (B:b j=some y),bc aO No f_1g ([.agg (bf j).toArray]++f_1k) L (fun v w'=>v = .bool y)) (d:f_1P.p T L) (c:LK) (i:Value) (h:aG ac T L i c) (y:Bool) (B:mQ b c=some y):bc aO No 220 [i,.func (.func f_1g) #[] f_1k.toArray] L (fun v w'=>v = .bool y):=by
 refine en Tryz.func220 Tryz.ntmps220 hT fun a I=>?_;replace I:=((I.fact f_1P (cD.dn _ d)).fact cc (fi.dn hLv)).fS (aG.dn h);unfold mQ at B;refine al I fun a I=>?_;obtain⟨k,f,B⟩:=bd B;refine kE I PR (DF _ _ I.dlt I.g1 f_1g e f_1k f_1P b g I.g2 c _ I.g0 _ f) fun w a I=>?_;exact fz
def fj (b:Bool):=some (b)
def dX (b:aA) (d:Bool):=cond d (some (false)) (cond (decide ((0:Int)<=b.c)) (cond (decide (b.c<=b.l)) (cond (decide (b.l<=1073741824)) (cond (decide ((1:Int)<=b.j)) (cond (decide (b.j<=1073741824)) ((mQ lD b.v).bind fun e=>fj (!(e))) (fj false)) (fj false)) (fj false)) (fj false)) (fj false))
def oK (b:aA):=(dm b.d).bind fun c=>cond (!(c)) (dX b true) ((n6 b.d).bind fun e=>cond e (dX b true) (cond (decide ((1073741824:Int)<(b.u.size:Int))) (dX b true) (cond (decide ((4000:Int)<(b.v.length:Int))) (dX b true) (cond b.d1 ((sf b.d).bind fun f=>dX b (!(f))) (dX b false)))))
theorem Bi (hLv:fi T L) (b:aA) (n:Value) (z:aG ac T L n b.v) (y:Bool) (B:oK b=some y):bc aO No 176 [.agg (bx b n).toArray] L (fun v w'=>v = .bool y):=by
 refine en Tryz.func176 Tryz.ntmps176 hT fun a I=>?_;replace I:=(I.fact cc (fi.dn hLv)).fS (aG.dn z);unfold oK at B;refine kB I fun f A a w O I=>?_;refine al I fun a I=>?_;refine ay ?_;refine aM (J:=fun a w=>∃ (e:Bool),St L No T 67 [(1,pt f 0),(34,.bool e)] [.box f (bx b n) 33] [aQ ac n b.v,cc] a w/\dX b e=some y) ?_ ?_
 ·refine al I fun a I=>?_;obtain⟨E,k,B⟩:=bd B;refine kF I EC (qt _ _ I.dlt I.g1 b.d _ k) fun w a I=>?_;rcases cd B with⟨g,B⟩|⟨g,B⟩
  ·exact fz
  refine al I fun a I=>?_;obtain⟨F,l,B⟩:=bd B;refine wg I rfl rfl rfl g (bL I Jg rfl rfl (vo _ _ I.dlt b.d _ l) fun _ w C a O U=>?_);obtain rfl:=C;have I:=fp U;refine al I fun a I=>?_;rcases cd B with⟨o,B⟩|⟨o,B⟩
  ·exact fz
  refine al I fun a I=>?_;rcases cd B with⟨p,B⟩|⟨p,B⟩
  ·exact fz
  refine al I fun a I=>?_;rcases cd B with⟨q,B⟩|⟨q,B⟩
  ·exact fz
  refine al I fun a I=>?_;rcases cd B with⟨h,B⟩|⟨h,B⟩
  ·refine al I fun a I=>?_;obtain⟨G,m,B⟩:=bd B;refine wg I rfl rfl rfl h (bL I PI rfl rfl (DI _ _ I.dlt b.d _ m) fun _ w C a O U=>?_);obtain rfl:=C;have I:=fp U;exact fz
  exact fz
 rintro a w ⟨e,I,B⟩;unfold dX at B;rcases cd B with⟨r,B⟩|⟨r,B⟩
 ·exact fz
 refine al I fun a I=>?_;refine aM (J:=fun a w=>∃ (c:Bool),St L No T 67 [(2,.bool c)] [] [cc] a w/\fj c=some y) ?_ ?_
 ·refine al I fun a I=>?_;rcases cd B with⟨s,B⟩|⟨s,B⟩
  ·refine al I fun a I=>?_;rcases cd B with⟨t,B⟩|⟨t,B⟩
   ·refine al I fun a I=>?_;rcases cd B with⟨u,B⟩|⟨u,B⟩
    ·refine al I fun a I=>?_;rcases cd B with⟨x,B⟩|⟨x,B⟩
     ·refine al I fun a I=>?_;rcases cd B with⟨i,B⟩|⟨i,B⟩
      ·refine al I fun a I=>?_;obtain⟨D,j,B⟩:=bd B;refine wg I rfl rfl rfl i (bL I PK rfl rfl (zX _ _ I.dlt I.g1 219 PJ [] MJ lD (fun T L hT hLv _ H y B=>y0 T L hT hLv H y B) trivial b.v _ I.g0 _ j) fun _ w C a O U=>?_);obtain rfl:=C;have I:=fp U;exact fz
      exact fz
     exact fz
    exact fz
   exact fz
  exact fz
 rintro a w ⟨c,I,B⟩;unfold fj at B;exact fz
def mI (b:LR):=some (decide ((b.length:Int)<=4000))
def eh (b:Int) (c:Bool):Option (Fl (Int) (Fl (Unit) Bool)):=cond c (some (.out (.out false))) (some (.go (IntKind.i64.wrap (b+1))))
def gy (e:LR) (b:Int):=cond (decide (b<(e.length:Int))) ((bG e b).bind fun c=>(oK c).bind fun g=>cond (!(g)) (eh b true) (cond (decide ((0:Int)<b)) ((bG e (IntKind.i64.wrap (b-1))).bind fun f=>(wi f.d c.d).bind fun h=>eh b (decide ((0:Int)<=h))) (eh b false))) (some (.out (.go ())))
def jM (b:LR):=(loop (fun s:Int=>gy b s) 0).bind fun r=>Fl.el r (fun s=>mI b) (fun y=>some (y))
theorem xl (hLv:fi T L) (b:LR) (e:Value) (F:aG aa T L e b) (y:Bool) (B:jM b=some y):bc aO No 122 [e] L (fun v w'=>v = .bool y):=by
 refine en Tryz.func122 Tryz.ntmps122 hT fun a I=>?_;replace I:=(I.fact cc (fi.dn hLv)).fS (aG.dn F);unfold jM at B;refine al I fun a I=>?_;refine aM (J:=fun a w=>St L No T 35 [(0,e)] [] [aQ aa e b,cc] a w/\mI b=some y) ?_ ?_
 ·refine al I fun a I=>?_;obtain⟨X,E,hMo1⟩:=bd B;refine bF _ (fun s a w=>∃ (c:Int),c=s/\St L No T 35 [(0,e),(5,e),(6,am (b.length:Int)),(7,am c)] [] [aQ aa e b,cc] a w) E ⟨_,rfl,I.mt [] [0,1]⟩ ?_;rintro s a w D ⟨c,rfl,I⟩ B hf1;have B:gy b c=some D:=B;unfold gy at B;refine al I fun a I=>?_;refine ay ?_;rcases cd B with⟨r,B⟩|⟨r,B⟩
  ·refine al I fun a I=>?_;refine ay ?_;refine al I fun a I=>?_;obtain⟨h,j,B⟩:=bd B;refine wl rfl (bz (R:=aa) I rb ow rfl rfl 0 rfl j rfl fun G P K t a I=>?_);obtain⟨V,rfl,n⟩:=t;replace I:=I.fS n;refine kA I ge fun H N a w O I=>?_;refine go I fun a w I=>?_;refine aM (J:=fun a w=>∃ (f:Bool),St L No T 35 [(0,e),(5,e),(6,am (b.length:Int)),(7,am c),(30,.bool f)] [] [aQ aa e b,cc] a w/\eh c f=some D) ?_ ?_
   ·refine dr [] I fun w hQ I=>?_;refine gE [0] I fun a I=>?_;obtain⟨Q,l,B⟩:=bd B;refine ec 1 I Pw (Bi _ _ I.dlt I.g3 h _ I.g0 _ l) fun _ w C a O U=>?_;obtain rfl:=C;have I:=fp U;refine gE [2,3] I fun a I=>?_;rcases cd B with⟨u,B⟩|⟨u,B⟩
    ·refine gE [4,5,6,7,8,9,10,11,12,13,14,15,16,17,18] I fun a I=>?_;refine eD ?_;exact fin
    refine gE [4,5,6] I fun a I=>?_;rcases cd B with⟨g,B⟩|⟨g,B⟩
    ·refine gE [7,8,9] I fun a I=>?_;obtain⟨q,k,B⟩:=bd B;obtain⟨p,A,M,x,z,I⟩:=mh (R:=aa) I rb ow 2 rfl k;obtain⟨W,rfl,o⟩:=x;replace I:=I.fS o;refine dg 10 I g (v:=pt p A) (z rfl rfl) fun a I=>?_;refine gE [11,12,13,14] I fun a I=>?_;obtain⟨S,m,B⟩:=bd B;refine dW (i:=15) rfl (by kernel_rfl) I rfl rfl rfl g (bL I MS rfl rfl (CL _ _ I.dlt I.g5 q.d h.d _ m) fun _ w C a O U=>⟨gO (O),?_⟩);obtain rfl:=C;have I:=fp U;refine gE [16,17,18] I fun a I=>?_;refine eD ?_;exact fin
    refine gE [7,8,9,10,11,12,13,14,15,16,17,18] I fun a I=>?_;refine eD ?_;exact fin
   rintro a w ⟨f,I,B⟩;unfold eh at B;exact fz
  exact fz
 rintro a w ⟨I,B⟩;unfold mI at B;exact fz
def lw (b:Bool):=some (b)
def l9 (b:ae):=(dm b).bind fun c=>cond c ((n6 b).bind fun d=>lw d) (lw false)
theorem y6 (hLv:fi T L) (c:ae) (y:Bool) (B:l9 c=some y):bc aO No 123 [.agg (bf c).toArray] L (fun v w'=>v = .bool y):=by
 refine en Tryz.func123 Tryz.ntmps123 hT fun a I=>?_;replace I:=I.fact cc (fi.dn hLv);unfold l9 at B;refine kB I fun g h a w O I=>?_;refine al I fun a I=>?_;refine aM (J:=fun a w=>∃ (b:Bool),St L No T 9 [(2,.bool b)] [] [cc] a w/\lw b=some y) ?_ ?_
 ·refine al I fun a I=>?_;obtain⟨i,e,B⟩:=bd B;refine kF I EC (qt _ _ I.dlt I.g0 c _ e) fun w a I=>?_;rcases cd B with⟨d,B⟩|⟨d,B⟩
  ·refine al I fun a I=>?_;obtain⟨j,f,B⟩:=bd B;refine wg I rfl rfl rfl d (bL I Jg rfl rfl (vo _ _ I.dlt c _ f) fun _ w C a O U=>?_);obtain rfl:=C;have I:=fp U;exact fz
  exact fz
 rintro a w ⟨b,I,B⟩;unfold lw at B;exact fz
def pz:=some ((-1))
def jE (c:LR) (f:aA->Option Bool) (b:Int):Option (Fl (Int) (Fl (Unit) Int)):=cond (decide (b<(c.length:Int))) ((bG c b).bind fun d=>(f d).bind fun e=>cond e (some (.out (.out b))) (some (.go (IntKind.i64.wrap (b+1))))) (some (.out (.go ())))
def mV (b:aA->Option Bool) (c:LR):=(loop (fun s:Int=>jE c b s) 0).bind fun r=>Fl.el r (fun s=>pz) (fun y=>some (y))
theorem Ac (hLv:fi T L) (f_1g:Nat) (f:aP aO f_1g=true) (f_1k:bC) (f_1P:cD) (d:aA->Option Bool) (o:∀ (T:Nat->Prop) (L:World) (hT:TW T L) (hLv:fi T L) (hP:f_1P.p T L) (q:aA) (k:Value) (A:aG ac T L k q.v) (y:Bool) (B:d q=some y),bc aO No f_1g ([.agg (bx q k).toArray]++f_1k) L (fun v w'=>v = .bool y)) (e:f_1P.p T L) (c:LR) (j:Value) (t:aG aa T L j c) (y:Int) (B:mV d c=some y):bc aO No 180 [j,.func (.func f_1g) #[] f_1k.toArray] L (fun v w'=>v=am y):=by
 refine en Tryz.func180 Tryz.ntmps180 hT fun a I=>?_;replace I:=((I.fact f_1P (cD.dn _ e)).fact cc (fi.dn hLv)).fS (aG.dn t);unfold mV at B;refine al I fun a I=>?_;refine aM (J:=fun a w=>St L No T 19 [] [] [cc,f_1P] a w/\pz=some y) ?_ ?_
 ·refine al I fun a I=>?_;obtain⟨G,r,hMo1⟩:=bd B;refine bF _ (fun s a w=>∃ (b:Int),b=s/\St L No T 19 [(0,j),(1,.func (.func f_1g) #[] f_1k.toArray),(7,am (c.length:Int)),(8,am b)] [] [aQ aa j c,cc,f_1P] a w) r ⟨_,rfl,I.mt [] [0,1,2]⟩ ?_;rintro s a w z ⟨b,rfl,I⟩ B hf1;have B:jE c d b=some z:=B;unfold jE at B;refine al I fun a I=>?_;refine ay ?_;rcases cd B with⟨m,B⟩|⟨m,B⟩
  ·refine al I fun a I=>?_;refine ay ?_;refine al I fun a I=>?_;obtain⟨l,g,B⟩:=bd B;refine wl rfl (bz (R:=aa) I rb ow rfl rfl 0 rfl g rfl fun u D x n a I=>?_);obtain⟨F,rfl,i⟩:=n;replace I:=I.fS i;refine al I fun a I=>?_;obtain⟨E,h,B⟩:=bd B;refine wl rfl (Ha (cap:=f_1k) I rfl f rfl rfl (o _ _ I.dlt I.g3 I.g4 l _ I.g0 _ h) fun _ w C a O U=>?_);obtain rfl:=C;have I:=fp U;exact fz
  exact fz
 rintro a w ⟨I,B⟩;unfold pz at B;exact fz
def cj (c:aA->Option Bool) (d:LR):=(mV c d).bind fun b=>some (decide ((0:Int)<=b))
theorem kd (hLv:fi T L) (f_1g:Nat) (e:aP aO f_1g=true) (f_1k:bC) (f_1P:cD) (b:aA->Option Bool) (h:∀ (T:Nat->Prop) (L:World) (hT:TW T L) (hLv:fi T L) (hP:f_1P.p T L) (i:aA) (g:Value) (l:aG ac T L g i.v) (y:Bool) (B:b i=some y),bc aO No f_1g ([.agg (bx i g).toArray]++f_1k) L (fun v w'=>v = .bool y)) (d:f_1P.p T L) (c:LR) (k:Value) (j:aG aa T L k c) (y:Bool) (B:cj b c=some y):bc aO No 125 [k,.func (.func f_1g) #[] f_1k.toArray] L (fun v w'=>v = .bool y):=by
 refine en Tryz.func125 Tryz.ntmps125 hT fun a I=>?_;replace I:=((I.fact f_1P (cD.dn _ d)).fact cc (fi.dn hLv)).fS (aG.dn j);unfold cj at B;refine al I fun a I=>?_;obtain⟨m,f,B⟩:=bd B;refine kE I Pz (Ac _ _ I.dlt I.g1 f_1g e f_1k f_1P b h I.g2 c _ I.g0 _ f) fun w a I=>?_;exact fz
def j2 (c:aA) (b:ar):=some (decide (b.r<c.l))
theorem xu (c:aA) (b:ar) (l f g:Value) (d:Nat) (h:aG ac T L l c.v) (j:aG ab T L f b.i) (k:aG aa T L g b.s) (e:(eH d 0 (bo b f g)).p T L) (y:Bool) (B:j2 c b=some y):bc aO No 126 [.agg (bx c l).toArray,pt d 0] L (fun v w'=>v = .bool y):=by
 refine en Tryz.func126 Tryz.ntmps126 hT fun a I=>?_;replace I:=(((I.fact (eH d 0 (bo b f g)) (cD.dn _ e)).fS (aG.dn h)).fS (aG.dn j)).fS (aG.dn k);unfold j2 at B;refine kB I fun m n a w O I=>?_;exact fz
def jd (b:ar):=(cj (fun d=>j2 d b) b.s).bind fun c=>some (!(c))
def cK (b:Int) (c:Bool):Option (Fl (Int) (Fl (Unit) Bool)):=cond c (some (.out (.out false))) (some (.go (IntKind.i64.wrap (b+1))))
def je (f:ar) (b:Int):=cond (decide (b<(f.i.length:Int))) ((bG f.i b).bind fun e=>(l9 e.d).bind fun h=>cond (!(h)) (cK b true) (cond (decide ((0:Int)<b)) ((bG f.i (IntKind.i64.wrap (b-1))).bind fun g=>(wi g.d e.d).bind fun j=>cond (decide ((0:Int)<=j)) (cK b true) (cond (decide ((1073741824:Int)<(e.u.size:Int))) (cK b true) (cond (decide (e.c<0)) (cK b true) (cK b (decide (f.r<e.c)))))) (cond (decide ((1073741824:Int)<(e.u.size:Int))) (cK b true) (cond (decide (e.c<0)) (cK b true) (cK b (decide (f.r<e.c))))))) (some (.out (.go ())))
def gc (b:ar):=cond (decide (b.r<0)) (some (false)) (cond (decide ((1073741824:Int)<b.r)) (some (false)) (cond (decide ((64:Int)<(b.i.length:Int))) (some (false)) ((jM b.s).bind fun c=>cond (!(c)) (some (false)) ((loop (fun s:Int=>je b s) 0).bind fun r=>Fl.el r (fun s=>jd b) (fun y=>some (y))))))
theorem tW (hLv:fi T L) (b:ar) (f g:Value) (Z:aG ab T L f b.i) (a0:aG aa T L g b.s) (y:Bool) (B:gc b=some y):bc aO No 43 [.agg (bo b f g).toArray] L (fun v w'=>v = .bool y):=by
 refine en Tryz.func43 Tryz.ntmps43 hT fun a I=>?_;replace I:=((I.fact cc (fi.dn hLv)).fS (aG.dn Z)).fS (aG.dn a0);unfold gc at B;refine kB I fun c a9 a w O I=>?_;refine al I fun a I=>?_;refine ay ?_;refine dN ?_;refine al I fun a I=>?_;rcases cd B with⟨x,B⟩|⟨x,B⟩
 ·exact fz
 refine al I fun a I=>?_;rcases cd B with⟨z,B⟩|⟨z,B⟩
 ·exact fz
 refine al I fun a I=>?_;rcases cd B with⟨l,B⟩|⟨l,B⟩
 ·exact fz
 refine al I fun a I=>?_;obtain⟨b1,r,B⟩:=bd B;refine wg I rfl rfl rfl l (bL I O7 rfl rfl (xl _ _ I.dlt I.g2 b.s _ I.g0 _ r) fun _ w C a O U=>?_);obtain rfl:=C;have I:=fp U;refine al I fun a I=>?_;rcases cd B with⟨A,B⟩|⟨A,B⟩
 ·exact fz
 refine al I fun a I=>?_;refine aM (J:=fun a w=>St L No T 78 [(1,pt c 0)] [.box c (bo b f g) 25] [aQ ab f b.i,aQ aa g b.s,cc] a w/\jd b=some y) ?_ ?_
 ·refine al I fun a I=>?_;obtain⟨r1,Y,hMo1⟩:=bd B;refine bF _ (fun s a w=>∃ (e:Int),e=s/\St L No T 78 [(1,pt c 0),(26,f),(27,am (b.i.length:Int)),(28,am e)] [.box c (bo b f g) 25] [aQ ab f b.i,aQ aa g b.s,cc] a w) Y ⟨_,rfl,I.mt [0] [1,0,2]⟩ ?_;rintro s a w X ⟨e,rfl,I⟩ B hf1;have B:je b e=some X:=B;unfold je at B;refine al I fun a I=>?_;refine ay ?_;rcases cd B with⟨D,B⟩|⟨D,B⟩
  ·refine al I fun a I=>?_;refine ay ?_;refine al I fun a I=>?_;obtain⟨k,m,B⟩:=bd B;refine wl rfl (bz (R:=ab) I Cu BJ rfl rfl 0 rfl m rfl fun a2 ag a4 E a I=>?_);obtain rfl:=E;refine kA I wE fun a3 af a w O I=>?_;refine go I fun a w I=>?_;refine aM (J:=fun a w=>∃ (h:Bool),St L No T 78 [(1,pt c 0),(26,f),(27,am (b.i.length:Int)),(28,am e),(71,.bool h)] [.box c (bo b f g) 25] [aQ ab f b.i,aQ aa g b.s,cc] a w/\cK e h=some X) ?_ ?_
   ·refine dr [] I fun w hQ I=>?_;refine gE [0,1] I fun a I=>?_;obtain⟨av,p,B⟩:=bd B;refine ec 2 I O8 (y6 _ _ I.dlt I.g3 k.d _ p) fun _ w C a O U=>?_;obtain rfl:=C;have I:=fp U;refine gE [3,4] I fun a I=>?_;rcases cd B with⟨F,B⟩|⟨F,B⟩
    ·refine gE [5,6,7,8,9,10,11,12,13,14,15,16,17,18,19,20,21,22,23,24,25,26,27,28,29,30,31,32,33,34,35,36,37,38] I fun a I=>?_;refine eD ?_;exact fin
    refine gE [5,6,7] I fun a I=>?_;rcases cd B with⟨j,B⟩|⟨j,B⟩
    ·refine gE [8,9,10,11] I fun a I=>?_;obtain⟨u,n,B⟩:=bd B;obtain⟨t,V,a5,G,H,I⟩:=mh (R:=ab) I Cu BJ 1 rfl n;obtain rfl:=G;refine dg 12 I j (v:=pt t V) (H rfl rfl) fun a I=>?_;refine gE [13,14,15,16] I fun a I=>?_;obtain⟨b0,q,B⟩:=bd B;refine dW (i:=17) rfl (by kernel_rfl) I rfl rfl rfl j (bL I MS rfl rfl (CL _ _ I.dlt I.g4 u.d k.d _ q) fun _ w C a O U=>⟨gO (O),?_⟩);obtain rfl:=C;have I:=fp U;refine gE [18,19,20,21] I fun a I=>?_;rcases cd B with⟨K,B⟩|⟨K,B⟩
     ·refine gE [22,23,24,25,26,27,28,29,30,31,32,33,34,35,36,37,38] I fun a I=>?_;refine eD ?_;exact fin
     refine gE [22,23,24,25,26,27] I fun a I=>?_;rcases cd B with⟨M,B⟩|⟨M,B⟩
     ·refine gE [28,29,30,31,32,33,34,35,36,37,38] I fun a I=>?_;refine eD ?_;exact fin
     refine gE [28,29,30,31,32] I fun a I=>?_;rcases cd B with⟨N,B⟩|⟨N,B⟩
     ·refine gE [33,34,35,36,37,38] I fun a I=>?_;refine eD ?_;exact fin
     refine gE [33,34,35,36,37,38] I fun a I=>?_;refine eD ?_;exact fin
    refine gE [8,9,10,11,12,13,14,15,16,17,18,19,20,21,22,23,24,25,26,27] I fun a I=>?_;rcases cd B with⟨P,B⟩|⟨P,B⟩
    ·refine gE [28,29,30,31,32,33,34,35,36,37,38] I fun a I=>?_;refine eD ?_;exact fin
    refine gE [28,29,30,31,32] I fun a I=>?_;rcases cd B with⟨Q,B⟩|⟨Q,B⟩
    ·refine gE [33,34,35,36,37,38] I fun a I=>?_;refine eD ?_;exact fin
    refine gE [33,34,35,36,37,38] I fun a I=>?_;refine eD ?_;exact fin
   rintro a w ⟨h,I,B⟩;unfold cK at B;exact fz
  exact fz
 rintro a w ⟨I,B⟩;unfold jd at B;refine al I fun a I=>?_;replace I:=I.zx 0 rfl;refine qy I (vS (vs:=[pt c 0]) I rfl) fun a I=>?_;obtain⟨ak,o,B⟩:=bd B;refine kE I O9 (kd _ _ I.dlt I.g3 126 Pa [pt c 0] (NG (eH c 0 (bo b f g)) (NG (aQ ab f b.i) (NG (aQ aa g b.s) MJ))) (fun W=>j2 W b) (fun T L hT hLv hP W a1 S y B=>xu T L hT W b a1 f g c S hP.2.1 hP.2.2.1 hP.1 y B) ⟨I.g0,I.g1,I.g2,trivial⟩ b.s _ I.g2 _ o) fun w a I=>?_;exact fz
end
end
section
open Go.Lib hiding intOf
variable {n:Nat}
theorem oD (n:Nat):itoa (n:Int)=decDigits n:=by
 unfold itoa
 first | rw [if_neg (by omega)]; simp | simp
noncomputable def gf (n:Nat):ae:=⟨30,db n⟩
theorem rN (h:n<1000000000):xW n=some (db n):=by
 unfold xW N2;rw [show (decide (-9223372036854775808<=(n:Int))&&decide ((n:Int)<=9223372036854775807))=true by simp; omega];rfl
theorem xm (h:n<100):nU n=some (gf n):=by
 unfold nU;rw [show decide ((n:Int)<0)=false by simp,show decide ((99:Int)<(n:Int))=false by simp; omega];simp [cond,rN (show n<1000000000 by omega),gf]
theorem F4 (h:n<1000):xL (db n)=some ((n:Int),false):=by
 unfold xL;have hl:(db n).toList=decDigits n:=by rw [sc,oD]
 have hs:(db n).size<=140737488355328:=by
  have h1:(db n).size=(itoa n).length:=by simp [db,ByteArray.size]
  have:=xQ n 3 (by omega);rw [h1,oD]; omega
 rw [show Nat.ble (db n).size 140737488355328=true from tw hs,hl,AF (by omega)];rfl
theorem JN (h:n<100):dm (gf n)=some true:=by
 have h1:nx 30=some true:=by unfold nx; rfl
 have h2:kk (gf n)=some n:=by
  unfold kk gf;rw [h1];simp only [ad,F4 (show n<1000 by omega),rN (show n<1000000000 by omega)];rw [show decide ((n:Int)<0)=false by simp,show decide ((99:Int)<(n:Int))=false by simp; omega];simp
 unfold dm;rw [show (gf n).k=30 from rfl,h1,h2];simp
theorem JZ (n:Int) {m:Nat} (hm:0<m) (hm2:m<=1000000000):∃ r:Nat,r<m/\oG n m=some (r:Int):=by
 have h1:=C7 n (b:=(m:Int)) (by omega);have h2 : -(m:Int)<Int.tmod n m:=by
  rcases (show n<0∨0<=n by omega) with h | h
  ·have:=C7 (-n) (b:=(m:Int)) (by omega);rw [Int.neg_tmod] at this;omega
  ·have:=C8 (m:Int) h;omega
 refine⟨(Int.tmod (Int.tmod n m+m) m).toNat,?_,?_⟩
 ·have h3:=C7 (Int.tmod n m+m) (b:=(m:Int)) (by omega);have h4:=C8 (a:=Int.tmod n m+m) (m:Int) (by omega);omega
 ·unfold oG;have h4:=C8 (a:=Int.tmod n m+m) (m:Int) (by omega);rw [show decide ((m:Int)<1)=false by simp; omega,show ((m:Int) != 0)=true by simp; omega,lx (by omega) (by omega),Int.toNat_of_nonneg h4];rfl
theorem H2 (h:n<1000000000):xL (db n)=some ((n:Int),false):=by
 unfold xL;have hl:(db n).toList=decDigits n:=by rw [sc,oD]
 have hs:(db n).size<=140737488355328:=by
  have h1:(db n).size=(itoa n).length:=by simp [db,ByteArray.size]
  have:=xQ n 9 (by omega);rw [h1,oD]; omega
 rw [show Nat.ble (db n).size 140737488355328=true from tw hs,hl,AF (by omega)];rfl
theorem It {k:Int} (O:k=30∨k=31∨k=32) (h:n<100):kk ⟨k,db n⟩=some n:=by
 have h1:nx k=some true:=by rcases O with rfl | rfl | rfl <;> (unfold nx; rfl)
 unfold kk;rw [h1];simp only [ad,H2 (show n<1000000000 by omega),rN (show n<1000000000 by omega)];rw [show decide ((n:Int)<0)=false by simp,show decide ((99:Int)<(n:Int))=false by simp; omega];simp
theorem KW {k:Int} (O:k=30∨k=31∨k=32) (h:n<100):dm ⟨k,db n⟩=some true:=by
 have h1:nx k=some true:=by rcases O with rfl | rfl | rfl <;> (unfold nx; rfl)
 unfold dm;rw [h1,It O h];simp
noncomputable def Ht (r:aS) (n:Nat):ae:=⟨if r.o then 32 else 31,db n⟩
theorem IA {l:List aS} (h:n<l.length) (h100:n<100):lF l n=some (Ht l[n] n):=by
 unfold lF;rw [show decide ((n:Int)<0)=false by simp,show decide (((l.length:Int):Int)<=(n:Int))=false by simp; omega,show decide ((99:Int)<(n:Int))=false by simp; omega,bE h,rN (by omega)];simp only [ad,cond_false];unfold qw Ht;cases l[n].o <;> simp
theorem IG (s:ByteArray):s.toList.length=s.size:=by rw [ByteArray.toList_eq]; rfl
theorem If (c:UInt8) (r:List UInt8) (n:Nat):cR (c::r) n=if (decide (48<=c.toNat)&&decide (c.toNat<=57))=true then cR r (10*n+(c.toNat-48)) else -1:=rfl
theorem J1:cg.toList=[]:=by rw [ByteArray.toList_eq]
theorem Jr (s:ByteArray):k8 s=some (r6 s.toList):=by
 have hsz:=IG s;have j3t:dD s true=some (-1):=by unfold dD; rfl
 have j3f:s.size<=9->dD s false=some (cR s.toList 0):=fun h9=>by
  unfold dD;simp only [cond_false];have key:∃ r,loop (fun s_1:Int×Int=>hJ s s_1.1 s_1.2) (0,0)=some r/\Fl.el r (fun s=>hH s) (fun y=>some y)=some (cR s.toList 0):=?_
  ·obtain⟨r,h1,h2⟩:=key;rw [h1]; exact h2
  refine rO (fun k st=>∃ m:Nat,st=((m:Int),(k:Int))/\cR (s.toList.drop k) m=cR s.toList 0/\m<10 ^ k)
   (fun r=>Fl.el r (fun s=>hH s) (fun y=>some y)=some (cR s.toList 0)) s.size (fun k st O hI=>?_) (fun st hI=>?_) ⟨0,rfl,rfl,by simp⟩
  ·obtain⟨m,rfl,e,hm⟩:=hI;have hk':k<s.toList.length:=by omega
   rw [C9 hk'] at e;unfold hJ;rw [show decide ((k:Int)<(s.size:Int))=true by simpa using O,bE hk'];simp only [cond_true,ad];have hp:(10:Nat) ^ k<=10 ^ 8:=uQ (by omega) (by omega);have hq:(10:Nat) ^ 8=100000000:=rfl;have hu:=(s.toList[k]).toNat_lt;rw [If] at e;by_cases h48:((s.toList[k]).toNat:Int)<48
   ·rw [show decide (((s.toList[k]).toNat:Int)<48)=true by simpa using h48];rw [if_neg (by simp; omega)] at e;exact .inr ⟨_,rfl,by rw [<- e]; rfl⟩
   ·rw [show decide (((s.toList[k]).toNat:Int)<48)=false by simpa using h48];by_cases h57:(57:Int)<((s.toList[k]).toNat:Int)
    ·rw [show decide ((57:Int)<((s.toList[k]).toNat:Int))=true by simpa using h57];rw [if_neg (by simp; omega)] at e;exact .inr ⟨_,rfl,by rw [<- e]; rfl⟩
    ·rw [show decide ((57:Int)<((s.toList[k]).toNat:Int))=false by simpa using h57];rw [if_pos (by simp; omega)] at e;simp only [cond_false];have hw:IntKind.u8.wrap (((s.toList[k]).toNat:Int)-48)=(((s.toList[k]).toNat-48:Nat):Int):=by rw [IntKind.wrap_u8]; omega
     rw [hw,show IntKind.i64.wrap (10*(m:Int))=((10*m:Nat):Int) from (lx (by omega) (by omega)).trans (by omega),show IntKind.i64.wrap (((s.toList[k]).toNat-48:Nat):Int)=(((s.toList[k]).toNat-48:Nat):Int) from lx (by omega) (by omega),
      lx (by omega) (by omega),lx (by omega) (by omega)]
     exact .inl ⟨_,rfl,10*m+((s.toList[k]).toNat-48),by simp,e,by rw [zu]; omega⟩
  ·obtain⟨m,rfl,e,hm⟩:=hI;rw [<- hsz,Da] at e;unfold hJ;rw [show decide ((s.size:Int)<(s.size:Int))=false by simp];exact⟨_,rfl,by simp only [Fl.el,hH]; rw [<- e]; rfl⟩
 unfold k8 r6;have hz:(s.toList==cg.toList)=decide (s.toList=[]):=by rw [J1]; cases s.toList <;> rfl
 rw [hz];by_cases h0:s.toList=[]
 ·rw [if_pos (.inl h0),decide_eq_true h0]; exact j3t
 ·rw [decide_eq_false h0];simp only [cond_false];by_cases h9:9<s.toList.length
  ·rw [if_pos (.inr (.inl h9)),show decide ((9:Int)<(s.size:Int))=true by simp; omega]; exact j3t
  ·rw [show decide ((9:Int)<(s.size:Int))=false by simp; omega];have hl:0<s.toList.length:=List.length_pos_iff.2 h0;have h1:bG s.toList (0:Int)=some (s.toList.getD 0 0):=by
    have:=bE hl;simp only [Int.natCast_zero] at this;rw [this,K7,cQ hl]; rfl
   rw [h1];simp only [cond_false,ad];by_cases h48:s.toList.getD 0 0=48
   ·rw [h48,show (((48:UInt8).toNat:Int)==48)=true from rfl];simp only [cond_true,true_and];have hq:(!(s.toList==(ByteArray.mk #[48]).toList))=decide (s.toList≠[48]):=by rw [show (ByteArray.mk #[48]).toList=[48] from by rw [ByteArray.toList_eq]]; by_cases h:s.toList=[48] <;> simp [h]
    rw [hq];by_cases h:s.toList=[48]
    ·rw [decide_eq_false (fun h2=>h2 h),j3f (by omega),if_neg (by rintro (h2 | h2 | h2); exact h0 h2; exact h9 h2; exact h2 h)]
    ·rw [decide_eq_true h,if_pos (.inr (.inr h))]; exact j3t
   ·have h48':((s.toList.getD 0 0).toNat:Int)≠48:=fun h=>h48 (UInt8.toNat_inj.1 (by have:(48:UInt8).toNat=48:=rfl; omega));rw [show (((s.toList.getD 0 0).toNat:Int)==48)=false by simpa using h48'];simp only [cond_false];rw [j3f (by omega),if_neg (by rintro (h2 | h2 | h2); exact h0 h2; exact h9 h2; exact h48 h2.1)]
theorem I0 {M:Nat} (B:M<1000000000) {s:ByteArray} (hs:s.size<=140737488355328) :
  ∃ p,xL s=some p/\(-9223372036854775808<=p.1->p.1<=9223372036854775807->True)/\Bd M s.toList=(if p.2=true then -1 else if p.1<0∨(M:Int)<p.1 then -1 else if itoa p.1=s.toList then p.1 else -1):=by
 refine⟨_,by unfold xL; rw [show Nat.ble s.size 140737488355328=true from tw hs]; rfl,fun _ _=>trivial,?_⟩;rw [Is M B];cases atoiAll s.toList <;> simp
theorem Ij {v:Int} (h0:0<=v) (h:v<1000000000):xW v=some (db v):=by
 obtain⟨n,rfl⟩:∃ n:Nat,v=n:=⟨v.toNat,by omega⟩;exact rN (by omega)
def Ae (k:ae):Int:=if 30<=k.k/\k.k<=32 then Bd 99 k.t.toList else -1
theorem xy (k:Int):nx k=some (decide (30<=k/\k<=32)):=by
 unfold nx sg;by_cases h1:30<=k <;> by_cases h2:k<=32 <;> simp [h1,h2]
theorem A6 {k:ae} (hs:k.t.size<=140737488355328):kk k=some (Ae k):=by
 unfold kk Ae;rw [xy];by_cases h:30<=k.k/\k.k<=32
 ·rw [if_pos h,decide_eq_true h];obtain⟨p,h1,_,h2⟩:=I0 (M:=99) (by omega) hs;rw [h1,h2];simp only [ad,eT,cond_false];obtain⟨v,b⟩:=p;cases b with
  | true=>rfl
  | false =>
   simp only [cond_false,HL,if_false];by_cases h3:v<0
   ·simp [h3]
   ·by_cases h4:(99:Int)<v
    ·simp [h3,h4]
    ·rw [Ij (by omega) (by omega),if_neg (by omega),decide_eq_false h3,decide_eq_false h4];simp only [cond_false,ad,sc];by_cases h5:itoa v=k.t.toList
     ·simp [h5]
     ·rw [if_neg h5,show (itoa v==k.t.toList)=false by simpa using h5]; rfl
 ·rw [if_neg h,decide_eq_false h]; rfl
theorem pN (k:ae):iZ k=some (Ae k):=by
 unfold iZ Ae Bd;rw [Jr];simp only [ad];unfold iO;have:=G3 k.t.toList;by_cases h1:30<=k.k <;> by_cases h2:k.k<=32 <;> by_cases h3:r6 k.t.toList<=99 <;> simp [h1,h2,h3]
end
section
open Go.Lib hiding intOf
variable {a b:ae}
theorem GP:∀ a:List UInt8,compareBytes a a=0
 | []=>rfl
 | x::r=>by
  have:¬ x<x:=UInt8.lt_irrefl x;simp [compareBytes,this,GP r]
theorem MO:∀ {a b:List UInt8},compareBytes a b=0->a=b
 | [],[],_=>rfl
 | [],_::_,h=>by simp [compareBytes] at h
 | _::_,[],h=>by simp [compareBytes] at h
 | x::a,y::b,h=>by
  unfold compareBytes at h;split at h
  ·cases h
  ·split at h
   ·cases h
   ·rename_i h1 h2;have e:x=y:=UInt8.le_antisymm (zy.1 h2) (zy.1 h1);rw [e,MO h]
theorem GO:∀ a b:List UInt8,compareBytes b a = -compareBytes a b
 | [],[]=>rfl
 | [],_::_=>rfl
 | _::_,[]=>rfl
 | x::a,y::b=>by
  unfold compareBytes;by_cases h1:x<y
  ·have h2:¬ y<x:=fun h=>UInt8.lt_irrefl _ (UInt8.lt_trans h1 h);simp [h1,h2]
  ·by_cases h2:y<x
   ·simp [h1,h2]
   ·simp [h1,h2,GO a b]
theorem I4 (a b:List UInt8):compareBytes a b = -1∨compareBytes a b=0∨compareBytes a b=1:=by
 induction a generalizing b with
 | nil=>cases b <;> simp [compareBytes]
 | cons x a ih =>
  cases b with
  | nil=>simp [compareBytes]
  | cons y b =>
   unfold compareBytes;split
   ·simp
   ·split
    ·simp
    ·exact ih b
theorem Ez:∀ {a b c:List UInt8},compareBytes a b<0->compareBytes b c<0->compareBytes a c<0
 | [],[],_,h,_=>by simp [compareBytes] at h
 | [],_::_,[],_,h=>by simp [compareBytes] at h
 | [],_::_,_::_,_,_=>by simp [compareBytes]
 | _::_,[],_,h,_=>by simp [compareBytes] at h
 | _::_,_::_,[],_,h=>by simp [compareBytes] at h
 | x::a,y::b,z::c,h1,h2=>by
  unfold compareBytes at h1 h2 ⊢;by_cases e1:x<y
  ·by_cases e2:y<z
   ·simp [UInt8.lt_trans e1 e2]
   ·by_cases e3:z<y
    ·simp [e2,e3] at h2
    ·have e:y=z:=UInt8.le_antisymm (zy.1 e3) (zy.1 e2);subst e; simp [e1]
  ·by_cases e2:y<x
   ·simp [e1,e2] at h1
   ·have e:x=y:=UInt8.le_antisymm (zy.1 e2) (zy.1 e1);subst e;simp only [e1,if_false] at h1;by_cases e3:x<z
    ·simp [e3]
    ·by_cases e4:z<x
     ·simp [e3,e4] at h2
     ·simp only [e3,e4,if_false] at h2 ⊢;exact Ez h1 h2
def dI (a b:ae):Int:=if a.k<b.k then -1 else if b.k<a.k then 1 else compareBytes a.t.toList b.t.toList
theorem toList_inj {a b:ByteArray} (h:a.toList=b.toList):a=b:=by
 rw [ByteArray.toList_eq,ByteArray.toList_eq] at h;exact ByteArray.ext (FN.1 h)
theorem yS (a:ae):dI a a=0:=by simp [dI,GP]
theorem L4 (h:dI a b=0):a=b:=by
 unfold dI at h;split at h
 ·cases h
 ·split at h
  ·cases h
  ·obtain⟨k,t⟩:=a;obtain⟨l,s⟩:=b;simp only [ae.mk.injEq] at *;exact⟨by omega,toList_inj (MO h)⟩
theorem CJ (a b:ae):dI b a = -dI a b:=by
 unfold dI;by_cases h1:a.k<b.k
 ·have h2:¬ b.k<a.k:=by omega
  simp [h1,h2]
 ·by_cases h2:b.k<a.k
  ·simp [h1,h2]
  ·simp [h1,h2,GO a.t.toList]
theorem sd (a b:ae):dI a b = -1∨dI a b=0∨dI a b=1:=by
 unfold dI;split
 ·simp
 ·split
  ·simp
  ·exact I4 _ _
theorem se {c:ae} (h1:dI a b<0) (h2:dI b c<0):dI a c<0:=by
 unfold dI at h1 h2 ⊢;by_cases e1:a.k<b.k
 ·by_cases e2:b.k<c.k
  ·rw [if_pos (by omega)]; omega
  ·by_cases e3:c.k<b.k
   ·simp [e2,e3] at h2
   ·rw [if_pos (by omega)]; omega
 ·by_cases e2:b.k<a.k
  ·simp [e1,e2] at h1
  ·simp only [e1,e2,if_false] at h1;by_cases e3:b.k<c.k
   ·rw [if_pos (by omega)]; omega
   ·by_cases e4:c.k<b.k
    ·simp [e3,e4] at h2
    ·simp only [e3,e4,if_false] at h2;rw [if_neg (by omega),if_neg (by omega)];exact Ez h1 h2
theorem qs:0<dI a b↔dI b a<0:=by rw [CJ a b]; omega
theorem JL:¬ dI a a<0:=by rw [yS]; omega
theorem wh (h:dI a b<0):a≠b:=fun e=>by subst e; exact JL h
theorem xZ (a b:ae):dI a b<0∨a=b∨dI b a<0:=by
 rcases sd a b with h | h | h
 ·exact .inl (by omega)
 ·exact .inr (.inl (L4 h))
 ·exact .inr (.inr (by rw [CJ a b]; omega))
theorem wL {c:ae} (h1:¬ dI b a<0) (h2:dI b c<0):dI a c<0:=by
 rcases xZ a b with h | h | h
 ·exact se h h2
 ·subst h; exact h2
 ·exact absurd h h1
def iL (a b:ae):Bool:=a.k==b.k&&a.t.toList==b.t.toList
theorem mX:iL a b=true↔a=b:=by
 unfold iL;obtain⟨k,t⟩:=a;obtain⟨l,s⟩:=b;simp only [ri,beq_iff_eq,ae.mk.injEq];exact⟨fun h=>⟨h.1,toList_inj h.2⟩,fun h=>⟨h.1,by rw [h.2]⟩⟩
theorem Ao:iL a b=false↔a≠b:=by rw [<- Bool.not_eq_true,mX]
theorem LG (x y:Int):ql x y=some (if x<y then -1 else if y<x then 1 else 0):=by
 unfold ql mP;by_cases h1:x<y
 ·simp [h1]
 ·by_cases h2:y<x <;> simp [h1,h2]
theorem Of (a b:Int):AN [a,b]=some (if a≠0 then a else b):=by
 unfold AN;by_cases h:a=0
 ·subst h;rw [x6 (s':=1)]
  ·by_cases hb:b=0
   ·subst hb;rw [x6 (s':=2)]
    ·rw [oF (r:=.go ())]
     ·rfl
     ·rfl
    ·rfl
   ·rw [oF (r:=.out b)]
    ·simp [Fl.el]
    ·unfold tH;have:(b != 0)=true:=by simpa using hb
     simp [bG,this]
  ·rfl
 ·rw [oF (r:=.out a)]
  ·simp [Fl.el,h]
  ·unfold tH;have:(a != 0)=true:=by simpa using h
   simp [bG,this]
theorem Jp (a b:ae):wi a b=some (dI a b):=by
 unfold wi dI rL;rw [LG];simp only [ad];rw [Of];by_cases h1:a.k<b.k
 ·simp [h1]
 ·by_cases h2:b.k<a.k <;> simp [h1,h2]
section
variable {κ ν:Type} {q:κ->κ->Bool} (hq:∀ a b,q a b=true↔a=b)
def Nd (xs:List (κ×ν)):Prop:=(xs.map (·.1)).Nodup
include hq
theorem ss (a:κ):q a a=true:=(hq a a).2 rfl
theorem yY {a b:κ} (h:a≠b):q a b=false:=by rw [<- Bool.not_eq_true,hq]; exact h
theorem Bc {k:κ} {v:ν}:∀ {xs:List (κ×ν)},Nd xs->(dv q k xs=some v↔(k,v)∈xs)
 | [],_=>by simp [dv]
 | x::r,h=>by
  have h':=Dh.1 (show (x.1::r.map (·.1)).Nodup from h);have ih:=Bc (k:=k) (v:=v) (xs:=r) h'.2;by_cases e:k=x.1
  ·subst e;rw [dv,ss hq,cond_true];constructor
   ·intro h; injection h with h; rw [<- h]; exact vX
   ·intro hm;rcases dC.1 hm with hm | hm
    ·rw [<- hm]
    ·exact absurd (HV (f:=(·.1)) hm) h'.1
  ·rw [dv,yY hq e,cond_false,ih,dC];constructor
   ·exact .inr
   ·rintro (h | h)
    ·exact absurd (congrArg (·.1) h) e
    ·exact h
theorem CP {k:κ}:∀ {xs:List (κ×ν)},dv q k xs=none↔∀ v,(k,v) ∉ xs
 | []=>by simp [dv]
 | x::r=>by
  by_cases e:k=x.1
  ·rw [dv,e,ss hq,cond_true];constructor
   ·intro h; cases h
   ·intro h; exact absurd vX (h x.2)
  ·rw [dv,yY hq e,cond_false,CP];constructor
   ·intro h v hv;rcases dC.1 hv with hv | hv
    ·exact e (congrArg (·.1) hv)
    ·exact h v hv
   ·intro h v hv; exact h v (wY _ hv)
theorem x9 (k k':κ) (v:ν):∀ (xs:List (κ×ν)),dv q k (fV q k' v xs)=if q k k' then some v else dv q k xs
 | []=>by simp [fV,dv,Bool.cond_eq_ite]
 | x::r=>by
  by_cases e:k'=x.1
  ·rw [fV,e,ss hq,cond_true,dv,dv];cases q k x.1 <;> simp
  ·rw [fV,yY hq e,cond_false,dv,dv,x9 k k' v r];by_cases e2:k=x.1
   ·have:q k k'=false:=yY hq (fun h=>e (h.symm.trans e2));rw [e2,ss hq,cond_true,cond_true,<- e2,this]; rfl
   ·rw [yY hq e2]; rfl
theorem CQ (k:κ) (v:ν):∀ {xs:List (κ×ν)},Nd xs->(fV q k v xs).Perm ((k,v)::xs.filter fun y=>!q k y.1)
 | [],_=>by simp [fV]
 | x::r,h=>by
  have h':=Dh.1 (show (x.1::r.map (·.1)).Nodup from h);by_cases e:k=x.1
  ·rw [fV,e,ss hq,cond_true,wW (by simp [ss hq])];rw [Dc.2];intro y hy;rw [yY hq]; rfl;intro e2;exact h'.1 (e2▸HV hy)
  ·rw [fV,yY hq e,cond_false,Db (by simp [yY hq e])];exact ((CQ k v h'.2).cons x).trans (List.Perm.swap _ _ _)
theorem vu (k:κ):∀ {xs:List (κ×ν)},Nd xs->td q k xs=xs.filter fun y=>!q k y.1
 | [],_=>rfl
 | x::r,h=>by
  have h':=Dh.1 (show (x.1::r.map (·.1)).Nodup from h);by_cases e:k=x.1
  ·rw [td,e,ss hq,cond_true,wW (by simp [ss hq])];rw [Dc.2];intro y hy;rw [yY hq]; rfl;intro e2;exact h'.1 (e2▸HV hy)
  ·rw [td,yY hq e,cond_false,Db (by simp [yY hq e]),vu k h'.2]
omit hq in
theorem Nd.perm {xs ys:List (κ×ν)} (h:Nd xs) (p:xs.Perm ys):Nd ys:=(p.map _).nodup_iff.1 h
omit hq in
theorem Nd.filter {xs:List (κ×ν)} (h:Nd xs) (p:κ×ν->Bool):Nd (xs.filter p):=h.sublist (List.Sublist.map _ List.filter_sublist)
theorem Nd.put {xs:List (κ×ν)} (h:Nd xs) (k:κ) (v:ν):Nd (fV q k v xs):=by
 refine Nd.perm ?_ (CQ hq k v h).symm;show (k::(xs.filter fun y=>!q k y.1).map (·.1)).Nodup;refine Dh.2 ⟨fun hm=>?_,h.filter _⟩;obtain⟨y,hy,e⟩:=jw.1 hm;have:=(nu.1 hy).2;rw [e,ss hq] at this;cases this
theorem Nd.del {xs:List (κ×ν)} (h:Nd xs) (k:κ):Nd (td q k xs):=by rw [vu hq k h]; exact h.filter _
theorem JY (k k':κ) {xs:List (κ×ν)} (h:Nd xs):dv q k (td q k' xs)=if q k k' then none else dv q k xs:=by
 rw [vu hq k' h];by_cases e:k=k'
 ·subst e;rw [ss hq,if_pos rfl,CP hq];intro v hv;have:=(nu.1 hv).2;simp [ss hq] at this
 ·rw [yY hq e,if_neg (by simp)];refine Option.ext fun v=>?_;rw [Bc hq (h.filter _),Bc hq h,nu];simp [yY hq (fun h=>e h.symm)]
end
end
section
open Go.Lib hiding intOf
open Go.Sort (grow grow_grow alloc_eq_grow SWO HoldsK Holds flatK putRowK heap_grow_old)
instance:Inhabited ae:=⟨⟨0,⟨#[]⟩⟩⟩
section
variable {α:Type} [Inhabited α] {enc:α->bC} {n:Nat}
end
end
section
set_option maxRecDepth 100000
set_option maxHeartbeats 4000000
variable (T:Nat->Prop) (L:World) (hT:TW T L)
include hT
noncomputable section
def mJ:=some (true)
def cE (f:LO) (c:Int) (b:bR) (e:Bool):Option (Fl (LO×Int) (Fl (Unit) Bool)):=cond e (some (.out (.out false))) (some (.go ((fV aR b.d true f),IntKind.i64.wrap (c+1))))
def gA (f:ar) (e:LO) (c:Int) (b:bR) (h:(aA×Bool)) (g:Bool):=cond b.w (cond (b.i1 != 0) (cE e c b true) (cE e c b false)) (cond (!(h.2)) (cond (b.i1 != 0) (cE e c b true) (cond (decide ((0:Int)<(b.v.length:Int))) (cE e c b true) (cond g ((nc f.s f.r b.d).bind fun i=>(jc f.s i).bind fun j=>cE e c b (decide ((j.length:Int)<b.i1))) (cE e c b false)))) (cond (decide ((0:Int)<(b.v.length:Int))) (cE e c b true) (cond g ((nc f.s f.r b.d).bind fun k=>(jc f.s k).bind fun l=>cE e c b (decide ((l.length:Int)<b.i1))) (cE e c b false))))
def mK (i:LU) (h:ar) (j:LF) (g:LO) (f:Int):=cond (decide (f<(j.length:Int))) ((bG j f).bind fun b=>(some ((dv aR b.d g).getD false)).bind fun k=>cond k (some (.out (.out false))) ((cH b.d).bind fun m=>cond m (some (.out (.out false))) ((od i b.d).bind fun n=>cond (!(n)) (some (.out (.out false))) (cond ((b.v.length:Int) != (b.e.length:Int)) (some (.out (.out false))) (cond (decide (b.i1<0)) (some (.out (.out false))) ((da h.s b.d).bind fun c=>cond c.2 (cond (!(c.1.d1)) (gA h g f b c (decide (c.1.l<h.r))) (gA h g f b c false)) (gA h g f b c false))))))) (some (.out (.go ())))
def jT (b:LU) (c:ar) (d:LF):=(loop (fun s:LO×Int=>mK b c d s.1 s.2) (([]:LO),0)).bind fun r=>Fl.el r (fun s=>mJ) (fun y=>some (y))
theorem xq (hLv:fi T L) (g:LU) (b:ar) (k:LF) (o p:Value) (q t:Value) (cs:aG aB T L o g) (d0:aG ab T L p b.i) (d1:aG aa T L q b.s) (d2:aG az T L t k) (y:Bool) (B:jT g b k=some y):bc aO No 184 [o,.agg (bo b p q).toArray,t] L (fun v w'=>v = .bool y):=by
 refine en Tryz.func184 Tryz.ntmps184 hT fun a I=>?_;replace I:=((((I.fact cc (fi.dn hLv)).fS (aG.dn cs)).fS (aG.dn d0)).fS (aG.dn d1)).fS (aG.dn d2);unfold jT at B;refine kB I fun l dl a w O I=>?_;refine al I fun a I=>?_;refine wl rfl (sS ac true aL.bool false I rfl fun m ds a w O I=>?_);refine al I fun a I=>?_;refine aM (J:=fun a w=>St L No T 121 [] [] [cc] a w/\mJ=some y) ?_ ?_
 ·refine al I fun a I=>?_;obtain⟨r1,cl,hMo1⟩:=bd B;refine bF _ (fun s a w=>∃ (j:LO) (h:Int) (u:AM) (F:Nat),(j,h)=s/\St L No T 121 [(0,o),(4,pt l 0),(7,.map (some m)),(14,t),(15,am (k.length:Int)),(16,am h)] [om m u F,.box l (bo b p q) 25] [aQ aB o g,wN u j,aQ az t k,aQ ab p b.i,aQ aa q b.s,cc] a w) cl ⟨_,_,_,_,rfl,I.mt [0,1] [4,0,1,3,2,5]⟩ ?_;rintro s a w f1 ⟨j,h,u,F,rfl,I⟩ B hf1;have B:mK g b k j h=some f1:=B;unfold mK at B;refine al I fun a I=>?_;refine ay ?_;rcases cd B with⟨b5,B⟩|⟨b5,B⟩
  ·refine al I fun a I=>?_;refine ay ?_;refine al I fun a I=>?_;obtain⟨f,a2,B⟩:=bd B;refine wl rfl (bz (R:=az) I vL vN rfl rfl 2 rfl a2 rfl fun d3 e3 d5 b6 a I=>?_);obtain⟨a0,a1,rfl,b0,b1⟩:=b6;replace I:=(I.fS b0).fS b1;refine kA I ub fun E e0 a w O I=>?_;refine go I fun a w I=>?_;refine ay ?_;refine dN ?_;refine al I fun a I=>?_;obtain⟨ca,ag,B⟩:=bd B;obtain⟨d6,b8,b9⟩:=mi I wM eW 1 rfl 4 rfl (c:=(bf f.d)) (key:=f.d) rfl OR (zc:=[.bool false]) rfl rfl ag;obtain rfl:=b8;refine wl rfl (ky (v:=.bool ca) I (b9 rfl rfl id) rfl rfl fun a I=>?_);refine al I fun a I=>?_;rcases cd B with⟨H,B⟩|⟨H,B⟩
   ·exact fz
   refine al I fun a I=>?_;obtain⟨ea,ak,B⟩:=bd B;refine wg I rfl rfl rfl H (bL I yN rfl rfl (dE _ _ I.dlt f.d _ ak) fun _ w C a O U=>?_);obtain rfl:=C;have I:=fp U;refine al I fun a I=>?_;rcases cd B with⟨K,B⟩|⟨K,B⟩
   ·exact fz
   refine al I fun a I=>?_;obtain⟨eb,av,B⟩:=bd B;refine wg I rfl rfl rfl K (bL I MW rfl rfl (wQ _ _ I.dlt I.g8 g f.d _ I.g3 _ av) fun _ w C a O U=>?_);obtain rfl:=C;have I:=fp U;refine al I fun a I=>?_;rcases cd B with⟨bb,B⟩|⟨bb,B⟩
   ·exact fz
   refine al I fun a I=>?_;rcases cd B with⟨bi,B⟩|⟨bi,B⟩
   ·exact fz
   refine al I fun a I=>?_;rcases cd B with⟨bl,B⟩|⟨bl,B⟩
   ·exact fz
   refine al I fun a I=>?_;refine wl rfl (A5 I wM eW 1 rfl 4 rfl (c:=(bf f.d)) (cv:=[.bool true]) (key:=f.d) (val:=true) rfl rfl rfl rfl rfl fun n G w O I=>?_);refine al I fun a I=>?_;obtain⟨Z,a3,B⟩:=bd B;refine kc I sN (cn _ _ I.dlt b.s f.d _ I.g8 _ a3) fun _ w C a O U=>?_;obtain⟨ed,d7,he,S⟩:=C;obtain rfl:=he.symm;have I:=uc U S;refine kA I ge fun d4 e2 a w O I=>?_;refine go I fun a w I=>?_;refine aM (J:=fun a w=>∃ (D:Bool),St L No T 121 [(0,o),(4,pt l 0),(7,.map (some m)),(9,pt E 0),(11,.bool Z.2),(12,.bool D),(14,t),(15,am (k.length:Int)),(16,am h)] [om m n G,.box l (bo b p q) 25,.box E (mG f a0 a1) 202] [aQ aB o g,wN n (fV aR f.d true j),aQ az t k,aQ ab p b.i,aQ aa q b.s,aQ ac a0 f.v,aQ aL.str a1 f.e,cc] a w/\gA b j h f Z D=some f1) ?_ ?_
   ·exact fz
   rintro a w ⟨D,I,B⟩;unfold gA at B;refine aM (J:=fun a w=>∃ (x:Bool),St L No T 121 [(0,o),(4,pt l 0),(7,.map (some m)),(14,t),(15,am (k.length:Int)),(16,am h),(119,.bool x)] [om m n G,.box l (bo b p q) 25] [aQ aB o g,wN n (fV aR f.d true j),aQ az t k,aQ ab p b.i,aQ aa q b.s,cc] a w/\cE j h f x=some f1) ?_ ?_
   ·refine dr [] I fun w hQ I=>?_;refine gE [0,1,2] I fun a I=>?_;rcases cd B with⟨bs,B⟩|⟨bs,B⟩
    ·refine gE [3,4,5,6,7,8,9,10,11] I fun a I=>?_;rcases cd B with⟨bt,B⟩|⟨bt,B⟩
     ·refine gE [12,13,14,15,16,17,18,19,20,21,22,23,24,25,26,27,28,29,30,31,32,33,34,35,36,37,38,39,40,41,42,43,44,45] I fun a I=>?_;refine eD ?_;exact fin
     refine gE [12,13,14,15,16,17,18,19,20,21,22,23,24,25,26,27,28,29,30,31,32,33,34,35,36,37,38,39,40,41,42,43,44,45] I fun a I=>?_;refine eD ?_;exact fin
    refine gE [3,4,5,6] I fun a I=>?_;rcases cd B with⟨c1,B⟩|⟨c1,B⟩
    ·refine gE [7,8,9,10,11] I fun a I=>?_;rcases cd B with⟨c2,B⟩|⟨c2,B⟩
     ·refine gE [12,13,14,15,16,17,18,19,20,21,22,23,24,25,26,27,28,29,30,31,32,33,34,35,36,37,38,39,40,41,42,43,44,45] I fun a I=>?_;refine eD ?_;exact fin
     refine gE [12,13,14,15,16,17,18,19,20,21,22] I fun a I=>?_;rcases cd B with⟨c3,B⟩|⟨c3,B⟩
     ·refine gE [23,24,25,26,27,28,29,30,31,32,33,34,35,36,37,38,39,40,41,42,43,44,45] I fun a I=>?_;refine eD ?_;exact fin
     refine gE [23,24,25,26,27,28,29] I fun a I=>?_;rcases cd B with⟨z,B⟩|⟨z,B⟩
     ·refine gE [30,31,32,33,34,35,36,37,38,39] I fun a I=>?_;obtain⟨c5,a4,B⟩:=bd B;refine dW (i:=40) rfl (by kernel_rfl) I rfl rfl rfl z (bL I GY rfl rfl (uz _ _ I.dlt I.g7 b.s b.r f.d _ I.g4 _ a4) fun _ w C a O U=>⟨gO (O),?_⟩);obtain⟨el,d8,he,V⟩:=C;obtain rfl:=he.symm;have I:=uc U V;have hL:=I;replace hL:=hL.zf (R:=ac) 0 rfl 0 rfl;obtain⟨e4,a5,B⟩:=bd B;refine dW (i:=41) rfl (by kernel_rfl) I rfl rfl rfl z (bL I GZ rfl rfl (oT _ _ hL.dlt b.s c5 _ _ hL.g6 hL.g0 _ a5) fun _ w C a O U=>⟨gO (O),?_⟩);obtain⟨ch,b2,he,⟨P,M,W⟩⟩:=C;obtain rfl:=he.symm;have I:=U [nB ch b2] (kD ⟨P,by decide⟩ M) (Af _);replace I:=I.fR W;refine gE [42,43,44,45] I fun a I=>?_;refine eD ?_;exact fin
     refine gE [30,31,32,33,34,35,36,37,38,39,40,41,42,43,44,45] I fun a I=>?_;refine eD ?_;exact fin
    refine gE [7,8,9,10,11,12,13,14,15,16,17,18,19,20,21,22] I fun a I=>?_;rcases cd B with⟨c4,B⟩|⟨c4,B⟩
    ·refine gE [23,24,25,26,27,28,29,30,31,32,33,34,35,36,37,38,39,40,41,42,43,44,45] I fun a I=>?_;refine eD ?_;exact fin
    refine gE [23,24,25,26,27,28,29] I fun a I=>?_;rcases cd B with⟨A,B⟩|⟨A,B⟩
    ·refine gE [30,31,32,33,34,35,36,37,38,39] I fun a I=>?_;obtain⟨c9,a9,B⟩:=bd B;refine dW (i:=40) rfl (by kernel_rfl) I rfl rfl rfl A (bL I GY rfl rfl (uz _ _ I.dlt I.g7 b.s b.r f.d _ I.g4 _ a9) fun _ w C a O U=>⟨gO (O),?_⟩);obtain⟨eq,d9,he,X⟩:=C;obtain rfl:=he.symm;have I:=uc U X;have hL:=I;replace hL:=hL.zf (R:=ac) 0 rfl 0 rfl;obtain⟨e5,af,B⟩:=bd B;refine dW (i:=41) rfl (by kernel_rfl) I rfl rfl rfl A (bL I GZ rfl rfl (oT _ _ hL.dlt b.s c9 _ _ hL.g6 hL.g0 _ af) fun _ w C a O U=>⟨gO (O),?_⟩);obtain⟨ck,b3,he,⟨Q,N,Y⟩⟩:=C;obtain rfl:=he.symm;have I:=U [nB ck b3] (kD ⟨Q,by decide⟩ N) (Af _);replace I:=I.fR Y;refine gE [42,43,44,45] I fun a I=>?_;refine eD ?_;exact fin
    refine gE [30,31,32,33,34,35,36,37,38,39,40,41,42,43,44,45] I fun a I=>?_;refine eD ?_;exact fin
   rintro a w ⟨x,I,B⟩;unfold cE at B;exact fz
  exact fz
 rintro a w ⟨I,B⟩;unfold mJ at B;exact fz
def oX (b:Bool):=some (b)
def qG (c:eP):=(lX c.x c.b c.b1).bind fun d=>cond (d==0) ((jT c.x c.b c.s1).bind fun e=>oX e) (oX false)
theorem Ci (hLv:fi T L) (c:eP) (o p:Value) (q r:Value) (t u:Value) (h:aG aB T L o c.x) (j:aG ab T L p c.b.i) (k:aG aa T L q c.b.s) (l:aG ac T L r c.b1) (m:aG az T L t c.s1) (n:aG ac T L u c.r1) (y:Bool) (B:qG c=some y):bc aO No 141 [.agg (wI c o p q r t u).toArray] L (fun v w'=>v = .bool y):=by
 refine en Tryz.func141 Tryz.ntmps141 hT fun a I=>?_;replace I:=((((((I.fact cc (fi.dn hLv)).fS (aG.dn h)).fS (aG.dn j)).fS (aG.dn k)).fS (aG.dn l)).fS (aG.dn m)).fS (aG.dn n);unfold qG at B;refine kB I fun z A a w O I=>?_;refine al I fun a I=>?_;refine aM (J:=fun a w=>∃ (d:Bool),St L No T 20 [(2,.bool d)] [] [cc] a w/\oX d=some y) ?_ ?_
 ·refine al I fun a I=>?_;obtain⟨D,f,B⟩:=bd B;refine kF I Jb (tq _ _ I.dlt I.g6 c.x c.b c.b1 _ _ _ _ I.g5 I.g4 I.g3 I.g2 _ f) fun w a I=>?_;rcases cd B with⟨e,B⟩|⟨e,B⟩
  ·refine al I fun a I=>?_;obtain⟨E,g,B⟩:=bd B;refine wg I rfl rfl rfl e (bL I PC rfl rfl (xq _ _ I.dlt I.g6 c.x c.b c.s1 _ _ _ _ I.g5 I.g4 I.g3 I.g1 _ g) fun _ w C a O U=>?_);obtain rfl:=C;have I:=fp U;exact fz
  exact fz
 rintro a w ⟨d,I,B⟩;unfold oX at B;exact fz
def wq (b:LU) (c:ar):=some ((aw.mk b c ([]:LB) ([]:LL)))
theorem vA (m:LU) (l:ar) (A D E:Value) (hD:rJ T L []) (G:aG aB (dT T []) L A m) (H:aG ab (dT T []) L D l.i) (J:aG aa (dT T []) L E l.s) (y:aw) (B:wq m l=some y):bc aO (MD []) 113 [A,.agg (bo l D E).toArray] L (fun v w'=>∃ (q:Nat) (t u z:Value) (j:Nat) (k:Array MapEntry) (g d:Nat) (e:Array MapEntry) (h:Nat),v=pt q 0/\aG aB (dT T [xS q t y.b.r u z j d,om j k g,om d e h]) w' t y.x/\aG ab (dT T [xS q t y.b.r u z j d,om j k g,om d e h]) w' u y.b.i/\aG aa (dT T [xS q t y.b.r u z j d,om j k g,om d e h]) w' z y.b.s/\cb ac true aL.str false (dT T [xS q t y.b.r u z j d,om j k g,om d e h]) w' k y.f/\cb ac true (aL.slice ac) false (dT T [xS q t y.b.r u z j d,om j k g,om d e h]) w' e y.n/\gk L w' [] [xS q t y.b.r u z j d,om j k g,om d e h]):=by
 refine cT (c:=_) Tryz.func113 rfl T 11 Tryz.ntmps113 hT rfl hD fun a I=>?_;replace I:=((I.fS G).fS H).fS J;unfold wq at B;refine kB I fun K M a w O I=>?_;refine al I fun a I=>?_;refine wl rfl (sS ac true aL.str false I rfl fun o N a w O I=>?_);refine wl rfl (sS ac true (aL.slice ac) false I rfl fun p P a w O I=>?_);refine qy I (bk (ps:=[(0,.tmp 5),(1,.tmp 6),(2,.tmp 7),(3,.tmp 8)]) I Qs QT rfl (us:=[[A],(bo l D E),[.map (some o)],[.map (some p)]]) ⟨(lh (aG.one (I.g4:aG aB _ _ _ _))),⟨rfl,⟨rfl,⟨rfl,trivial⟩⟩⟩⟩ (ws:=[A,am l.r,D,E,.map (some o),.map (some p)]) rfl) fun a I=>?_;refine kb I fun F Q a w O I=>?_;refine al I fun a I=>?_;cases B
 refine aE I rfl (ap I rfl aC) ?_;have hZ:=I.sl [0,2,1] [4,3,2,1,0];exact⟨F,A,D,E,o,#[],0,p,#[],0,rfl,hZ.g0,hZ.g1,hZ.g2,hZ.g3,hZ.g4,hZ.zd⟩
def vH:=some (false)
def sW (f:LF) (e:ae) (b:Int):Option (Fl (Int) (Fl (Unit) Bool)):=cond (decide (b<(f.length:Int))) ((bG f b).bind fun c=>cond (c.d.k==e.k&&c.d.t.toList==e.t.toList) (some (.out (.out true))) (some (.go (IntKind.i64.wrap (b+1))))) (some (.out (.go ())))
def sB (c:LF) (b:ae):=(loop (fun s:Int=>sW c b s) 0).bind fun r=>Fl.el r (fun s=>vH) (fun y=>some (y))
theorem xp (e:LF) (b:ae) (l:Value) (p:aG az T L l e) (y:Bool) (B:sB e b=some y):bc aO No 222 [l,.agg (bf b).toArray] L (fun v w'=>v = .bool y):=by
 refine en Tryz.func222 Tryz.ntmps222 hT fun a I=>?_;replace I:=I.fS (aG.dn p);unfold sB at B;refine kB I fun f z a w O I=>?_;refine al I fun a I=>?_;refine aM (J:=fun a w=>St L No T 18 [] [] [] a w/\vH=some y) ?_ ?_
 ·refine al I fun a I=>?_;obtain⟨G,o,hMo1⟩:=bd B;refine bF _ (fun s a w=>∃ (c:Int),c=s/\St L No T 18 [(3,pt f 0),(7,l),(8,am (e.length:Int)),(9,am c)] [.box f (bf b) 30] [aQ az l e] a w) o ⟨_,rfl,I.mt [0] [0]⟩ ?_;rintro s a w x ⟨c,rfl,I⟩ B hf1;have B:sW e b c=some x:=B;unfold sW at B;refine al I fun a I=>?_;refine ay ?_;rcases cd B with⟨m,B⟩|⟨m,B⟩
  ·refine al I fun a I=>?_;refine ay ?_;refine al I fun a I=>?_;obtain⟨g,h,B⟩:=bd B;refine wl rfl (bz (R:=az) I vL vN rfl rfl 0 rfl h rfl fun q D u n a I=>?_);obtain⟨E,F,rfl,i,j⟩:=n;replace I:=(I.fS i).fS j;refine kA I ub fun r A a w O I=>?_;refine go I fun a w I=>?_;refine wl rfl (ky (v:=.bool (g.d.k==b.k&&g.d.t.toList==b.t.toList)) I (Ge I rfl rfl) rfl rfl fun a I=>?_);exact fz
  exact fz
 rintro a w ⟨I,B⟩;unfold vH at B;exact fz
def nO (b:Bool):=some (b)
def mA (d:ar) (g:LF) (b:ae):=(cH b).bind fun e=>cond e (some (false)) ((sB g b).bind fun f=>cond f (some (false)) ((da d.s b).bind fun c=>cond (!(c.2)) (nO true) (nO (c.1.l != d.r))))
theorem vG (b:ar) (g:LF) (c:ae) (p q r:Value) (m:aG ab T L p b.i) (n:aG aa T L q b.s) (o:aG az T L r g) (y:Bool) (B:mA b g c=some y):bc aO No 185 [.agg (bo b p q).toArray,r,.agg (bf c).toArray] L (fun v w'=>v = .bool y):=by
 refine en Tryz.func185 Tryz.ntmps185 hT fun a I=>?_;replace I:=((I.fS (aG.dn m)).fS (aG.dn n)).fS (aG.dn o);unfold mA at B;refine kB I fun t A a w O I=>?_;refine kb I fun u D a w O I=>?_;refine al I fun a I=>?_;refine ay ?_;refine dN ?_;refine al I fun a I=>?_;obtain⟨F,h,B⟩:=bd B;refine kF I yN (dE _ _ I.dlt c _ h) fun w a I=>?_;rcases cd B with⟨e,B⟩|⟨e,B⟩
 ·exact fz
 refine al I fun a I=>?_;obtain⟨G,j,B⟩:=bd B;refine wg I rfl rfl rfl e (bL I Jj rfl rfl (xp _ _ I.dlt g c _ I.g0 _ j) fun _ w C a O U=>?_);obtain rfl:=C;have I:=fp U;refine al I fun a I=>?_;rcases cd B with⟨l,B⟩|⟨l,B⟩
 ·exact fz
 refine al I fun a I=>?_;obtain⟨H,k,B⟩:=bd B;refine kc I sN (cn _ _ I.dlt b.s c _ I.g1 _ k) fun _ w C a O U=>?_;obtain⟨K,z,he,f⟩:=C;obtain rfl:=he.symm;have I:=uc U f;refine kA I ge fun x E a w O I=>?_;refine go I fun a w I=>?_;refine aM (J:=fun a w=>∃ (d:Bool),St L No T 32 [(6,.bool d)] [] [] a w/\nO d=some y) ?_ ?_
 ·exact fz
 rintro a w ⟨d,I,B⟩;unfold nO at B;exact fz
def n9 (c:ByteArray):=(k8 c).bind fun b=>cond (decide (b<0)) (some (0)) (cond (decide ((65535:Int)<b)) (some (0)) (some (b)))
theorem wP (b:ByteArray) (y:Int) (B:n9 b=some y):bc aO No 244 [aT b] L (fun v w'=>v=am y):=by
 refine en Tryz.func244 Tryz.ntmps244 hT fun a I=>?_;unfold n9 at B;refine al I fun a I=>?_;obtain⟨d,c,B⟩:=bd B;refine kF I MZ (uV _ _ I.dlt b _ c) fun w a I=>?_;refine ay ?_;refine dN ?_;exact fz
def lJ (c:aS) (b e d:Int):=cond (c.p==1) (some (Int.tmod b 1000)) (cond (c.p==2) (some (Int.tmod (IntKind.i64.wrap (Int.tdiv b 2)) 1000)) (cond (c.p==3) (some (e)) (cond (c.p==4) (some (Int.tmod b 2)) (some (d)))))
def jP (b:LY) (g f:Int) (e c:Int):Option (Fl (Int×Int×Int×Int) (Int×Int×Int)):=cond (decide (c<(b.length:Int))) ((bG b c).bind fun h=>(n9 h).bind fun d=>some (.go (IntKind.i64.wrap (g+d),max f d,qV .or .i64 e d,IntKind.i64.wrap (c+1)))) (some (.out (g,f,e)))
def qz (c:aS) (b:LY):=(loop (fun s:Int×Int×Int×Int=>jP b s.1 s.2.1 s.2.2.1 s.2.2.2) (c.C,c.C,c.C,0)).bind fun r=>lJ c r.1 r.2.1 r.2.2
theorem Ce (c:aS) (b:LY) (m p:Value) (E:aG fo T L m c.g) (F:aG aL.str T L p b) (y:Int) (B:qz c b=some y):bc aO No 243 [.agg (wH c m).toArray,p] L (fun v w'=>v=am y):=by
 refine en Tryz.func243 Tryz.ntmps243 hT fun a I=>?_;replace I:=(I.fS (aG.dn E)).fS (aG.dn F);unfold qz at B;refine kB I fun h M a w O I=>?_;refine al I fun a I=>?_;refine ay ?_;refine dr [] I fun w hQ I=>?_;refine gE [0,1,2,3,4,5,6,7,8] I fun a I=>?_;refine eD ?_;refine al I fun a I=>?_;refine aM (J:=fun a w=>∃ (l k j:Int),St L No T 54 [(2,pt h 0),(5,am l),(6,am k),(7,am j)] [.box h (wH c m) 150] [aQ fo m c.g] a w/\lJ c l k j=some y) ?_ ?_
 ·refine al I fun a I=>?_;obtain⟨Q,D,hMo1⟩:=bd B;refine bF _ (fun s a w=>∃ (f e:Int) (d i:Int),(f,e,d,i)=s/\St L No T 54 [(2,pt h 0),(5,am f),(6,am e),(7,am d),(17,p),(18,am (b.length:Int)),(19,am i)] [.box h (wH c m) 150] [aQ aL.str p b,aQ fo m c.g] a w) D ⟨_,_,_,_,rfl,I.mt [0] [0,1]⟩ ?_;rintro s a w K ⟨f,e,d,i,rfl,I⟩ B hf1;have B:jP b f e d i=some K:=B;unfold jP at B;refine al I fun a I=>?_;refine ay ?_;rcases cd B with⟨r,B⟩|⟨r,B⟩
  ·refine al I fun a I=>?_;refine ay ?_;refine al I fun a I=>?_;obtain⟨q,n,B⟩:=bd B;refine wl rfl (bz (R:=aL.str) I II Ld rfl rfl 0 rfl n rfl fun G N H t a I=>?_);obtain rfl:=t;refine al I fun a I=>?_;obtain⟨P,o,B⟩:=bd B;refine kF I Na (wP _ _ I.dlt q _ o) fun w a I=>?_;refine qy I (QK I rfl rfl) fun a I=>?_;refine al I fun a I=>?_;refine qy I (uN I rfl rfl rfl) fun a I=>?_;exact fz
  refine al I fun a I=>?_;cases B
  have hr:=hf1 _ rfl;subst hr;have B:lJ c f e d=some y:=hMo1;exact fin
 rintro a w ⟨l,k,j,I,B⟩;unfold lJ at B;refine ay ?_;refine al I fun a I=>?_;rcases cd B with⟨u,B⟩|⟨u,B⟩
 ·refine al I fun a I=>?_;refine qy I (C6 I rfl rfl (by decide)) fun a I=>?_;exact fz
 refine al I fun a I=>?_;rcases cd B with⟨x,B⟩|⟨x,B⟩
 ·refine al I fun a I=>?_;refine qy I (zR I rfl rfl (by decide)) fun a I=>?_;refine qy I (C6 I rfl rfl (by decide)) fun a I=>?_;exact fz
 refine al I fun a I=>?_;rcases cd B with⟨z,B⟩|⟨z,B⟩
 ·exact fz
 refine al I fun a I=>?_;rcases cd B with⟨A,B⟩|⟨A,B⟩
 ·refine al I fun a I=>?_;refine qy I (C6 I rfl rfl (by decide)) fun a I=>?_;exact fz
 exact fz
def k9 (c:LU) (d:fh) (b:Int):=cond d.t1 ((nU b).bind fun e=>some ((tD.mk false cg e))) ((lF c b).bind fun f=>some ((tD.mk false cg f)))
def lb (c:LU) (b:fh) (d:Bool):=cond d (k9 c b b.u1) (k9 c b b.N)
def ik (c:LU) (h:ae) (b:LY):=(iZ h).bind fun f=>cond (decide (f<0)) (some ((tD.mk true cg (ae.mk 0 cg)))) (cond (decide ((c.length:Int)<=f)) (some ((tD.mk true cg (ae.mk 0 cg)))) ((lF c f).bind fun i=>cond (!(i.k==h.k&&i.t.toList==h.t.toList)) (some ((tD.mk true cg (ae.mk 0 cg)))) ((bG c f).bind fun e=>cond (decide ((e.g.length:Int)<=(b.length:Int))) ((tY b 0 (e.g.length:Int)).bind fun l=>(qz e l).bind fun m=>(xW m).bind fun n=>some ((tD.mk true n (ae.mk 0 cg)))) ((bG e.g (b.length:Int)).bind fun d=>cond d.c1 (cond ((b.length:Int)==0) (lb c d true) ((bG b (IntKind.i64.wrap ((b.length:Int)-1))).bind fun j=>(n9 j).bind fun o=>lb c d ((Int.tmod o 2:Int)==0))) (lb c d false)))))
theorem yd (hLv:fi T L) (b:LU) (j:ae) (d:LY) (q v2:Value) (af:aG aB T L q b) (ag:aG aL.str T L v2 d) (y:tD) (B:ik b j d=some y):bc aO No 208 [q,.agg (bf j).toArray,v2] L (fun v w'=>v = .agg (MN y).toArray):=by
 refine en Tryz.func208 Tryz.ntmps208 hT fun a I=>?_;replace I:=((I.fact cc (fi.dn hLv)).fS (aG.dn af)).fS (aG.dn ag);unfold ik at B;refine kB I fun av b8 a w O I=>?_;refine ka I pg fun e b9 a w O I=>?_;refine al I fun a I=>?_;obtain⟨a4,E,B⟩:=bd B;refine kF I GX (oL _ _ I.dlt j _ E) fun w a I=>?_;refine ay ?_;refine ay ?_;refine dr [] I fun w hQ I=>?_;refine gE [0,1,2] I fun a I=>?_;rcases cd B with⟨S,B⟩|⟨S,B⟩
 ·refine gE [3,4,5,6,7,8,9,10,11,12,13,14] I fun a I=>?_;refine eD ?_;refine al I fun a I=>?_;refine qy I (bk (ps:=[(0,.const (.bool true))]) I yc pg rfl (us:=[[.bool true]]) ⟨rfl,trivial⟩ (ws:=[.bool true,aT cg,am 0,aT cg]) rfl) fun a I=>?_;refine go I fun a w I=>?_;cases B
  refine aE I rfl (rC 0 I) ?_;exact rfl
 refine gE [3,4,5,6,7,8] I fun a I=>?_;rcases cd B with⟨m,B⟩|⟨m,B⟩
 ·refine gE [9,10,11,12,13,14] I fun a I=>?_;refine eD ?_;refine al I fun a I=>?_;refine qy I (bk (ps:=[(0,.const (.bool true))]) I yc pg rfl (us:=[[.bool true]]) ⟨rfl,trivial⟩ (ws:=[.bool true,aT cg,am 0,aT cg]) rfl) fun a I=>?_;refine go I fun a w I=>?_;cases B
  refine aE I rfl (rC 0 I) ?_;exact rfl
 refine gE [9,10,12] I fun a I=>?_;obtain⟨r,F,B⟩:=bd B;refine dW (i:=11) rfl (by kernel_rfl) I rfl rfl rfl m (bL I Ib rfl rfl (pE _ _ I.dlt I.g2 b a4 _ I.g1 _ F) fun _ w C a O U=>⟨gO (O),?_⟩);obtain rfl:=C;have I:=fp U;refine dg 13 I m (v:=.bool (!(r.k==j.k&&r.t.toList==j.t.toList))) (AX I rfl rfl) fun a I=>?_;refine gE [14] I fun a I=>?_;refine eD ?_;refine al I fun a I=>?_;rcases cd B with⟨V,B⟩|⟨V,B⟩
 ·refine al I fun a I=>?_;refine qy I (bk (ps:=[(0,.const (.bool true))]) I yc pg rfl (us:=[[.bool true]]) ⟨rfl,trivial⟩ (ws:=[.bool true,aT cg,am 0,aT cg]) rfl) fun a I=>?_;refine go I fun a w I=>?_;cases B
  refine aE I rfl (rC 0 I) ?_;exact rfl
 refine al I fun a I=>?_;obtain⟨P,u,B⟩:=bd B;refine wl rfl (bz (R:=aB) I za sY rfl rfl 1 rfl u rfl fun b0 bl b4 W a I=>?_);obtain⟨c2,rfl,M⟩:=W;replace I:=I.fS M;refine kA I u6 fun b1 bb a w O I=>?_;refine go I fun a w I=>?_;refine ay ?_;refine al I fun a I=>?_;rcases cd B with⟨X,B⟩|⟨X,B⟩
 ·refine al I fun a I=>?_;refine ay ?_;refine dr [(9,.blk (some e))] I fun w hQ I=>?_;refine gE [0,1,2,3,4] I fun a I=>?_;obtain⟨a3,z,B⟩:=bd B;obtain⟨a9,Y,I⟩:=P3 (R:=aL.str) I II Ld 2 rfl z;refine dq 5 I (v:=a9) (Y (k1:=.i64) rfl (.inr ⟨rfl,rfl⟩) (.inl ⟨_,rfl,rfl⟩)) fun a I=>?_;obtain⟨a5,G,B⟩:=bd B;refine ec 6 I PO (Ce _ _ I.dlt P a3 _ _ I.g1 I.g0 _ G) fun _ w C a O U=>?_;obtain rfl:=C;have I:=fp U;obtain⟨p,H,B⟩:=bd B;refine ec 7 I GW (An _ _ I.dlt I.g5 a5 _ H) fun _ w C a O U=>?_;obtain rfl:=C;have I:=fp U;refine dq 8 I (v:=.agg #[.bool true,aT p,am 0,aT cg]) (bk (ps:=[(0,.const (.bool true)),(1,.tmp 48)]) I yc pg rfl (us:=[[.bool true],[aT p]]) ⟨rfl,⟨rfl,trivial⟩⟩ (ws:=[.bool true,aT p,am 0,aT cg]) rfl) fun a I=>?_;refine es 9 I fun w I=>?_;refine eD ?_;refine al I fun a I=>?_;cases B
  refine aE I rfl (rC 1 I) ?_;exact rfl
 refine al I fun a I=>?_;obtain⟨f,s,B⟩:=bd B;refine wl rfl (bz (R:=fo) I KK KU rfl rfl 0 rfl s rfl fun b2 bs b5 Z a I=>?_);obtain rfl:=Z;refine kA I BT fun g bi a w O I=>?_;refine go I fun a w I=>?_;refine aM (J:=fun a w=>∃ (c:Int),St L No T 84 [(0,q),(6,pt e 0),(10,pt g 0),(11,am c)] [.box e [.bool false,aT cg,am 0,aT cg] 225,.box g (NO f) 147] [aQ aB q b,cc] a w/\k9 b f c=some y) ?_ ?_
 ·refine aM (J:=fun a w=>∃ (l:Bool),St L No T 84 [(0,q),(6,pt e 0),(10,pt g 0),(11,am f.N),(72,.bool l)] [.box e [.bool false,aT cg,am 0,aT cg] 225,.box g (NO f) 147] [aQ aB q b,cc] a w/\lb b f l=some y) ?_ ?_
  ·refine al I fun a I=>?_;rcases cd B with⟨a0,B⟩|⟨a0,B⟩
   ·refine al I fun a I=>?_;rcases cd B with⟨h,B⟩|⟨h,B⟩
    ·exact fz
    refine al I fun a I=>?_;obtain⟨Q,x,B⟩:=bd B;refine wg I rfl rfl rfl h (bz (R:=aL.str) I II Ld rfl rfl 3 rfl x rfl fun b3 bt b6 a1 a I=>?_);obtain rfl:=a1;refine al I fun a I=>?_;obtain⟨c1,K,B⟩:=bd B;refine wg I rfl rfl rfl h (bL I Na rfl rfl (wP _ _ I.dlt Q _ K) fun _ w C a O U=>?_);obtain rfl:=C;have I:=fp U;refine qg I h (C6 I rfl rfl (by decide)) fun a I=>?_;exact fz
   exact fz
  rintro a w ⟨l,I,B⟩;unfold lb at B;exact fz
 rintro a w ⟨c,I,B⟩;unfold k9 at B;refine ay ?_;refine al I fun a I=>?_;rcases cd B with⟨a2,B⟩|⟨a2,B⟩
 ·refine al I fun a I=>?_;obtain⟨n,A,B⟩:=bd B;refine kE I NX (ut _ _ I.dlt I.g1 c _ A) fun w a I=>?_;refine qy I (bk (ps:=[(2,.tmp 78)]) I yc pg rfl (us:=[(bf n)]) ⟨rfl,trivial⟩ (ws:=[.bool false,aT cg,am n.k,aT n.t]) rfl) fun a I=>?_;refine go I fun a w I=>?_;cases B
  refine aE I rfl (rC 0 I) ?_;exact rfl
 refine al I fun a I=>?_;obtain⟨o,D,B⟩:=bd B;refine kE I Ib (pE _ _ I.dlt I.g1 b c _ I.g0 _ D) fun w a I=>?_;refine qy I (bk (ps:=[(2,.tmp 82)]) I yc pg rfl (us:=[(bf o)]) ⟨rfl,trivial⟩ (ws:=[.bool false,aT cg,am o.k,aT o.t]) rfl) fun a I=>?_;refine go I fun a w I=>?_;cases B
 refine aE I rfl (rC 0 I) ?_;exact rfl
def eN (d:LU) (c:ae) (b:LY):=cond (c.k==31) ((ik d c b).bind fun e=>some (e)) (cond (c.k==32) ((ik d c b).bind fun f=>some (f)) ((cH c).bind fun g=>cond g (some ((tD.mk true cg (ae.mk 0 cg)))) (cond (decide (c.k<1)) (some ((tD.mk true cg (ae.mk 0 cg)))) (cond (decide ((22:Int)<c.k)) (some ((tD.mk true cg (ae.mk 0 cg)))) (none)))))
theorem gN (hLv:fi T L) (c:LU) (d:ae) (b:LY) (o p:Value) (m:aG aB T L o c) (n:aG aL.str T L p b) (y:tD) (B:eN c d b=some y):bc aO No 173 [o,.agg (bf d).toArray,p] L (fun v w'=>v = .agg (MN y).toArray):=by
 refine en Tryz.func173 Tryz.ntmps173 hT fun a I=>?_;replace I:=((I.fact cc (fi.dn hLv)).fS (aG.dn m)).fS (aG.dn n);unfold eN at B;refine kB I fun q s a w O I=>?_;refine ka I pg fun r t a w O I=>?_;refine al I fun a I=>?_;refine ay ?_;refine al I fun a I=>?_;refine dN ?_;refine al I fun a I=>?_;rcases cd B with⟨h,B⟩|⟨h,B⟩
 ·refine al I fun a I=>?_;obtain⟨u,e,B⟩:=bd B;refine kE I M3 (yd _ _ I.dlt I.g2 c d b _ _ I.g1 I.g0 _ e) fun w a I=>?_;refine go I fun a w I=>?_;cases B
  refine aE I rfl (rC 0 I) ?_;exact rfl
 refine al I fun a I=>?_;rcases cd B with⟨i,B⟩|⟨i,B⟩
 ·refine al I fun a I=>?_;obtain⟨x,f,B⟩:=bd B;refine kE I M3 (yd _ _ I.dlt I.g2 c d b _ _ I.g1 I.g0 _ f) fun w a I=>?_;refine go I fun a w I=>?_;cases B
  refine aE I rfl (rC 0 I) ?_;exact rfl
 refine al I fun a I=>?_;refine dN ?_;refine al I fun a I=>?_;obtain⟨z,g,B⟩:=bd B;refine kF I yN (dE _ _ I.dlt d _ g) fun w a I=>?_;rcases cd B with⟨j,B⟩|⟨j,B⟩
 ·refine al I fun a I=>?_;refine qy I (bk (ps:=[(0,.const (.bool true))]) I yc pg rfl (us:=[[.bool true]]) ⟨rfl,trivial⟩ (ws:=[.bool true,aT cg,am 0,aT cg]) rfl) fun a I=>?_;refine go I fun a w I=>?_;cases B
  refine aE I rfl (rC 0 I) ?_;exact rfl
 refine al I fun a I=>?_;rcases cd B with⟨k,B⟩|⟨k,B⟩
 ·refine al I fun a I=>?_;refine qy I (bk (ps:=[(0,.const (.bool true))]) I yc pg rfl (us:=[[.bool true]]) ⟨rfl,trivial⟩ (ws:=[.bool true,aT cg,am 0,aT cg]) rfl) fun a I=>?_;refine go I fun a w I=>?_;cases B
  refine aE I rfl (rC 0 I) ?_;exact rfl
 refine al I fun a I=>?_;rcases cd B with⟨l,B⟩|⟨l,B⟩
 ·refine al I fun a I=>?_;refine qy I (bk (ps:=[(0,.const (.bool true))]) I yc pg rfl (us:=[[.bool true]]) ⟨rfl,trivial⟩ (ws:=[.bool true,aT cg,am 0,aT cg]) rfl) fun a I=>?_;refine go I fun a w I=>?_;cases B
  refine aE I rfl (rC 0 I) ?_;exact rfl
 refine al I fun a I=>?_;cases B
def oQ (b:LR):=some (b)
def oR (e:aA) (b:LR) (d:Bool):=cond (!(d)) ((gV e).bind fun c=>gd (bW (b.length+([c]).length)) <| oQ (b++([c]))) (oQ b)
def i7 (b:Int) (c:LR) (d:Bool):Option (Fl (LR×Bool×Int) (LR×Bool)):=some (.go (c,d,IntKind.i64.wrap (b+1)))
def i8 (d:Int) (c:aA) (f:Int) (b:LR) (e:Bool):=cond (f != 0) (gd (bW (b.length+([c]).length)) <| i7 d (b++([c])) e) (i7 d b e)
def ja (i:aA) (b:LR) (h:Bool) (d:Int) (c:aA) (e:Int) (g:Bool):=cond g ((gV i).bind fun f=>gd (bW (b.length+([f]).length)) <| i8 d c e (b++([f])) true) (i8 d c e b h)
def rE (i:LR) (h:aA) (f:LR) (c:Bool) (b:Int):=cond (decide (b<(i.length:Int))) ((bG i b).bind fun e=>(jN e.d h.d).bind fun g=>cond (decide ((0:Int)<=g)) (ja h f c b e g (!(c))) (ja h f c b e g false)) (some (.out (f,c)))
def mw (c:LR) (b:aA):=(loop (fun s:LR×Bool×Int=>rE c b s.1 s.2.1 s.2.2) (([]:List aA),false,0)).bind fun r=>oR b r.1 r.2
theorem zL (hLv:fi T L) (g:LR) (b:aA) (q n:Value) (b6:aG aa T L q g) (b8:aG ac T L n b.v) (y:LR) (B:mw g b=some y):bc aO No 215 [q,.agg (bx b n).toArray] L (fun v w'=>∃ (v3:Value) (sO:bC),v=v3/\j9 aa T L w' [aJ v3 sO] 33 v3 sO y):=by
 refine en Tryz.func215 Tryz.ntmps215 hT fun a I=>?_;replace I:=((I.fact cc (fi.dn hLv)).fS (aG.dn b6)).fS (aG.dn b8);unfold mw at B;refine kB I fun e c5 a w O I=>?_;refine al I fun a I=>?_;refine aM (J:=fun a w=>∃ (u:LR) (N:Bool) (S:Value) (E:LV),St L No T 47 [(3,pt e 0),(5,S),(6,.bool N)] [aJ S E,.box e (bx b n) 33] [ao aa E u,aQ ac n b.v,cc] a w/\oR b u N=some y) ?_ ?_
 ·refine al I fun a I=>?_;replace I:=I.zn aa 33 (by decide);obtain⟨r1,b5,hMo1⟩:=bd B;refine bF _ (fun s a w=>∃ (h:LR) (j:Bool) (f:Int) (p:Value) (o:LV),(h,j,f)=s/\St L No T 47 [(3,pt e 0),(5,p),(6,.bool j),(10,q),(11,am (g.length:Int)),(12,am f)] [aJ p o,.box e (bx b n) 33] [ao aa o h,aQ aa q g,aQ ac n b.v,cc] a w) b5 ⟨_,_,_,_,_,rfl,I.mt [0,1] [0,2,1,3]⟩ ?_;rintro s a w f1 ⟨h,j,f,p,o,rfl,I⟩ B hf1;have B:rE g b h j f=some f1:=B;unfold rE at B;refine al I fun a I=>?_;refine ay ?_;rcases cd B with⟨af,B⟩|⟨af,B⟩
  ·refine al I fun a I=>?_;refine aM (J:=fun a w=>∃ (M:LR) (P:Bool) (V:Value) (F:LV),St L No T 47 [(3,pt e 0),(5,V),(6,.bool P),(10,q),(11,am (g.length:Int)),(12,am f)] [aJ V F,.box e (bx b n) 33] [ao aa F M,aQ aa q g,aQ ac n b.v,cc] a w/\i7 f M P=some f1) ?_ ?_
   ·refine al I fun a I=>?_;obtain⟨c,a2,B⟩:=bd B;refine wl rfl (bz (R:=aa) I rb ow rfl rfl 1 rfl a2 rfl fun b9 ca bs ag a I=>?_);obtain⟨k,rfl,a9⟩:=ag;replace I:=I.fS a9;refine kA I ge fun r c9 a w O I=>?_;refine go I fun a w I=>?_;obtain⟨A,a4,B⟩:=bd B;refine kF I F9 (lE _ _ I.dlt I.g5 c.d b.d _ a4) fun w a I=>?_;refine aM (J:=fun a w=>∃ (z:LR) (Q:Bool) (W:Value) (G:LV),St L No T 47 [(3,pt e 0),(5,W),(6,.bool Q),(8,pt r 0),(9,am A),(10,q),(11,am (g.length:Int)),(12,am f)] [aJ W G,.box e (bx b n) 33,.box r (bx c k) 33] [ao aa G z,aQ aa q g,aQ ac n b.v,aQ ac k c.v,cc] a w/\i8 f c A z Q=some f1) ?_ ?_
    ·refine aM (J:=fun a w=>∃ (H:Bool),St L No T 47 [(3,pt e 0),(5,p),(6,.bool j),(8,pt r 0),(9,am A),(10,q),(11,am (g.length:Int)),(12,am f),(26,.bool H)] [aJ p o,.box e (bx b n) 33,.box r (bx c k) 33] [ao aa o h,aQ aa q g,aQ ac n b.v,aQ ac k c.v,cc] a w/\ja b h j f c A H=some f1) ?_ ?_
     ·exact fz
     rintro a w ⟨H,I,B⟩;unfold ja at B;rcases cd B with⟨ak,B⟩|⟨ak,B⟩
     ·refine al I fun a I=>?_;obtain⟨m,a5,B⟩:=bd B;refine kc I GS (nE _ _ I.dlt b _ I.g2 _ a5) fun _ w C a O U=>?_;obtain⟨X,bt,he,Z⟩:=C;obtain rfl:=he.symm;have I:=uc U Z;refine wl rfl (ba (ps:=[(0,.tmp 29)]) I tK ge (zl:=[am 0,aT cg,aT cg,.slice none 0 0,am 0,am 0,am 0,.bool false]) (by kernel_rfl) rfl (us:=[(bx m X)]) ⟨rfl,trivial⟩ (ws:=(bx m X)) rfl rfl rfl rfl fun bb a w O I=>?_);replace I:=I.zf (R:=ac) 1 rfl 0 rfl;replace I:=(I.lit (R:=aa) (us:=(bx m X)) (xs:=[m]) 0 rfl (by decide) (aF (R:=aa) (x:=m) (⟨_,rfl,I.g0⟩)) rfl rfl).zf (R:=aa) 0 rfl 0 rfl;obtain⟨av,B⟩:=aU B;refine wl rfl (bJ (R:=aa) (xs:=h) (ys:=[m]) I tK (by decide) (by decide) rfl rfl 0 rfl 4 rfl 0 rfl av rfl fun ch c1 a w O I=>?_);exact fz
     exact fz
    rintro a w ⟨z,Q,W,G,I,B⟩;unfold i8 at B;refine al I fun a I=>?_;rcases cd B with⟨b0,B⟩|⟨b0,B⟩
    ·refine al I fun a I=>?_;refine wl rfl (ba (ps:=[(0,.tmp 35)]) I tK ge (zl:=[am 0,aT cg,aT cg,.slice none 0 0,am 0,am 0,am 0,.bool false]) (by kernel_rfl) rfl (us:=[(bx c k)]) ⟨rfl,trivial⟩ (ws:=(bx c k)) rfl rfl rfl rfl fun bi a w O I=>?_);replace I:=(I.lit (R:=aa) (us:=(bx c k)) (xs:=[c]) 0 rfl (by decide) (aF (R:=aa) (x:=c) (⟨_,rfl,I.g3⟩)) rfl rfl).zf (R:=aa) 0 rfl 0 rfl;obtain⟨b1,B⟩:=aU B;refine wl rfl (bJ (R:=aa) (xs:=z) (ys:=[c]) I tK (by decide) (by decide) rfl rfl 0 rfl 2 rfl 0 rfl b1 rfl fun ck c2 a w O I=>?_);exact fz
    exact fz
   rintro a w ⟨M,P,V,F,I,B⟩;unfold i7 at B;exact fz
  refine al I fun a I=>?_;cases B
  have hr:=hf1 _ rfl;subst hr;have B:oR b h j=some y:=hMo1;exact fin
 rintro a w ⟨u,N,S,E,I,B⟩;unfold oR at B;refine aM (J:=fun a w=>∃ (K:LR) (D:Value) (t:LV),St L No T 47 [(5,D)] [aJ D t] [ao aa t K,cc] a w/\oQ K=some y) ?_ ?_
 ·refine al I fun a I=>?_;rcases cd B with⟨b2,B⟩|⟨b2,B⟩
  ·refine al I fun a I=>?_;obtain⟨l,a3,B⟩:=bd B;refine kc I GS (nE _ _ I.dlt b _ I.g1 _ a3) fun _ w C a O U=>?_;obtain⟨Y,c3,he,a0⟩:=C;obtain rfl:=he.symm;have I:=uc U a0;refine wl rfl (ba (ps:=[(0,.tmp 43)]) I tK ge (zl:=[am 0,aT cg,aT cg,.slice none 0 0,am 0,am 0,am 0,.bool false]) (by kernel_rfl) rfl (us:=[(bx l Y)]) ⟨rfl,trivial⟩ (ws:=(bx l Y)) rfl rfl rfl rfl fun bl a w O I=>?_);replace I:=I.zf (R:=ac) 1 rfl 0 rfl;replace I:=(I.lit (R:=aa) (us:=(bx l Y)) (xs:=[l]) 0 rfl (by decide) (aF (R:=aa) (x:=l) (⟨_,rfl,I.g0⟩)) rfl rfl).zf (R:=aa) 0 rfl 0 rfl;obtain⟨b3,B⟩:=aU B;refine wl rfl (bJ (R:=aa) (xs:=u) (ys:=[l]) I tK (by decide) (by decide) rfl rfl 0 rfl 4 rfl 0 rfl b3 rfl fun cl c4 a w O I=>?_);exact fz
  exact fz
 rintro a w ⟨K,D,t,I,B⟩;unfold oQ at B;refine al I fun a I=>?_;cases B
 refine aE I rfl (ap I rfl aC) ?_;exact⟨D,t,rfl,I.zo ⟨.inr (aK (i:=0) rfl),trivial⟩ 0 rfl 0 rfl⟩
def nh (e:ar) (f:ae) (c:ByteArray) (b:LK) (d:Int):=some ((aA.mk f c b d e.r (IntKind.i64.wrap (1+(b.length:Int))) false))
def ni (e:ar) (f:ae) (d:ByteArray) (b:LK) (h:(aA×Bool)) (g:Bool):=cond g (nh e f d b h.1.c) (nh e f d b e.r)
def pJ (e:ar) (f:ae) (b:ByteArray) (d:LK):=(da e.s f).bind fun c=>cond c.2 (ni e f b d c (c.1.u.toList==b.toList)) (ni e f b d c false)
theorem yi (d:ar) (e:ae) (c:ByteArray) (b:LK) (D E h:Value) (x:aG ab T L D d.i) (z:aG aa T L E d.s) (A:aG ac T L h b) (y:aA) (B:pJ d e c b=some y):bc aO No 216 [.agg (bo d D E).toArray,.agg (bf e).toArray,aT c,h] L (fun v w'=>∃ (F:Value),v = .agg (bx y F).toArray/\aG ac (dT T []) w' F y.v):=by
 refine en Tryz.func216 Tryz.ntmps216 hT fun a I=>?_;replace I:=((I.fS (aG.dn x)).fS (aG.dn z)).fS (aG.dn A);unfold pJ at B;refine kB I fun G K a w O I=>?_;refine kb I fun H M a w O I=>?_;refine ka I ge fun f N a w O I=>?_;refine al I fun a I=>?_;refine qy I (bk (ps:=[(0,.tmp 12),(1,.tmp 13),(2,.tmp 14),(3,.tmp 16),(4,.tmp 18),(5,.tmp 21)]) I Og ge rfl (us:=[(bf e),[aT c],[h],[am d.r],[am d.r],[am (IntKind.i64.wrap (1+(b.length:Int)))]]) ⟨rfl,⟨rfl,⟨(lh (aG.one (I.g0:aG ac _ _ _ _))),⟨rfl,⟨rfl,⟨rfl,trivial⟩⟩⟩⟩⟩⟩ (ws:=[am e.k,aT e.t,aT c,h,am d.r,am d.r,am (IntKind.i64.wrap (1+(b.length:Int))),.bool false]) rfl) fun a I=>?_;refine ka I ge fun g P a w O I=>?_;refine go I fun a w I=>?_;refine aM (J:=fun a w=>∃ (l:Int),St L No T 41 [(8,pt f 0),(9,pt g 0)] [.box f [am 0,aT cg,aT cg,.slice none 0 0,am 0,am 0,am 0,.bool false] 33,.box g [am e.k,aT e.t,aT c,h,am l,am d.r,am (IntKind.i64.wrap (1+(b.length:Int))),.bool false] 33] [aQ ac h b] a w/\nh d e c b l=some y) ?_ ?_
 ·refine al I fun a I=>?_;obtain⟨m,u,B⟩:=bd B;refine kc I sN (cn _ _ I.dlt d.s e _ I.g1 _ u) fun _ w C a O U=>?_;obtain⟨q,o,he,p⟩:=C;obtain rfl:=he.symm;have I:=uc U p;refine kA I ge fun n Q a w O I=>?_;refine go I fun a w I=>?_;refine aM (J:=fun a w=>∃ (j:Bool),St L No T 41 [(8,pt f 0),(9,pt g 0),(10,pt n 0),(36,.bool j)] [.box f [am 0,aT cg,aT cg,.slice none 0 0,am 0,am 0,am 0,.bool false] 33,.box g [am e.k,aT e.t,aT c,h,am d.r,am d.r,am (IntKind.i64.wrap (1+(b.length:Int))),.bool false] 33,aD q o,.box n (bx m.1 q) 33] [aQ ac h b,ao ac o m.1.v] a w/\ni d e c b m j=some y) ?_ ?_
  ·exact fz
  rintro a w ⟨j,I,B⟩;unfold ni at B;exact fz
 rintro a w ⟨l,I,B⟩;unfold nh at B;refine go I fun a w I=>?_;cases B
 refine aE I rfl (rC 0 I) ?_;exact⟨h,rfl,(aG.up trivial I.g0)⟩
def lg (h:ar) (i b:LF) (c:ae) (d:Bool):Option Int:=cond d (some (3)) ((mA h i c).bind fun e=>cond (!(e)) (some (0)) ((sB b c).bind fun f=>cond (!(f)) (some (1)) ((cU c).bind fun g=>cond g (some (0)) (some (2)))))
def pK (e:ar) (d b:LF) (c:ae):=(cU c).bind fun f=>cond (!(f)) ((sB d c).bind fun g=>lg e d b c g) (lg e d b c false)
theorem yl (c:ar) (e b:LF) (d:ae) (p q:Value) (r t:Value) (A:aG ab T L p c.i) (D:aG aa T L q c.s) (E:aG az T L r e) (F:aG az T L t b) (y:Int) (B:pK c e b d=some y):bc aO No 223 [.agg (bo c p q).toArray,r,t,.agg (bf d).toArray] L (fun v w'=>v=am y):=by
 refine en Tryz.func223 Tryz.ntmps223 hT fun a I=>?_;replace I:=(((I.fS (aG.dn A)).fS (aG.dn D)).fS (aG.dn E)).fS (aG.dn F);unfold pK at B;refine kB I fun g G a w O I=>?_;refine kb I fun h H a w O I=>?_;refine al I fun a I=>?_;refine ay ?_;refine al I fun a I=>?_;refine aM (J:=fun a w=>∃ (f:Bool),St L No T 32 [(1,r),(2,t),(4,pt g 0),(7,pt h 0),(9,.bool f)] [.box g (bo c p q) 25,.box h (bf d) 30] [aQ az r e,aQ az t b,aQ ab p c.i,aQ aa q c.s] a w/\lg c e b d f=some y) ?_ ?_
 ·refine al I fun a I=>?_;obtain⟨P,n,B⟩:=bd B;refine kF I tG (dp _ _ I.dlt d _ n) fun w a I=>?_;rcases cd B with⟨j,B⟩|⟨j,B⟩
  ·refine al I fun a I=>?_;obtain⟨Q,o,B⟩:=bd B;refine wg I rfl rfl rfl j (bL I Jj rfl rfl (xp _ _ I.dlt e d _ I.g1 _ o) fun _ w C a O U=>?_);obtain rfl:=C;have I:=fp U;exact fz
  exact fz
 rintro a w ⟨f,I,B⟩;unfold lg at B;rcases cd B with⟨u,B⟩|⟨u,B⟩
 ·exact fz
 refine al I fun a I=>?_;obtain⟨K,k,B⟩:=bd B;refine kF I MY (vG _ _ I.dlt c e d _ _ _ I.g2 I.g3 I.g0 _ k) fun w a I=>?_;rcases cd B with⟨x,B⟩|⟨x,B⟩
 ·exact fz
 refine al I fun a I=>?_;obtain⟨M,l,B⟩:=bd B;refine kF I Jj (xp _ _ I.dlt b d _ I.g1 _ l) fun w a I=>?_;rcases cd B with⟨z,B⟩|⟨z,B⟩
 ·exact fz
 refine al I fun a I=>?_;obtain⟨N,m,B⟩:=bd B;refine kE I tG (dp _ _ I.dlt d _ m) fun w a I=>?_;exact fz
def vw (b:Int):=cond (b==14) (some ((ByteArray.mk #[48]))) (some (cg))
theorem Cc (b:Int) (y:ByteArray) (B:vw b=some y):bc aO No 242 [am b] L (fun v w'=>v=aT y):=by
 refine en Tryz.func242 Tryz.ntmps242 hT fun a I=>?_;unfold vw at B;refine al I fun a I=>?_;refine ay ?_;exact fz
def kh (b:ae):=cond (b.k==32) (some ((ByteArray.mk #[48]))) ((cU b).bind fun c=>cond c ((vw b.k).bind fun d=>some (d)) (some (cg)))
theorem tp (b:ae) (y:ByteArray) (B:kh b=some y):bc aO No 207 [.agg (bf b).toArray] L (fun v w'=>v=aT y):=by
 refine en Tryz.func207 Tryz.ntmps207 hT fun a I=>?_;unfold kh at B;refine kB I fun g h a w O I=>?_;refine al I fun a I=>?_;refine ay ?_;refine al I fun a I=>?_;rcases cd B with⟨e,B⟩|⟨e,B⟩
 ·exact fz
 refine al I fun a I=>?_;obtain⟨i,c,B⟩:=bd B;refine kF I tG (dp _ _ I.dlt b _ c) fun w a I=>?_;rcases cd B with⟨f,B⟩|⟨f,B⟩
 ·refine al I fun a I=>?_;obtain⟨j,d,B⟩:=bd B;refine kE I PN (Cc _ _ I.dlt b.k _ d) fun w a I=>?_;exact fz
 exact fz
def nZ (vrec:aw->ae->Option (ByteArray×aw)):Prop:=∀ (T:Nat->Prop) (L:World) (hT:∀ k,T k->k<L.heap.size) (G:aw) (H:ae) (e:Nat) (u z A:Value) (c:Nat) (h:Array MapEntry) (l:Nat) (d:Nat) (j:Array MapEntry) (g:Nat) (hD:rJ T L [.box e [u,am G.b.r,z,A,.map (some c),.map (some d)] 223,.obj c (.map h l),.obj d (.map j g)]) (M:aG aB (dT T [.box e [u,am G.b.r,z,A,.map (some c),.map (some d)] 223,.obj c (.map h l),.obj d (.map j g)]) L u G.x) (N:aG ab (dT T [.box e [u,am G.b.r,z,A,.map (some c),.map (some d)] 223,.obj c (.map h l),.obj d (.map j g)]) L z G.b.i) (P:aG aa (dT T [.box e [u,am G.b.r,z,A,.map (some c),.map (some d)] 223,.obj c (.map h l),.obj d (.map j g)]) L A G.b.s) (J:cb ac true aL.str false (dT T [.box e [u,am G.b.r,z,A,.map (some c),.map (some d)] 223,.obj c (.map h l),.obj d (.map j g)]) L h G.f) (K:cb ac true (aL.slice ac) false (dT T [.box e [u,am G.b.r,z,A,.map (some c),.map (some d)] 223,.obj c (.map h l),.obj d (.map j g)]) L j G.n) (hLv:fi (dT T [.box e [u,am G.b.r,z,A,.map (some c),.map (some d)] 223,.obj c (.map h l),.obj d (.map j g)]) L) (y:ByteArray×aw) (B:vrec G H=some y),bc aO (MD [.box e [u,am G.b.r,z,A,.map (some c),.map (some d)] 223,.obj c (.map h l),.obj d (.map j g)]) 114 [.pointer (some ⟨e,0,none⟩),.agg #[am H.k,aT H.t]] L (fun v w'=>∃ (D E F:Value) (m:Array MapEntry) (p:Nat) (o:Array MapEntry) (q:Nat),v=aT y.1/\gk L w' [.box e [u,am G.b.r,z,A,.map (some c),.map (some d)] 223,.obj c (.map h l),.obj d (.map j g)] [.box e [D,am y.2.b.r,E,F,.map (some c),.map (some d)] 223,.obj c (.map m p),.obj d (.map o q)]/\aG aB (dT T [.box e [D,am y.2.b.r,E,F,.map (some c),.map (some d)] 223,.obj c (.map m p),.obj d (.map o q)]) w' D y.2.x/\aG ab (dT T [.box e [D,am y.2.b.r,E,F,.map (some c),.map (some d)] 223,.obj c (.map m p),.obj d (.map o q)]) w' E y.2.b.i/\aG aa (dT T [.box e [D,am y.2.b.r,E,F,.map (some c),.map (some d)] 223,.obj c (.map m p),.obj d (.map o q)]) w' F y.2.b.s/\cb ac true aL.str false (dT T [.box e [D,am y.2.b.r,E,F,.map (some c),.map (some d)] 223,.obj c (.map m p),.obj d (.map o q)]) w' m y.2.f/\cb ac true (aL.slice ac) false (dT T [.box e [D,am y.2.b.r,E,F,.map (some c),.map (some d)] 223,.obj c (.map m p),.obj d (.map o q)]) w' o y.2.n)
def lm (b:LU) (c:Int) (d:LI) (e:LR) (f:LL) (g:LB):=some ((aw.mk b (ar.mk c d e) g f))
def iE (f:LB) (d:LK) (b:Int) (e:LB):Option (Fl (Int×LB) (LB)):=cond (decide (b<(d.length:Int))) ((bG d b).bind fun c=>(some ((dv aR c f).getD cg)).bind fun g=>some (.go (IntKind.i64.wrap (b+1),(fV aR c g e)))) (some (.out e))
def fw (b:LB) (c:LK) (d:LU) (e:Int) (f:LI) (g:LR) (i:LB) (h:LL):=(loop (fun s:Int×LB=>iE b c s.1 s.2) (0,i)).bind fun r=>lm d e f g h r
def iD (b:LB) (d:LK) (c:Bool) (e:LU) (f:Int) (g:LI) (h:LR) (i:LB) (j:LL):Option (Fl (LB×LK×Bool×LU×Int×LI×LR×LB×LL) (LB×LK×LU×Int×LI×LR×LB×LL)):=some (.go (b,d,c,e,f,g,h,i,j))
def em (d:Int) (b:LB) (e:LK) (c:Bool) (f:LU) (g:Int) (h:LI) (i:LR) (j:LB) (k:LL):Option (Fl (LB×LK×Bool×Int×LU×Int×LI×LR×LB×LL) (LB×LK×Bool×LU×Int×LI×LR×LB×LL)):=some (.go (b,e,c,IntKind.i64.wrap (d+1),f,g,h,i,j,k))
def fx (b:Int) (d:LB) (c:LK) (l:Bool) (e:LU) (f:Int) (g:LI) (h:LR) (i:LB) (j:LL) (p:Bool) (k:ByteArray) (q:Int) (r:ByteArray):=(bG c b).bind fun m=>(some ((dv aR m d).getD cg)).bind fun o=>cond (!(o.toList==k.toList)) ((bG c b).bind fun n=>em b (fV aR n k d) c true e f g h i j) (em b d c l e f g h i j)
def dc (j:Int) (c:LY) (g:LB) (e:LK) (h:Bool) (d:ByteArray) (f:LU) (l:Int) (m:LI) (n:LR) (o:LB) (p:LL):Option (Fl (LB×LK×Bool×LY×LU×Int×LI×LR×LB×LL×Bool×ByteArray×Int×ByteArray) (LB×LK×Bool×LU×Int×LI×LR×LB×LL×Bool×ByteArray×Int×ByteArray)):=gd (bW (c.length+([d]).length)) <| (bG e j).bind fun i=>(eN f i (c++([d]))).bind fun b=>some (.go (g,e,h,(c++([d])),f,l,m,n,o,p,b.a1,b.u,b.l1.k,b.l1.t))
def eo (e:Int) (c:LY) (g:LU) (h:Int) (i:LI) (j:LR) (k:LB) (l:LL) (m:Int) (n:ByteArray) (b:LB) (f:LK) (d:Bool):=(some ((dv aR (ae.mk m n) b).getD cg)).bind fun o=>dc e c b f d o g h i j k l
def ep (vrec:aw->ae->Option (ByteArray×aw)) (u:Int) (e:LB) (j:LK) (t:Bool) (q:LY) (k:LU) (l:Int) (m:LI) (o:LR) (g:LB) (p:LL) (v:Bool) (y:ByteArray) (c:Int) (d:ByteArray):=cond (!(v)) ((some ((dv aR (ae.mk c d) g).getD cg)).bind fun z=>cond ((dv aR (ae.mk c d) g).isSome) (dc u q e j t z k l m o g p) ((cU (ae.mk c d)).bind fun A=>cond (!(A)) ((vrec (aw.mk k (ar.mk l m o) g p) (ae.mk c d)).bind fun h=>dc u q e j t h.1 h.2.x h.2.b.r h.2.b.i h.2.b.s h.2.f h.2.n) ((some ((dv aR (ae.mk c d) e).getD cg)).bind fun E=>cond (!((dv aR (ae.mk c d) e).isSome)) ((kh (ae.mk c d)).bind fun D=>gd (bW (j.length+([(ae.mk c d)]).length)) <| eo u q k l m o g p c d (fV aR (ae.mk c d) D e) (j++([(ae.mk c d)])) true) (eo u q k l m o g p c d e j t)))) (some (.out (e,j,t,k,l,m,o,g,p,v,y,c,d)))
def gL (vrec:aw->ae->Option (ByteArray×aw)) (c:LB) (e:LK) (d:Bool) (b:Int) (f:LU) (g:Int) (h:LI) (i:LR) (j:LB) (k:LL) (l:Bool) (m:ByteArray) (n:Int) (o:ByteArray):=(loop (fun s:LB×LK×Bool×LY×LU×Int×LI×LR×LB×LL×Bool×ByteArray×Int×ByteArray=>ep vrec b s.1 s.2.1 s.2.2.1 s.2.2.2.1 s.2.2.2.2.1 s.2.2.2.2.2.1 s.2.2.2.2.2.2.1 s.2.2.2.2.2.2.2.1 s.2.2.2.2.2.2.2.2.1 s.2.2.2.2.2.2.2.2.2.1 s.2.2.2.2.2.2.2.2.2.2.1 s.2.2.2.2.2.2.2.2.2.2.2.1 s.2.2.2.2.2.2.2.2.2.2.2.2.1 s.2.2.2.2.2.2.2.2.2.2.2.2.2) (c,e,d,([]:List ByteArray),f,g,h,i,j,k,l,m,n,o)).bind fun r=>fx b r.1 r.2.1 r.2.2.1 r.2.2.2.1 r.2.2.2.2.1 r.2.2.2.2.2.1 r.2.2.2.2.2.2.1 r.2.2.2.2.2.2.2.1 r.2.2.2.2.2.2.2.2.1 r.2.2.2.2.2.2.2.2.2.1 r.2.2.2.2.2.2.2.2.2.2.1 r.2.2.2.2.2.2.2.2.2.2.2.1 r.2.2.2.2.2.2.2.2.2.2.2.2
def e7 (vrec:aw->ae->Option (ByteArray×aw)) (f:LB) (b:LK) (g:Bool) (d:Int) (e:LU) (h:Int) (i:LI) (j:LR) (l:LB) (m:LL):=cond (decide (d<(b.length:Int))) ((bG b d).bind fun n=>(eN e n ([])).bind fun c=>gL vrec f b g d e h i j l m c.a1 c.u c.l1.k c.l1.t) (some (.out (f,b,g,e,h,i,j,l,m)))
def e8 (vrec:aw->ae->Option (ByteArray×aw)) (b:LB) (c:LK) (j:Bool) (d:LU) (e:Int) (f:LI) (g:LR) (h:LB) (i:LL):=cond j ((loop (fun s:LB×LK×Bool×Int×LU×Int×LI×LR×LB×LL=>e7 vrec s.1 s.2.1 s.2.2.1 s.2.2.2.1 s.2.2.2.2.1 s.2.2.2.2.2.1 s.2.2.2.2.2.2.1 s.2.2.2.2.2.2.2.1 s.2.2.2.2.2.2.2.2.1 s.2.2.2.2.2.2.2.2.2) (b,c,false,0,d,e,f,g,h,i)).bind fun r=>iD r.1 r.2.1 r.2.2.1 r.2.2.2.1 r.2.2.2.2.1 r.2.2.2.2.2.1 r.2.2.2.2.2.2.1 r.2.2.2.2.2.2.2.1 r.2.2.2.2.2.2.2.2) (some (.out (b,c,d,e,f,g,h,i)))
def gM (vrec:aw->ae->Option (ByteArray×aw)) (c:aw) (e:ae) (d:LB):=(loop (fun s:LB×LK×Bool×LU×Int×LI×LR×LB×LL=>e8 vrec s.1 s.2.1 s.2.2.1 s.2.2.2.1 s.2.2.2.2.1 s.2.2.2.2.2.1 s.2.2.2.2.2.2.1 s.2.2.2.2.2.2.2.1 s.2.2.2.2.2.2.2.2) (d,[e],true,c.x,c.b.r,c.b.i,c.b.s,c.f,c.n)).bind fun r=>fw r.1 r.2.1 r.2.2.1 r.2.2.2.1 r.2.2.2.2.1 r.2.2.2.2.2.1 r.2.2.2.2.2.2.1 r.2.2.2.2.2.2.2
def iq (vrec:aw->ae->Option (ByteArray×aw)) (d:aw) (b:ae):=(kh b).bind fun c=>gM vrec d b (fV aR b c ([]:LB))
theorem vC (vrec:aw->ae->Option (ByteArray×aw)) (hvrec:nZ vrec) (q:aw) (K:ae) (p:Nat) (F G H:Value) (d:Nat) (u:Array MapEntry) (A e:Nat) (z:Array MapEntry) (t:Nat) (hD:rJ T L [xS p F q.b.r G H d e,om d u A,om e z t]) (D1:aG aB (dT T [xS p F q.b.r G H d e,om d u A,om e z t]) L F q.x) (F0:aG ab (dT T [xS p F q.b.r G H d e,om d u A,om e z t]) L G q.b.i) (F1:aG aa (dT T [xS p F q.b.r G H d e,om d u A,om e z t]) L H q.b.s) (zs:cb ac true aL.str false (dT T [xS p F q.b.r G H d e,om d u A,om e z t]) L u q.f) (zx:cb ac true (aL.slice ac) false (dT T [xS p F q.b.r G H d e,om d u A,om e z t]) L z q.n) (hLv:fi (dT T [xS p F q.b.r G H d e,om d u A,om e z t]) L) (y:aw) (B:iq vrec q K=some y):bc aO (MD [xS p F q.b.r G H d e,om d u A,om e z t]) 172 [pt p 0,.agg (bf K).toArray] L (fun v w'=>∃ (et ew ex:Value) (ak:Array MapEntry) (bt:Nat) (av:Array MapEntry) (c1:Nat),v = .tuple #[]/\gk L w' [xS p F q.b.r G H d e,om d u A,om e z t] [xS p et y.b.r ew ex d e,om d ak bt,om e av c1]/\aG aB (dT T [xS p et y.b.r ew ex d e,om d ak bt,om e av c1]) w' et y.x/\aG ab (dT T [xS p et y.b.r ew ex d e,om d ak bt,om e av c1]) w' ew y.b.i/\aG aa (dT T [xS p et y.b.r ew ex d e,om d ak bt,om e av c1]) w' ex y.b.s/\cb ac true aL.str false (dT T [xS p et y.b.r ew ex d e,om d ak bt,om e av c1]) w' ak y.f/\cb ac true (aL.slice ac) false (dT T [xS p et y.b.r ew ex d e,om d ak bt,om e av c1]) w' av y.n):=by
 refine cT (c:=_) Tryz.func172 rfl T 135 Tryz.ntmps172 hT rfl hD fun a I=>?_;replace I:=(((((I.fact cc hLv).fS D1).fS F0).fS F1).fM zs).fM zx;unfold iq at B;refine kB I fun q2 S8 a w O I=>?_;refine al I fun a I=>?_;refine aM (J:=fun a w=>∃ (hj:LB) (g:Nat) (gu:AM) (hp:Nat),St L (MD [xS p F q.b.r G H d e,om d u A,om e z t]) T 135 [(0,pt p 0),(3,pt q2 0),(4,.map (some g))] [om g gu hp,om d u A,om e z t,xS p F q.b.r G H d e,.box q2 (bf K) 30] [pm gu hj,BY gu hp,aQ aB F q.x,aQ ab G q.b.i,aQ aa H q.b.s,pm u q.f,sP z q.n,cc] a w/\gM vrec q K hj=some y) ?_ ?_
 ·refine dr [(4,.any)] I fun w hQ I=>?_;refine gE [1,2] I fun a I=>?_;obtain⟨hc,q1,B⟩:=bd B;refine eG (i:=0) (j:=3) rfl rfl (by kernel_rfl) rfl rfl ?_ ?_
  ·skip;refine id (EY ac true aL.str false I rfl fun F2 S9 a w O I=>⟨gO (O),?_⟩);refine ec 3 I Ji (tp _ _ I.dlt K _ q1) fun _ w C a O U=>?_;obtain rfl:=C;have I:=fp U;refine e1 4 (A4 I tS eW 0 rfl 1 rfl 0 rfl (c:=(bf K)) (cv:=[aT hc]) (key:=K) (val:=hc) rfl rfl rfl rfl rfl fun u2 u1 w O I=>⟨kU rfl O sR,?_⟩);refine gE [5,6] I fun a I=>?_;refine eD ?_;exact fin
  skip;refine id (bL I Ji rfl rfl (tp _ _ I.dlt K _ q1) fun _ w C a O U=>⟨gO (O),?_⟩);obtain rfl:=C;have I:=fp U;refine e1 0 (EY ac true aL.str false I rfl fun Fe SH a w O I=>⟨gO (O),?_⟩);refine e1 4 (A4 I tS eW 0 rfl 1 rfl 0 rfl (c:=(bf K)) (cv:=[aT hc]) (key:=K) (val:=hc) rfl rfl rfl rfl rfl fun u2 u1 w O I=>⟨kU rfl O sR,?_⟩);refine gE [5,6] I fun a I=>?_;refine eD ?_;exact fin
 rintro a w ⟨hj,g,gu,hp,I,B⟩;unfold gM at B;refine al I fun a I=>?_;refine wl rfl (ba (ps:=[(0,.tmp 21)]) I kG iA (zl:=[am 0,aT cg]) (by kernel_rfl) rfl (us:=[(bf K)]) ⟨rfl,trivial⟩ (ws:=(bf K)) rfl rfl rfl rfl fun Ff a w O I=>?_);refine al I fun a I=>?_;refine aM (J:=fun a w=>∃ (cl:LB) (c2:LK) (c4:LU) (c5:Int) (c9:LI) (ca:LR) (js:LB) (ch:LL) (af:AM) (d1:Nat) (f4:Value) (d2:LV) (hV:AM) (q3:Nat) (V:AM) (d3:Nat) (a1 a2 a3:Value),St L (MD [xS p F q.b.r G H d e,om d u A,om e z t]) T 135 [(0,pt p 0),(4,.map (some g)),(5,f4)] [om g af d1,aD f4 d2,om d hV q3,om e V d3,xS p a1 c5 a2 a3 d e] [pm af cl,BY af d1,ao ac d2 c2,aQ aB a1 c4,aQ ab a2 c9,aQ aa a3 ca,pm hV js,sP V ch,cc] a w/\fw cl c2 c4 c5 c9 ca js ch=some y) ?_ ?_
 ·refine al I fun a I=>?_;replace I:=I.lit (R:=ac) (us:=(bf K)) (xs:=[K]) 0 rfl (by decide) (aF (R:=ac) (x:=K) rfl) rfl rfl;obtain⟨r1,sk,hMo1⟩:=bd B;refine bF _ (fun s a w=>∃ (cs:LB) (e5:LK) (g9:Bool) (ea:LU) (eb:Int) (ed:LI) (el:LR) (eq:LB) (er:LL) (h0:AM) (hq:Nat) (nm:Value) (hs:LV) (hW:AM) (q4:Nat) (hX:AM) (q5:Nat) (no ns of:Value),(cs,e5,g9,ea,eb,ed,el,eq,er)=s/\St L (MD [xS p F q.b.r G H d e,om d u A,om e z t]) T 135 [(0,pt p 0),(4,.map (some g)),(5,nm),(6,.bool g9)] [om g h0 hq,aD nm hs,om d hW q4,om e hX q5,xS p no eb ns of d e] [pm h0 cs,BY h0 hq,ao ac hs e5,aQ aB no ea,aQ ab ns ed,aQ aa of el,pm hW eq,sP hX er,cc] a w) sk ⟨_,_,_,_,_,_,_,_,_,_,_,_,_,_,_,_,_,_,_,_,rfl,I.mt [1,0,2,3,4] [1,2,0,3,4,5,6,7,8]⟩ ?_;rintro s a w f1 ⟨cs,e5,g9,ea,eb,ed,el,eq,er,h0,hq,nm,hs,hW,q4,hX,q5,no,ns,of,rfl,I⟩ B hf1;have B:e8 vrec cs e5 g9 ea eb ed el eq er=some f1:=B;unfold e8 at B;refine ay ?_;refine al I fun a I=>?_;rcases cd B with⟨u5,B⟩|⟨u5,B⟩
  ·refine FP I fun a I=>?_;refine yw (J:=fun a w=>∃ (hd:LB) (ih:LK) (hk:Bool) (k0:LU) (k1:Int) (k2:LI) (k3:LR) (k4:LB) (k5:LL) (h1:AM) (ht:Nat) (oi:Value) (hu:LV) (hY:AM) (q6:Nat) (i0:AM) (q7:Nat) (oj ok op:Value),St L (MD [xS p F q.b.r G H d e,om d u A,om e z t]) T 135 [(0,pt p 0),(4,.map (some g)),(5,oi),(6,.bool hk)] [om g h1 ht,aD oi hu,om d hY q6,om e i0 q7,xS p oj k1 ok op d e] [pm h1 hd,BY h1 ht,ao ac hu ih,aQ aB oj k0,aQ ab ok k2,aQ aa op k3,pm hY k4,sP i0 k5,cc] a w/\iD hd ih hk k0 k1 k2 k3 k4 k5=some f1) ?_ ?_
   ·refine al I fun a I=>?_;obtain⟨r2,Cb,hMo2⟩:=bd B;refine bF _ (fun s a w=>∃ (a4:LB) (b0:LK) (a5:Bool) (D:Int) (S:LU) (b2:Int) (b3:LI) (b4:LR) (b6:LB) (b9:LL) (ag:AM) (dl:Nat) (fd:Value) (dn:LV) (e0:AM) (hv:Nat) (e2:AM) (hw:Nat) (fl fn fr:Value),(a4,b0,a5,D,S,b2,b3,b4,b6,b9)=s/\St L (MD [xS p F q.b.r G H d e,om d u A,om e z t]) T 135 [(0,pt p 0),(4,.map (some g)),(5,fd),(6,.bool a5),(7,am D)] [om g ag dl,aD fd dn,om d e0 hv,om e e2 hw,xS p fl b2 fn fr d e] [pm ag a4,BY ag dl,ao ac dn b0,aQ aB fl S,aQ ab fn b3,aQ aa fr b4,pm e0 b6,sP e2 b9,cc] a w) Cb ⟨_,_,_,_,_,_,_,_,_,_,_,_,_,_,_,_,_,_,_,_,_,rfl,I.mt [0,1,2,3,4] [0,1,2,3,4,5,6,7,8]⟩ ?_;rintro s a w f2 ⟨a4,b0,a5,D,S,b2,b3,b4,b6,b9,ag,dl,fd,dn,e0,hv,e2,hw,fl,fn,fr,rfl,I⟩ B hf2;have B:e7 vrec a4 b0 a5 D S b2 b3 b4 b6 b9=some f2:=B;unfold e7 at B;refine ay ?_;refine al I fun a I=>?_;rcases cd B with⟨u8,B⟩|⟨u8,B⟩
    ·refine al I fun a I=>?_;refine aM (J:=fun a w=>∃ (hf:LB) (ii:LK) (hl:Bool) (ks:LU) (kt:Int) (l0:LI) (l1:LR) (l2:LB) (l4:LL) (h2:AM) (hx:Nat) (os:Value) (hy:LV) (i1:AM) (r0:Nat) (i2:AM) (r4:Nat) (p0 p1 p2:Value),St L (MD [xS p F q.b.r G H d e,om d u A,om e z t]) T 135 [(0,pt p 0),(4,.map (some g)),(5,os),(6,.bool hl),(7,am D)] [om g h2 hx,aD os hy,om d i1 r0,om e i2 r4,xS p p0 kt p1 p2 d e] [pm h2 hf,BY h2 hx,ao ac hy ii,aQ aB p0 ks,aQ ab p1 l0,aQ aa p2 l1,pm i1 l2,sP i2 l4,cc] a w/\em D hf ii hl ks kt l0 l1 l2 l4=some f2) ?_ ?_
     ·refine al I fun a I=>?_;refine aM (J:=fun a w=>∃ (n1:Bool) (n2:ByteArray) (nd:Int) (ng:ByteArray) (E:Nat),St L (MD [xS p F q.b.r G H d e,om d u A,om e z t]) T 135 [(0,pt p 0),(4,.map (some g)),(5,fd),(6,.bool a5),(7,am D),(8,.slice none 0 0),(9,pt E 0)] [om g ag dl,aD fd dn,om d e0 hv,om e e2 hw,xS p fl b2 fn fr d e,.box E [.bool n1,aT n2,am nd,aT ng] 225] [pm ag a4,BY ag dl,ao ac dn b0,aQ aB fl S,aQ ab fn b3,aQ aa fr b4,pm e0 b6,sP e2 b9,cc] a w/\gL vrec a4 b0 a5 D S b2 b3 b4 b6 b9 n1 n2 nd ng=some f2) ?_ ?_
      ·obtain⟨N279,sp⟩:∃ N,N=w.heap.size:=⟨_,rfl⟩;replace I:=I.fact (IQ N279) (rc sp);refine dr [(11,.new N279)] I fun w hQ I=>?_;refine gE [0,1,2,3,4,5] I fun a I=>?_;obtain⟨gs,t0,B⟩:=bd B;obtain⟨th,z8,T0,K2,up,uv,v0,v1⟩:=mR (R:=ac) I qQ ix 1 rfl 3 rfl t0;obtain rfl:=up;refine dq 6 I (v:=pt th z8) (v1 rfl rfl) fun a I=>?_;refine dq 7 I (l:=[]) (v:=.agg (bf gs).toArray) (cC (k:=0) I ix 1 rfl uv v0 rfl bU (us:=(bf gs)) rfl rfl (fun h=>by cases h)) fun a I=>?_;refine gE [8] I fun a I=>?_;replace I:=I.fact (aQ aL.str (.slice none 0 0) []) (aG.nil_ _ _ _);obtain⟨Ta,q0,B⟩:=bd B;refine eG (i:=9) (j:=10) rfl rfl (by kernel_rfl) rfl rfl ?_ ?_
       ·skip;refine id (bL I xP rfl rfl (gN _ _ I.dlt I.g10 S gs ([]) _ _ I.g5 I.g0 _ q0) fun _ w C a O U=>⟨gO (O),?_⟩);obtain rfl:=C;have I:=fp U;have v5:=(I.g1:N279<=w.heap.size);refine e1 10 (dP I pg rfl fun tk v6 a w O I=>⟨gO (O),?_⟩);refine ek 11 (.blk (some tk)) _ (by kernel_rfl) (qr (cI v5 v6)) ?_;refine es 11 I fun w I=>?_;refine eD ?_;exact fin
       skip;have v7:=(I.g1:N279<=w.heap.size);refine id (dP I pg rfl fun tm v8 a w O I=>⟨gO (O),?_⟩);refine ek 11 (.blk (some tm)) _ (by kernel_rfl) (qr (cI v7 v8)) ?_;refine ec 9 I xP (gN _ _ I.dlt I.g10 S gs ([]) _ _ I.g5 I.g0 _ q0) fun _ w C a O U=>?_;obtain rfl:=C;have I:=fp U;refine es 11 I fun w I=>?_;refine eD ?_;exact fin
      rintro a w ⟨n1,n2,nd,ng,E,I,B⟩;unfold gL at B;refine aM (J:=fun a w=>∃ (hg:LB) (j0:LK) (hm:Bool) (la:LU) (le:Int) (ll:LI) (ls:LR) (lt:LB) (lv:LL) (ms:Bool) (ck:ByteArray) (mv:Int) (n0:ByteArray) (h3:AM) (hz:Nat) (p3:Value) (hA:LV) (i3:AM) (r5:Nat) (i4:AM) (ra:Nat) (p4 p5 p6:Value),St L (MD [xS p F q.b.r G H d e,om d u A,om e z t]) T 135 [(0,pt p 0),(4,.map (some g)),(5,p3),(6,.bool hm),(7,am D),(9,pt E 0)] [om g h3 hz,aD p3 hA,om d i3 r5,om e i4 ra,xS p p4 le p5 p6 d e,.box E [.bool ms,aT ck,am mv,aT n0] 225] [pm h3 hg,BY h3 hz,ao ac hA j0,aQ aB p4 la,aQ ab p5 ll,aQ aa p6 ls,pm i3 lt,sP i4 lv,cc] a w/\fx D hg j0 hm la le ll ls lt lv ms ck mv n0=some f2) ?_ ?_
      ·refine al I fun a I=>?_;replace I:=I.zn aL.str 9 (by decide);obtain⟨r3,D0,z7⟩:=bd B;refine bF _ (fun s a w=>∃ (bs:LB) (c3:LK) (d0:Bool) (M:LY) (W:LU) (X:Int) (Y:LI) (Z:LR) (Q:LB) (a0:LL) (bb:Bool) (bi:ByteArray) (m:Int) (o:ByteArray) (h4:AM) (hB:Nat) (p7:Value) (hC:LV) (bl:Value) (a9:LV) (e3:AM) (hE:Nat) (e4:AM) (hF:Nat) (fs g6 g7:Value),(bs,c3,d0,M,W,X,Y,Z,Q,a0,bb,bi,m,o)=s/\St L (MD [xS p F q.b.r G H d e,om d u A,om e z t]) T 135 [(0,pt p 0),(4,.map (some g)),(5,p7),(6,.bool d0),(7,am D),(8,bl),(9,pt E 0)] [om g h4 hB,aD p7 hC,.own bl 9 aL.str.size a9,om d e3 hE,om e e4 hF,xS p fs X g6 g7 d e,.box E [.bool bb,aT bi,am m,aT o] 225] [pm h4 bs,BY h4 hB,ao ac hC c3,ao aL.str a9 M,aQ aB fs W,aQ ab g6 Y,aQ aa g7 Z,pm e3 Q,sP e4 a0,cc] a w) D0 ⟨_,_,_,_,_,_,_,_,_,_,_,_,_,_,_,_,_,_,_,_,_,_,_,_,_,_,_,rfl,I.mt [1,2,0,3,4,5,6] [1,2,3,0,4,5,6,7,8,9]⟩ ?_;rintro s a w f3 ⟨bs,c3,d0,M,W,X,Y,Z,Q,a0,bb,bi,m,o,h4,hB,p7,hC,bl,a9,e3,hE,e4,hF,fs,g6,g7,rfl,I⟩ B B2;have B:ep vrec D bs c3 d0 M W X Y Z Q a0 bb bi m o=some f3:=B;unfold ep at B;refine ay ?_;refine al I fun a I=>?_;rcases cd B with⟨v9,B⟩|⟨v9,B⟩
       ·refine al I fun a I=>?_;refine ay ?_;refine dr [] I fun w hQ I=>?_;refine gE [0,1,2,3,4,5] I fun a I=>?_;obtain⟨zo,t5,B⟩:=bd B;obtain⟨L2,va,vs⟩:=mi I tS eW 3 rfl 7 rfl (c:=[am m,aT o]) (key:=(ae.mk m o)) rfl NE (zc:=[aT cg]) rfl rfl t5;obtain rfl:=va;refine dq 6 I (l:=[]) (v:=.tuple #[aT zo,.bool ((dv aR (ae.mk m o) Q).isSome)]) (vs rfl rfl bU) fun a I=>?_;refine gE [7,8,9,10,11] I fun a I=>?_;refine eD ?_;refine al I fun a I=>?_;refine aM (J:=fun a w=>∃ (hh:LB) (j1:LK) (hn:Bool) (P:ByteArray) (ha:LU) (m0:Int) (m1:LI) (m2:LR) (m3:LB) (md:LL) (h5:AM) (hG:Nat) (pe:Value) (hI:LV) (i5:AM) (rd:Nat) (i9:AM) (rg:Nat) (pf pk pl:Value),St L (MD [xS p F q.b.r G H d e,om d u A,om e z t]) T 135 [(0,pt p 0),(4,.map (some g)),(5,pe),(6,.bool hn),(7,am D),(8,bl),(9,pt E 0),(10,aT P)] [om g h5 hG,aD pe hI,.own bl 9 aL.str.size a9,om d i5 rd,om e i9 rg,xS p pf m0 pk pl d e,.box E [.bool bb,aT bi,am m,aT o] 225] [pm h5 hh,BY h5 hG,ao ac hI j1,ao aL.str a9 M,aQ aB pf ha,aQ ab pk m1,aQ aa pl m2,pm i5 m3,sP i9 md,cc] a w/\dc D M hh j1 hn P ha m0 m1 m2 m3 md=some f3) ?_ ?_
        ·refine al I fun a I=>?_;rcases cd B with⟨w0,B⟩|⟨w0,B⟩
         ·exact fz
         refine al I fun a I=>?_;obtain⟨T8,t6,B⟩:=bd B;refine kF I tG (dp _ _ I.dlt (ae.mk m o) _ t6) fun w a I=>?_;rcases cd B with⟨w1,B⟩|⟨w1,B⟩
         ·refine al I fun a I=>?_;obtain⟨T9,t7,B⟩:=bd B;replace I:=I.re [5,3,4] [0,1,2,6];refine wl rfl (aZ I GR rfl rfl (hvrec _ _ I.zt (aw.mk W (ar.mk X Y Z) Q a0) (ae.mk m o) _ _ _ _ _ _ _ _ _ _ I.dok I.d4 I.d5 I.d6 I.d7 I.d8 I.d9 _ t7) fun _ w C a O U=>?_);obtain⟨Tb,Tc,Td,S2,Ne,S3,Oa,he,w2,s1,s2,sb,rt,s0⟩:=C;obtain rfl:=he.symm;have I:=U _ w2;replace I:=((((I.fS (s1.sub (aq _))).fS (s2.sub (aq _))).fS (sb.sub (aq _))).fM (rt.keep (aj _ _) (aq _))).fM (s0.keep (aj _ _) (aq _));exact fz
         refine al I fun a I=>?_;refine aM (J:=fun a w=>∃ (hi:LB) (j3:LK) (ho:Bool) (h6:AM) (hK:Nat) (pw:Value) (hM:LV),St L (MD [xS p F q.b.r G H d e,om d u A,om e z t]) T 135 [(0,pt p 0),(4,.map (some g)),(5,pw),(6,.bool ho),(7,am D),(8,bl),(9,pt E 0)] [om g h6 hK,aD pw hM,.own bl 9 aL.str.size a9,om d e3 hE,om e e4 hF,xS p fs X g6 g7 d e,.box E [.bool bb,aT bi,am m,aT o] 225] [pm h6 hi,BY h6 hK,ao ac hM j3,ao aL.str a9 M,aQ aB fs W,aQ ab g6 Y,aQ aa g7 Z,pm e3 Q,sP e4 a0,cc] a w/\eo D M W X Y Z Q a0 m o hi j3 ho=some f3) ?_ ?_
         ·refine al I fun a I=>?_;obtain⟨zp,t9,B⟩:=bd B;obtain⟨Op,w3,w4⟩:=mi I tS eW 0 rfl 0 rfl (c:=[am m,aT o]) (key:=(ae.mk m o)) rfl NE (zc:=[aT cg]) rfl rfl t9;obtain rfl:=w3;refine wl rfl (ky (v:=.tuple #[aT zp,.bool ((dv aR (ae.mk m o) bs).isSome)]) I (w4 rfl rfl id) rfl rfl fun a I=>?_);refine al I fun a I=>?_;rcases cd B with⟨w5,B⟩|⟨w5,B⟩
          ·refine al I fun a I=>?_;refine ay ?_;refine dr [(6,.blk (some g))] I fun w hQ I=>?_;refine gE [0,1,2,3,4] I fun a I=>?_;obtain⟨sn,te,B⟩:=bd B;refine ec 5 I Ji (tp _ _ I.dlt (ae.mk m o) _ te) fun _ w C a O U=>?_;obtain rfl:=C;have I:=fp U;refine e1 6 (Hb I tS eW 0 rfl 0 rfl 1 rfl (c:=[am m,aT o]) (cv:=[aT sn]) (key:=(ae.mk m o)) (val:=sn) rfl rfl rfl rfl rfl fun S4 Os w O I=>⟨kU rfl O jD,?_⟩);refine eD ?_;refine al I fun a I=>?_;refine wl rfl (ba (ps:=[(0,.tmp 70)]) I kG iA (zl:=[am 0,aT cg]) (by kernel_rfl) rfl (us:=[[am m,aT o]]) ⟨rfl,trivial⟩ (ws:=[am m,aT o]) rfl rfl rfl rfl fun G2 a w O I=>?_);replace I:=(I.lit (R:=ac) (us:=[am m,aT o]) (xs:=[(ae.mk m o)]) 0 rfl (by decide) (aF (R:=ac) (x:=(ae.mk m o)) rfl) rfl rfl).zf (R:=ac) 0 rfl 0 rfl;obtain⟨wf,B⟩:=aU B;refine wl rfl (bJ (R:=ac) (xs:=c3) (ys:=[(ae.mk m o)]) I kG (by decide) (by decide) rfl rfl 1 rfl 6 rfl 0 rfl wf rfl fun Te P0 a w O I=>?_);exact fz
          exact fz
         rintro a w ⟨hi,j3,ho,h6,hK,pw,hM,I,B⟩;unfold eo at B;refine al I fun a I=>?_;obtain⟨zm,t4,B⟩:=bd B;obtain⟨Pl,wj,wk⟩:=mi I tS eW 0 rfl 0 rfl (c:=[am m,aT o]) (key:=(ae.mk m o)) rfl NE (zc:=[aT cg]) rfl rfl t4;obtain rfl:=wj;refine wl rfl (ky (v:=aT zm) I (wk rfl rfl id) rfl rfl fun a I=>?_);exact fz
        rintro a w ⟨hh,j1,hn,P,ha,m0,m1,m2,m3,md,h5,hG,pe,hI,i5,rd,i9,rg,pf,pk,pl,I,B⟩;unfold dc at B;refine al I fun a I=>?_;refine wl rfl (ba (ps:=[(0,.tmp 89)]) I zY OQ (zl:=[aT cg]) (by kernel_rfl) rfl (us:=[[aT P]]) ⟨rfl,trivial⟩ (ws:=[aT P]) rfl rfl rfl rfl fun Go a w O I=>?_);replace I:=(I.lit (R:=aL.str) (us:=[aT P]) (xs:=[P]) 0 rfl (by decide) (aF (R:=aL.str) (x:=P) rfl) rfl rfl).zf (R:=aL.str) 0 rfl 0 rfl;obtain⟨wp,B⟩:=aU B;refine wl rfl (bJ (R:=aL.str) (xs:=M) (ys:=[P]) I zY (by decide) (by decide) rfl rfl 2 rfl 5 rfl 0 rfl wp rfl fun Tf Q2 a w O I=>?_);refine al I fun a I=>?_;refine dr [(10,.blk (some E))] I fun w hQ I=>?_;refine gE [0,1,2,3,4,5] I fun a I=>?_;obtain⟨hP,sz,B⟩:=bd B;obtain⟨ts,z9,T1,R2,x0,x1,x2,x3⟩:=mR (R:=ac) I qQ ix 1 rfl 5 rfl sz;obtain rfl:=x0;refine dq 6 I (v:=pt ts z9) (x3 rfl rfl) fun a I=>?_;refine dq 7 I (l:=[]) (v:=.agg (bf hP).toArray) (cC (k:=0) I ix 1 rfl x1 x2 rfl bU (us:=(bf hP)) rfl rfl (fun h=>by cases h)) fun a I=>?_;refine gE [8] I fun a I=>?_;have hL:=I;replace hL:=hL.zf (R:=aL.str) 2 rfl 0 rfl;obtain⟨T7,t3,B⟩:=bd B;refine ec 9 I xP (gN _ _ hL.dlt hL.g13 ha hP (M++([P])) _ _ hL.g8 hL.g0 _ t3) fun _ w C a O U=>?_;obtain rfl:=C;have I:=fp U;refine es 10 I fun w I=>?_;refine eD ?_;exact fin
       refine al I fun a I=>?_;cases B
       have hr:=B2 _ rfl;subst hr;have B:fx D bs c3 d0 W X Y Z Q a0 bb bi m o=some f2:=z7;exact fin
      rintro a w ⟨hg,j0,hm,la,le,ll,ls,lt,lv,ms,ck,mv,n0,h3,hz,p3,hA,i3,r5,i4,ra,p4,p5,p6,I,B⟩;unfold fx at B;refine ay ?_;refine dr [] I fun w hQ I=>?_;refine gE [0,1,2] I fun a I=>?_;obtain⟨gb,st,B⟩:=bd B;obtain⟨tt,zb,T2,R5,x4,x5,x7,xt⟩:=mR (R:=ac) I qQ ix 1 rfl 2 rfl st;obtain rfl:=x4;refine dq 3 I (v:=pt tt zb) (xt rfl rfl) fun a I=>?_;refine dq 4 I (l:=[]) (v:=.agg (bf gb).toArray) (cC (k:=0) I ix 1 rfl x5 x7 rfl bU (us:=(bf gb)) rfl rfl (fun h=>by cases h)) fun a I=>?_;obtain⟨zi,t2,B⟩:=bd B;obtain⟨R9,xx,y1⟩:=mi I tS eW 0 rfl 0 rfl (c:=(bf gb)) (key:=gb) rfl NE (zc:=[aT cg]) rfl rfl t2;obtain rfl:=xx;refine dq 5 I (l:=[]) (v:=aT zi) (y1 rfl rfl bU) fun a I=>?_;refine gE [6,7,8] I fun a I=>?_;refine eD ?_;refine al I fun a I=>?_;rcases cd B with⟨y2,B⟩|⟨y2,B⟩
      ·refine al I fun a I=>?_;refine dr [(7,.blk (some g)),(9,.blk (some g))] I fun w hQ I=>?_;refine gE [0,1,2] I fun a I=>?_;obtain⟨gi,sy,B⟩:=bd B;obtain⟨ty,zg,T3,RI,y3,yv,yy,z0⟩:=mR (R:=ac) I qQ ix 1 rfl 2 rfl sy;obtain rfl:=y3;refine dq 3 I (v:=pt ty zg) (z0 rfl rfl) fun a I=>?_;refine dq 4 I (l:=[]) (v:=.agg (bf gi).toArray) (cC (k:=0) I ix 1 rfl yv yy rfl bU (us:=(bf gi)) rfl rfl (fun h=>by cases h)) fun a I=>?_;refine gE [5] I fun a I=>?_;refine dq 6 I (l:=[.blk (some g)]) (v:=aT ck) (eB I rfl Ld 5 rfl (iX I 5 rfl rfl 0 rfl rfl (by decide) bU) (us:=[aT ck]) rfl rfl (fun _=>rfl)) fun a I=>?_;refine e1 7 (Ik I rfl tS eW 0 rfl 0 rfl 1 rfl (c:=(bf gi)) (key:=gi) rfl NE (zc:=[aT cg]) rfl rfl rfl rfl fun Tg S5 RK T6 a w O I=>⟨kU rfl O jD,?_⟩);refine gE [8] I fun a I=>?_;refine e1 9 (Il (val:=ck) I 0 rfl 0 rfl rfl rfl rfl rfl fun S6 w O I=>⟨kU rfl O jD,?_⟩);refine gE [10] I fun a I=>?_;refine eD ?_;exact fin
      exact fz
     rintro a w ⟨hf,ii,hl,ks,kt,l0,l1,l2,l4,h2,hx,os,hy,i1,r0,i2,r4,p0,p1,p2,I,B⟩;unfold em at B;exact fz
    refine al I fun a I=>?_;cases B
    have hr:=hf2 _ rfl;subst hr;have B:iD a4 b0 a5 S b2 b3 b4 b6 b9=some f1:=hMo2;exact fin
   rintro a w ⟨hd,ih,hk,k0,k1,k2,k3,k4,k5,h1,ht,oi,hu,hY,q6,i0,q7,oj,ok,op,I,B⟩;unfold iD at B;exact fin
  refine al I fun a I=>?_;cases B
  have hr:=hf1 _ rfl;subst hr;have B:fw cs e5 ea eb ed el eq er=some y:=hMo1;exact fin
 rintro a w ⟨cl,c2,c4,c5,c9,ca,js,ch,af,d1,f4,d2,hV,q3,V,d3,a1,a2,a3,I,B⟩;unfold fw at B;refine dN ?_;refine FP I fun a I=>?_;refine yw (J:=fun a w=>∃ (jb:LB) (h7:AM) (hN:Nat),St L (MD [xS p F q.b.r G H d e,om d u A,om e z t]) T 135 [] [om d h7 hN,om e V d3,xS p a1 c5 a2 a3 d e] [aQ aB a1 c4,aQ ab a2 c9,aQ aa a3 ca,pm h7 jb,sP V ch,cc] a w/\lm c4 c5 c9 ca ch jb=some y) ?_ ?_
 ·refine al I fun a I=>?_;obtain⟨r1,sk,hMo1⟩:=bd B;refine bF _ (fun s a w=>∃ (h8:Int) (h9:LB) (ib:AM) (rl:Nat),(h8,h9)=s/\St L (MD [xS p F q.b.r G H d e,om d u A,om e z t]) T 135 [(0,pt p 0),(4,.map (some g)),(120,f4),(121,am (c2.length:Int)),(122,am h8)] [om g af d1,aD f4 d2,om d ib rl,om e V d3,xS p a1 c5 a2 a3 d e] [pm af cl,BY af d1,ao ac d2 c2,aQ aB a1 c4,aQ ab a2 c9,aQ aa a3 ca,pm ib h9,sP V ch,cc] a w) sk ⟨_,_,_,_,rfl,I.mt [0,1,2,3,4] [0,1,2,3,4,5,6,7,8]⟩ ?_;rintro s a w f1 ⟨h8,h9,ib,rl,rfl,I⟩ B hf1;have B:iE cl c2 h8 h9=some f1:=B;unfold iE at B;refine al I fun a I=>?_;refine ay ?_;rcases cd B with⟨z1,B⟩|⟨z1,B⟩
  ·refine al I fun a I=>?_;refine ay ?_;refine al I fun a I=>?_;obtain⟨ds,sq,B⟩:=bd B;refine wl rfl (eQ (R:=ac) I qQ ix rfl rfl 1 rfl 2 rfl sq rfl fun Hc SZ T4 RV z2 z3 z4 a I=>?_);obtain rfl:=z2;refine qy I (cC (k:=0) I ix 1 rfl z3 z4 rfl id (us:=(bf ds)) rfl rfl (fun h=>by cases h)) fun a I=>?_;refine ka I iA fun Iu SY a w O I=>?_;refine go I fun a w I=>?_;refine dr [(8,.blk (some d))] I fun w hQ I=>?_;refine gE [0,1,2,3,4,5,6] I fun a I=>?_;obtain⟨nl,t1,B⟩:=bd B;obtain⟨S0,z5,z6⟩:=mi I tS eW 1 rfl 0 rfl (c:=(bf ds)) (key:=ds) rfl NE (zc:=[aT cg]) rfl rfl t1;obtain rfl:=z5;refine dq 7 I (l:=[]) (v:=aT nl) (z6 rfl rfl bU) fun a I=>?_;refine e1 8 (A5 I tS eW 3 rfl 6 rfl (c:=(bf ds)) (cv:=[aT nl]) (key:=ds) (val:=nl) rfl rfl rfl rfl rfl fun S7 S1 w O I=>⟨kU rfl O jD,?_⟩);refine eD ?_;exact fz
  exact fz
 rintro a w ⟨jb,h7,hN,I,B⟩;unfold lm at B;refine vl ?_;cases B
 refine aE I Tryz.results172 aC ?_;have hZ:=I.sl [2,0,1] [0,1,2,3,4];exact⟨a1,a2,a3,h7,hN,V,d3,rfl,hZ.zd,hZ.g0,hZ.g1,hZ.g2,hZ.g3,hZ.g4⟩
def fv (vrec:aw->ae->Option (ByteArray×aw)) (t:ae) (d:LY) (e:LU) (g:Int) (h:LI) (j:LR) (k:LB) (l:LL) (o:Bool) (m:ByteArray) (p:Int) (q:ByteArray):Option (Fl (LY×LU×Int×LI×LR×LB×LL) (ByteArray×aw)):=cond o (some (.out (m,(aw.mk e (ar.mk g h j) (fV aR t m k) l)))) ((vrec (aw.mk e (ar.mk g h j) k l) (ae.mk p q)).bind fun c=>gd (bW (d.length+([c.1]).length)) <| some (.go ((d++([c.1])),c.2.x,c.2.b.r,c.2.b.i,c.2.b.s,c.2.f,c.2.n)))
def iC (vrec:aw->ae->Option (ByteArray×aw)) (e:ae) (c:LY) (d:LU) (f:Int) (g:LI) (h:LR) (i:LB) (j:LL):=(eN d e c).bind fun b=>fv vrec e c d f g h i j b.a1 b.u b.l1.k b.l1.t
def eM (vrec:aw->ae->Option (ByteArray×aw)) (c:aw) (d:ae):=(cH d).bind fun g=>cond g ((ob c.b d).bind fun h=>some ((h,c))) ((some ((dv aR d c.f).getD cg)).bind fun j=>cond ((dv aR d c.f).isSome) (some ((j,c))) ((cU d).bind fun k=>cond k ((iq vrec c d).bind fun e=>(some ((dv aR d e.f).getD cg)).bind fun l=>some ((l,e))) ((loop (fun s:LY×LU×Int×LI×LR×LB×LL=>iC vrec d s.1 s.2.1 s.2.2.1 s.2.2.2.1 s.2.2.2.2.1 s.2.2.2.2.2.1 s.2.2.2.2.2.2) (([]:List ByteArray),c.x,c.b.r,c.b.i,c.b.s,c.f,c.n)).bind fun y=>some (y))))
theorem vB (vrec:aw->ae->Option (ByteArray×aw)) (hvrec:nZ vrec) (g:aw) (h:ae) (m:Nat) (K M P:Value) (d:Nat) (o:Array MapEntry) (q e:Nat) (p:Array MapEntry) (k:Nat) (hD:rJ T L [xS m K g.b.r M P d e,om d o q,om e p k]) (gb:aG aB (dT T [xS m K g.b.r M P d e,om d o q,om e p k]) L K g.x) (gi:aG ab (dT T [xS m K g.b.r M P d e,om d o q,om e p k]) L M g.b.i) (gs:aG aa (dT T [xS m K g.b.r M P d e,om d o q,om e p k]) L P g.b.s) (g6:cb ac true aL.str false (dT T [xS m K g.b.r M P d e,om d o q,om e p k]) L o g.f) (g7:cb ac true (aL.slice ac) false (dT T [xS m K g.b.r M P d e,om d o q,om e p k]) L p g.n) (hLv:fi (dT T [xS m K g.b.r M P d e,om d o q,om e p k]) L) (y:ByteArray×aw) (B:eM vrec g h=some y):bc aO (MD [xS m K g.b.r M P d e,om d o q,om e p k]) 114 [pt m 0,.agg (bf h).toArray] L (fun v w'=>∃ (a3 a4 a5:Value) (z:Array MapEntry) (Q:Nat) (A:Array MapEntry) (S:Nat),v=aT y.1/\gk L w' [xS m K g.b.r M P d e,om d o q,om e p k] [xS m a3 y.2.b.r a4 a5 d e,om d z Q,om e A S]/\aG aB (dT T [xS m a3 y.2.b.r a4 a5 d e,om d z Q,om e A S]) w' a3 y.2.x/\aG ab (dT T [xS m a3 y.2.b.r a4 a5 d e,om d z Q,om e A S]) w' a4 y.2.b.i/\aG aa (dT T [xS m a3 y.2.b.r a4 a5 d e,om d z Q,om e A S]) w' a5 y.2.b.s/\cb ac true aL.str false (dT T [xS m a3 y.2.b.r a4 a5 d e,om d z Q,om e A S]) w' z y.2.f/\cb ac true (aL.slice ac) false (dT T [xS m a3 y.2.b.r a4 a5 d e,om d z Q,om e A S]) w' A y.2.n):=by
 refine cT (c:=_) Tryz.func114 rfl T 64 Tryz.ntmps114 hT rfl hD fun a I=>?_;replace I:=(((((I.fact cc hLv).fS gb).fS gi).fS gs).fM g6).fM g7;unfold eM at B;refine kB I fun af h7 a w O I=>?_;refine al I fun a I=>?_;refine ay ?_;refine al I fun a I=>?_;obtain⟨h9,c9,B⟩:=bd B;refine kF I yN (dE _ _ I.dlt h _ c9) fun w a I=>?_;rcases cd B with⟨e3,B⟩|⟨e3,B⟩
 ·refine al I fun a I=>?_;refine ay ?_;refine dr [] I fun w hQ I=>?_;refine gE [0,1,2,3,4] I fun a I=>?_;obtain⟨ha,ca,B⟩:=bd B;refine ec 5 I LE (sU _ _ I.dlt g.b h _ _ I.g3 I.g2 _ ca) fun _ w C a O U=>?_;obtain rfl:=C;have I:=fp U;refine gE [6] I fun a I=>?_;refine eD ?_;refine al I fun a I=>?_;cases B
  refine aE I rfl (ap I rfl aC) ?_;have hZ:=I.sl [1,2,3] [4,3,2,1,0];exact⟨K,M,P,o,q,p,k,rfl,hZ.zd,hZ.g0,hZ.g1,hZ.g2,hZ.g3,hZ.g4⟩
 refine al I fun a I=>?_;refine ay ?_;refine ay ?_;refine dr [] I fun w hQ I=>?_;refine gE [0,1,2,3,4] I fun a I=>?_;obtain⟨fd,ch,B⟩:=bd B;obtain⟨h0,e4,e5⟩:=mi I tS eW 2 rfl 1 rfl (c:=(bf h)) (key:=h) rfl NE (zc:=[aT cg]) rfl rfl ch;obtain rfl:=e4;refine dq 5 I (l:=[]) (v:=.tuple #[aT fd,.bool ((dv aR h g.f).isSome)]) (e5 rfl rfl bU) fun a I=>?_;refine gE [6,7,8,9,10] I fun a I=>?_;refine eD ?_;refine al I fun a I=>?_;rcases cd B with⟨ea,B⟩|⟨ea,B⟩
 ·refine al I fun a I=>?_;cases B
  refine aE I rfl (ap I rfl aC) ?_;have hZ:=I.sl [1,2,3] [4,3,2,1,0];exact⟨K,M,P,o,q,p,k,rfl,hZ.zd,hZ.g0,hZ.g1,hZ.g2,hZ.g3,hZ.g4⟩
 refine al I fun a I=>?_;refine ay ?_;refine al I fun a I=>?_;obtain⟨hc,ck,B⟩:=bd B;refine kF I tG (dp _ _ I.dlt h _ ck) fun w a I=>?_;rcases cd B with⟨eb,B⟩|⟨eb,B⟩
 ·refine al I fun a I=>?_;obtain⟨hd,cl,B⟩:=bd B;replace I:=I.re [1,2,3] [0];refine wl rfl (aZ I Pt rfl rfl (vC _ _ I.zt vrec hvrec g h _ _ _ _ _ _ _ _ _ _ I.dok I.d4 I.d3 I.d2 I.d1 I.d0 I.d5 _ cl) fun _ w C a O U=>?_);obtain⟨fn,fr,fs,ds,d9,e0,dl,he,ed,bl,bs,bt,b6,b9⟩:=C;obtain rfl:=he.symm;have I:=U _ ed;replace I:=((((I.fS (bl.sub (aq _))).fS (bs.sub (aq _))).fS (bt.sub (aq _))).fM (b6.keep (aj _ _) (aq _))).fM (b9.keep (aj _ _) (aq _));refine al I fun a I=>?_;refine ay ?_;refine dr [] I fun w hQ I=>?_;refine gE [0,1,2,3,4] I fun a I=>?_;obtain⟨fl,cs,B⟩:=bd B;obtain⟨h1,el,eq⟩:=mi I tS eW 1 rfl 1 rfl (c:=(bf h)) (key:=h) rfl NE (zc:=[aT cg]) rfl rfl cs;obtain rfl:=el;refine dq 5 I (l:=[]) (v:=aT fl) (eq rfl rfl bU) fun a I=>?_;refine gE [6] I fun a I=>?_;refine eD ?_;refine al I fun a I=>?_;cases B
  refine aE I rfl (ap I rfl aC) ?_;have hZ:=I.sl [0,1,2] [4,3,2,1,0];exact⟨fn,fr,fs,ds,d9,e0,dl,rfl,hZ.zd,hZ.g0,hZ.g1,hZ.g2,hZ.g3,hZ.g4⟩
 refine al I fun a I=>?_;replace I:=I.zn aL.str 9 (by decide);obtain⟨r1,g9,hMo1⟩:=bd B;refine bF _ (fun s a w=>∃ (t:LY) (u:LU) (D:Int) (E:LI) (F:LR) (G:LB) (H:LL) (a9:Value) (a0:LV) (a1:AM) (b2:Nat) (V:AM) (ag:Nat) (X Y Z:Value),(t,u,D,E,F,G,H)=s/\St L (MD [xS m K g.b.r M P d e,om d o q,om e p k]) T 64 [(0,pt m 0),(3,pt af 0),(7,a9)] [.own a9 9 aL.str.size a0,om d a1 b2,om e V ag,xS m X D Y Z d e,.box af (bf h) 30] [ao aL.str a0 t,aQ aB X u,aQ ab Y E,aQ aa Z F,pm a1 G,sP V H,cc] a w) g9 ⟨_,_,_,_,_,_,_,_,_,_,_,_,_,_,_,_,rfl,I.mt [0,3,4,2,1] [0,5,4,3,2,1,6]⟩ ?_;rintro s a w f1 ⟨t,u,D,E,F,G,H,a9,a0,a1,b2,V,ag,X,Y,Z,rfl,I⟩ B hf1;have B:iC vrec h t u D E F G H=some f1:=B;unfold iC at B;refine al I fun a I=>?_;refine aM (J:=fun a w=>∃ (b3:Bool) (a2:ByteArray) (ak:Int) (av:ByteArray) (b0:Nat),St L (MD [xS m K g.b.r M P d e,om d o q,om e p k]) T 64 [(0,pt m 0),(3,pt af 0),(7,a9),(8,pt b0 0)] [.own a9 9 aL.str.size a0,om d a1 b2,om e V ag,xS m X D Y Z d e,.box af (bf h) 30,.box b0 [.bool b3,aT a2,am ak,aT av] 225] [ao aL.str a0 t,aQ aB X u,aQ ab Y E,aQ aa Z F,pm a1 G,sP V H,cc] a w/\fv vrec h t u D E F G H b3 a2 ak av=some f1) ?_ ?_
 ·obtain⟨N148,c4⟩:∃ N,N=w.heap.size:=⟨_,rfl⟩;replace I:=I.fact (IQ N148) (rc c4);refine dr [(8,.new N148)] I fun w hQ I=>?_;refine gE [0,1,2,3,4,5] I fun a I=>?_;have hL:=I;replace hL:=hL.zf (R:=aL.str) 0 rfl 1 rfl;obtain⟨h8,b4,B⟩:=bd B;refine eG (i:=6) (j:=7) rfl rfl (by kernel_rfl) rfl rfl ?_ ?_
  ·skip;have hL:=I;replace hL:=hL.zf (R:=aL.str) 0 rfl 1 rfl;refine id (bL I xP rfl rfl (gN _ _ hL.dlt hL.g8 u h t _ _ hL.g3 hL.g0 _ b4) fun _ w C a O U=>⟨gO (O),?_⟩);obtain rfl:=C;have I:=fp U;have er:=(I.g0:N148<=w.heap.size);refine e1 7 (dP I pg rfl fun d7 et a w O I=>⟨gO (O),?_⟩);refine ek 8 (.blk (some d7)) _ (by kernel_rfl) (qr (cI er et)) ?_;refine es 8 I fun w I=>?_;refine eD ?_;exact fin
  skip;have ew:=(I.g0:N148<=w.heap.size);refine id (dP I pg rfl fun d8 ex a w O I=>⟨gO (O),?_⟩);refine ek 8 (.blk (some d8)) _ (by kernel_rfl) (qr (cI ew ex)) ?_;have hL:=I;replace hL:=hL.zf (R:=aL.str) 1 rfl 1 rfl;refine ec 6 I xP (gN _ _ hL.dlt hL.g8 u h t _ _ hL.g3 hL.g0 _ b4) fun _ w C a O U=>?_;obtain rfl:=C;have I:=fp U;refine es 8 I fun w I=>?_;refine eD ?_;exact fin
 rintro a w ⟨b3,a2,ak,av,b0,I,B⟩;unfold fv at B;refine ay ?_;refine al I fun a I=>?_;rcases cd B with⟨f2,B⟩|⟨f2,B⟩
 ·refine al I fun a I=>?_;refine ay ?_;refine dr [(7,.blk (some d))] I fun w hQ I=>?_;refine gE [0,1,2,3,4,5,6] I fun a I=>?_;refine e1 7 (A5 I tS eW 1 rfl 4 rfl (c:=(bf h)) (cv:=[aT a2]) (key:=h) (val:=a2) rfl rfl rfl rfl rfl fun e2 dn w O I=>⟨kU rfl O jD,?_⟩);refine eD ?_;refine al I fun a I=>?_;cases B
  have hr:=hf1 _ rfl;subst hr;have B:=hMo1;cases B
  refine aE I rfl (ap I rfl aC) ?_;have hZ:=I.sl [3,1,2] [2,3,4,0,6];exact⟨X,Y,Z,e2,dn,V,ag,rfl,hZ.zd,hZ.g0,hZ.g1,hZ.g2,hZ.g3,hZ.g4⟩
 refine al I fun a I=>?_;obtain⟨W,c5,B⟩:=bd B;replace I:=I.re [3,1,2] [0,4,5];refine wl rfl (aZ I GR rfl rfl (hvrec _ _ I.zt (aw.mk u (ar.mk D E F) G H) (ae.mk ak av) _ _ _ _ _ _ _ _ _ _ I.dok I.d1 I.d2 I.d3 I.d4 I.d5 I.d6 _ c5) fun _ w C a O U=>?_);obtain⟨hf,hg,hh,h5,h2,h6,h3,he,f3,c1,c2,c3,bb,bi⟩:=C;obtain rfl:=he.symm;have I:=U _ f3;replace I:=((((I.fS (c1.sub (aq _))).fS (c2.sub (aq _))).fS (c3.sub (aq _))).fM (bb.keep (aj _ _) (aq _))).fM (bi.keep (aj _ _) (aq _));refine wl rfl (ba (ps:=[(0,.tmp 61)]) I zY OQ (zl:=[aT cg]) (by kernel_rfl) rfl (us:=[[aT W.1]]) ⟨rfl,trivial⟩ (ws:=[aT W.1]) rfl rfl rfl rfl fun gu a w O I=>?_);replace I:=(I.lit (R:=aL.str) (us:=[aT W.1]) (xs:=[W.1]) 0 rfl (by decide) (aF (R:=aL.str) (x:=W.1) rfl) rfl rfl).zf (R:=aL.str) 0 rfl 0 rfl;obtain⟨f4,B⟩:=aU B;refine wl rfl (bJ (R:=aL.str) (xs:=t) (ys:=[W.1]) I zY (by decide) (by decide) rfl rfl 3 rfl 7 rfl 0 rfl f4 rfl fun hi h4 a w O I=>?_);exact fz
end
end
section
set_option maxRecDepth 100000 in
set_option maxHeartbeats 4000000 in
theorem B6 (T:Nat->Prop) (L:World) (hT:∀ k,T k->k<L.heap.size) (hD:rJ T L []) (j:(List bR)) (P:Value) (bi:aG az (dT T []) L P j) (y:(List bR)) (B:eR j=some y) (S:bR) (a5:bG y (IntKind.i64.wrap ((y.length:Int)-1))=some S):bc aO (MD []) 183 [P] L (fun v w'=>∃ (cl:bC) (Z:Value) (X:bC) (v3:Value) (Y:bC),aY (HR az) (dT T [.own v 202 az.size cl,.own Z 30 ac.size X,.own v3 9 aL.str.size Y]) w' cl (fU y (IntKind.i64.wrap ((y.length:Int)-1)) [am S.d.k,aT S.d.t,.bool S.w,am S.i1,Z,v3])/\aY ac (dT T [.own v 202 az.size cl,.own Z 30 ac.size X,.own v3 9 aL.str.size Y]) w' X S.v/\aY aL.str (dT T [.own v 202 az.size cl,.own Z 30 ac.size X,.own v3 9 aL.str.size Y]) w' Y S.e/\gk L w' [] [.own v 202 az.size cl,.own Z 30 ac.size X,.own v3 9 aL.str.size Y]):=by
 refine cT (c:=_) Tryz.func183 rfl T 26 Tryz.ntmps183 hT rfl hD fun a I=>?_;replace I:=I.fact (aQ az P j) bi;unfold eR at B;refine rq fun K26 b1=>?_;refine qa I fun a I=>?_;refine rz (b1 _ _ ?_);refine rq fun K27 b2=>?_;refine qa I fun a I=>?_;refine rz (b2 _ _ ?_);refine aM (J:=fun a w=>∃ (W:(List bR)) (Q:Value) (A:(bC)) (N:List bR) (m:bR) (G:Value) (D:bC) (H:Value) (E:bC),W=N++[m]/\St L (MD []) T 26 [(3,Q)] [.own Q 202 az.size A,.own G 30 ac.size D,.own H 9 aL.str.size E] [ao (HR az) A (A8 N [am m.d.k,aT m.d.t,.bool m.w,am m.i1,G,H]),ao ac D m.v,ao aL.str E m.e] a w/\dh W=some y) ?_ ?_
 ·refine rq fun K40 b4=>?_;refine qm I fun a I=>?_;refine qy I (ND (R:=az) (xs:=j) I vL rfl 0 rfl) fun a I=>?_;refine qm I fun a I=>?_;refine rz (b4 _ _ ?_);refine wp_block ?_;replace I:=I.zn az 202 (by decide);obtain⟨r1,bb,hMo1⟩:=bd B;refine bF (fun s:(List bR)×Int=>cq j s.1 s.2) (fun s a w=>∃ (f:(List bR)) (g:Int) (r:Value) (p:(bC)),(f,g)=s/\((f=[]/\St L (MD []) T 26 [(3,r),(6,P),(7,am (j.length:Int)),(8,am g)] [.own r 202 az.size p] [ao az p f,aQ az P j] a w)∨∃ (N:List bR) (m:bR) (G:Value) (D:bC) (H:Value) (E:bC),f=N++[m]/\St L (MD []) T 26 [(3,r),(6,P),(7,am (j.length:Int)),(8,am g)] [.own r 202 az.size p,.own G 30 ac.size D,.own H 9 aL.str.size E] [ao (HR az) p (A8 N [am m.d.k,aT m.d.t,.bool m.w,am m.i1,G,H]),ao ac D m.v,ao aL.str E m.e,aQ az P j] a w)) bb ⟨([]:List bR),0,(.slice none 0 0),([]),rfl,.inl ⟨rfl,(I.meet [0] (by decide) ⟨rfl,rfl,rfl,rfl,trivial⟩ ⟨rfl,trivial⟩ ⟨⟨0,rfl⟩,⟨1,rfl⟩,trivial⟩)⟩⟩ ?_;rintro s a w f1 ⟨f,g,r,p,rfl,a4⟩ B hf1;by_cases hlt:g<(j.length:Int)
  ·have I:St L (MD []) T 26 [(3,r),(6,P),(7,am (j.length:Int)),(8,am g)] [.own r 202 az.size p] [ao az p f,aQ az P j] a w:=by
    rcases a4 with⟨_,I⟩|⟨N,m,G,D,H,E,ho,I⟩
    · exact I
    replace I:=(I.zf (R:=ac) 1 rfl 1 rfl).zf (R:=aL.str) 1 rfl 3 rfl;replace I:=I.closeLast (R:=az) (x:=m) 2 rfl ⟨_,_,rfl,I.get 1 rfl,I.get 0 rfl⟩;rw [<- ho] at I;exact I.meet [0] (by decide) ⟨rfl,rfl,rfl,rfl,trivial⟩ ⟨rfl,trivial⟩ ⟨⟨0,rfl⟩,⟨6,rfl⟩,trivial⟩
   have B:cq j f g=some f1:=B;unfold cq at B;refine rq fun K51 F=>?_;refine qy I (FD I rfl rfl rfl) fun a I=>?_;refine rz (F _ _ ?_);refine wp_seq_k fun K52 V=>?_;have q:decide (g<(j.length:Int))=true:=decide_eq_true hlt;replace B:=ct q B;refine Sm I rfl q ?_;refine wp_skip ?_;refine V _ _ ?_;refine wp_seq_k fun K53 b5=>?_;refine wp_block ?_;refine rq fun K54 b6=>?_;obtain⟨b,a1,B⟩:=bd B;refine wl rfl (bz (R:=az) I vL vN rfl rfl 1 rfl a1 rfl fun bl c9 bt ag a I=>?_);obtain⟨K,M,rfl,a2,a3⟩:=ag;replace I:=(I.fact (aQ ac K b.v) a2).fact (aQ aL.str M b.e) a3;refine qy I (wz (k:=0) I vN 2 rfl rfl (fun _ h=>h.elim) (us:=[am b.d.k,aT b.d.t,.bool b.w,am b.i1,K,M]) rfl rfl (fun h=>by cases h)) fun a I=>?_;refine wl rfl (dP I ub rfl fun z c5 a w O I=>?_);refine wl rfl (ul I rfl rfl (us:=[am b.d.k,aT b.d.t,.bool b.w,am b.i1,K,M]) rfl vN 0 rfl rfl rfl (oc rfl (oc rfl (oc rfl (oc rfl (oc (aG.one ((I.get 1 rfl):aG ac _ _ _ _)) (oc (aG.one ((I.get 0 rfl):aG aL.str _ _ _ _)) on)))))) fun w O I=>?_);refine rz (b6 _ _ ?_);refine wp_seq_k fun K55 b8=>?_;replace I:=(I.zn ac 30 (by decide)).zn aL.str 9 (by decide);refine Nf [(2,.blk (Value.ownBlock (.slice none 0 0))),(5,.blk (Value.ownBlock (.slice none 0 0))),(7,.blk (some z)),(9,.blk (some z))] I mixed rfl (fun c a d v w h=>by cases d <;> exact h) fun w hQ I=>?_;refine dy 0 (v:=.pointer (some ⟨z,0+4,none⟩)) rfl (by kernel_rfl) (by kernel_rfl) (by kernel_rfl) rfl hQ I (FC I rfl DC) rfl rfl rfl fun a I=>?_;refine dy (l:=[]) 1 (v:=K) rfl (by kernel_rfl) (by kernel_rfl) (by kernel_rfl) (by kernel_rfl) hQ I (eB I rfl Gy 2 rfl bU (us:=[K]) rfl rfl (fun _=>rfl)) rfl rfl rfl fun a I=>?_;refine dy 3 (v:=.pointer (some ⟨z,0+5,none⟩)) rfl (by kernel_rfl) (by kernel_rfl) (by kernel_rfl) rfl hQ I (FC I rfl DD) rfl rfl rfl fun a I=>?_;refine dy (l:=[.blk (Value.ownBlock (.slice none 0 0))]) 4 (v:=M) rfl (by kernel_rfl) (by kernel_rfl) (by kernel_rfl) (by kernel_rfl) hQ I (eB I rfl Gz 2 rfl (iX I 2 rfl rfl 0 rfl rfl (by decide) bU) (us:=[M]) rfl rfl (fun _=>rfl)) rfl rfl rfl fun a I=>?_;obtain⟨ak,B⟩:=aU B;refine uM (i:=2) rfl (by kernel_rfl) rfl (bJ (R:=ac) (xs:=([]:List ae)) (ys:=b.v) I kG (by decide) (by decide) rfl rfl 1 rfl 1 rfl 3 rfl ak rfl fun n c1 a w O I=>⟨kU rfl O kI,?_⟩);refine dy 6 (v:=.pointer (some ⟨z,0+4,none⟩)) rfl (by kernel_rfl) (by kernel_rfl) (by kernel_rfl) rfl hQ I (FC I rfl DC) rfl rfl rfl fun a I=>?_;obtain⟨av,B⟩:=aU B;refine uM (i:=5) rfl (by kernel_rfl) rfl (bJ (R:=aL.str) (xs:=([]:List ByteArray)) (ys:=b.e) I zY (by decide) (by decide) rfl rfl 0 rfl 1 rfl 3 rfl av rfl fun o c4 a w O I=>⟨kU rfl O kI,?_⟩);refine uM (i:=7) rfl (by kernel_rfl) rfl (ul I rfl rfl (us:=[n]) (lh (gh (I.own _ (aK (i:=1) rfl)).1)) Gy 2 rfl rfl rfl (oc (gh (I.own _ (aK (i:=1) rfl)).1) on) fun w O I=>⟨kU rfl O jD,?_⟩);refine dy 8 (v:=.pointer (some ⟨z,0+5,none⟩)) rfl (by kernel_rfl) (by kernel_rfl) (by kernel_rfl) rfl hQ I (FC I rfl DD) rfl rfl rfl fun a I=>?_;refine uM (i:=9) rfl (by kernel_rfl) rfl (ul I rfl rfl (us:=[o]) (lh (gh (I.own _ (aK (i:=0) rfl)).1)) Gz 2 rfl rfl rfl (oc (gh (I.own _ (aK (i:=0) rfl)).1) on) fun w O I=>⟨kU rfl O jD,?_⟩);refine Fy (by kernel_rfl) ?_ _;refine b8 _ _ ?_;refine Gp ?_;refine qm I fun a I=>?_;refine qy I (eB I rfl vN 2 rfl id (us:=[am b.d.k,aT b.d.t,.bool b.w,am b.i1,n,o]) rfl rfl (fun h=>by cases h)) fun a I=>?_;refine wl rfl (ba (ps:=[(0,.tmp 21)]) I xT ub (zl:=[am 0,aT cg,.bool false,am 0,.slice none 0 0,.slice none 0 0]) (by kernel_rfl) rfl (us:=[[am b.d.k,aT b.d.t,.bool b.w,am b.i1,n,o]]) ⟨rfl,trivial⟩ (ws:=[am b.d.k,aT b.d.t,.bool b.w,am b.i1,n,o]) rfl rfl rfl rfl fun bs a w O I=>?_);have hone:∀ u∈([am b.d.k,aT b.d.t,.bool b.w,am b.i1,n,o]:bC),u.oneCell'=true:=oc rfl (oc rfl (oc rfl (oc rfl (oc (gh (I.own _ (aK (i:=2) rfl)).1) (oc (gh (I.own _ (aK (i:=1) rfl)).1) on)))));replace I:=(I.lit (R:=HR az) (us:=[am b.d.k,aT b.d.t,.bool b.w,am b.i1,n,o]) (xs:=[Sum.inl [am b.d.k,aT b.d.t,.bool b.w,am b.i1,n,o]]) 0 rfl (by decide) (aF (R:=HR az) (x:=Sum.inl [am b.d.k,aT b.d.t,.bool b.w,am b.i1,n,o]) ⟨rfl,rfl,hone⟩) rfl rfl).zf (R:=HR az) 0 rfl 0 rfl;obtain⟨b0,B⟩:=aU B;replace I:=I.openH (R:=az) (cl:=p) (xs:=f) 9 rfl;refine wl rfl (bJ (R:=HR az) (xs:=f.map Sum.inr) (ys:=[Sum.inl [am b.d.k,aT b.d.t,.bool b.w,am b.i1,n,o]]) I xT (by decide) (by decide) rfl rfl 3 rfl 0 rfl 1 rfl (by rw [pq]; exact b0) rfl fun b9 a9 a w O I=>?_);refine qa I fun a I=>?_;refine rz (b5 _ _ ?_);refine Gp ?_;refine qy I (FD I rfl rfl rfl) fun a I=>?_;refine qm I fun a I=>?_;refine wpList_nil ?_;exact⟨((f++([(bR.mk b.d b.w b.i1 (([]:List ae)++b.v) (([]:List ByteArray)++b.e))])),IntKind.i64.wrap (g+1)),(cJ B).symm,(f++([(bR.mk b.d b.w b.i1 (([]:List ae)++b.v) (([]:List ByteArray)++b.e))])),(IntKind.i64.wrap (g+1)),b9,a9,rfl,.inr ⟨f,(bR.mk b.d b.w b.i1 (([]:List ae)++b.v) (([]:List ByteArray)++b.e)),n,_,o,_,rfl,(I.meet [3,1,0] (by decide) ⟨rfl,rfl,rfl,rfl,trivial⟩ ⟨rfl,rfl,rfl,trivial⟩ ⟨⟨0,rfl⟩,⟨5,rfl⟩,⟨4,rfl⟩,⟨12,rfl⟩,trivial⟩)⟩⟩
  rcases a4 with⟨ho,I⟩|⟨N,m,G,D,H,E,ho,I⟩
  ·have B:cq j f g=some f1:=B;unfold cq at B;refine rq fun K51 F=>?_;refine qy I (FD I rfl rfl rfl) fun a I=>?_;refine rz (F _ _ ?_);refine wp_seq_k fun K52 V=>?_;have q:decide (g<(j.length:Int))=false:=decide_eq_false hlt;replace B:=cf q B;refine Rb I rfl q ?_;refine wp_exit ?_;injection B with B;subst B;have hr:=hf1 _ rfl;subst hr;have B:dh f=some y:=hMo1;subst ho;unfold dh at B;obtain rfl:=cJ B;exact absurd a5 (by simp [bG])
  have B:cq j f g=some f1:=B;unfold cq at B;refine rq fun K51 F=>?_;refine qy I (FD I rfl rfl rfl) fun a I=>?_;refine rz (F _ _ ?_);refine wp_seq_k fun K52 V=>?_;have q:decide (g<(j.length:Int))=false:=decide_eq_false hlt;replace B:=cf q B;refine Rb I rfl q ?_;refine wp_exit ?_;injection B with B;subst B;have hr:=hf1 _ rfl;subst hr;have B:dh f=some y:=hMo1;exact⟨f,r,p,N,m,G,D,H,E,ho,(I.meet [0,1,2] (by decide) ⟨rfl,trivial⟩ ⟨rfl,rfl,rfl,trivial⟩ ⟨⟨0,rfl⟩,⟨1,rfl⟩,⟨2,rfl⟩,trivial⟩),B⟩
 rintro a w ⟨W,Q,A,N,m,G,D,H,E,ho,I,B⟩;unfold dh at B;refine rq fun K39 b3=>?_;refine qm I fun a I=>?_;refine qa I fun a I=>?_;refine rz (b3 _ _ ?_);refine wp_ret ?_;injection B with B;subst B;refine aE I Tryz.results183 (ap I rfl aC) ?_;subst ho;obtain⟨rfl,hix⟩:=JS (Nat.le_of_succ_le (by have:=Ka (R:=HR az) I 0 rfl 0 rfl; simpa [A8] using this)) a5;have hZ:=I.meet (G':=[]) (D':=[.own Q 202 az.size A,.own G 30 ac.size D,.own H 9 aL.str.size E]) (F':=[ao (HR az) A (A8 N [am m.d.k,aT m.d.t,.bool m.w,am m.i1,G,H]),ao ac D m.v,ao aL.str E m.e]) [0,1,2] (by decide) trivial ⟨rfl,rfl,rfl,trivial⟩ ⟨⟨0,rfl⟩,⟨1,rfl⟩,⟨2,rfl⟩,trivial⟩;exact⟨_,_,_,_,_,by rw [CG hix]; exact hZ.get 0 rfl,hZ.get 1 rfl,hZ.get 2 rfl,hZ.zd⟩
end
end Go.Proofs.YtcpplgcgcbihoaaGreatDoor
