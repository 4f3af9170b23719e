/- Texts of the proof, joined (5). -/
import Derived.Test.YtcpplgcgcbihoaaGreatDoorB1
import Derived.Test.YtcpplgcgcbihoaaGreatDoorB2
import Derived.Test.YtcpplgcgcbihoaaGreatDoorB4
import Derived.Test.YtcpplgcgcbihoaaGreatDoorB3
import Derived.Test.YtcpplgcgcbihoaaGreatDoorB0
set_option linter.unusedVariables false
set_option linter.unusedSimpArgs false
set_option linter.unusedSectionVars false
namespace Go.Proofs.YtcpplgcgcbihoaaGreatDoor
open Go.RowKit
section
set_option maxRecDepth 100000
set_option maxHeartbeats 4000000
variable (T:Nat->Prop) (L:World) (hT:TW T L)
include hT
noncomputable section
def ro (b:LR):=some (b)
def oh (b:Int) (c:LR):Option (Fl (LR×Int) (LR)):=some (.go (c,IntKind.i64.wrap (b+1)))
def ol (g:LR) (f:ah) (e:LR) (c:Int):=cond (decide (c<(g.length:Int))) ((bO g c).bind fun b=>cond (!(b.d.k==f.k&&b.d.t.toList==f.t.toList)) (gd (ce (e.length+([b]).length)) <| oh c (e++([b]))) (oh c e)) (some (.out e))
def qH (c:LR) (b:ah):=(loop (fun s:LR×Int=>ol c b s.1 s.2) (([]:List ay),0)).bind fun r=>ro r
theorem zV (f:LR) (e:ah) (z:Value) (P:aI aa T L z f) (y:LR) (B:qH f e=some y):bj aR No 144 [z,.agg (bm e).toArray] L (fun v w'=>∃ (K:Value) (dG:bK),v=K/\kJ aa T L w' [aK K dG] 33 K dG y):=by
 refine en Tryz.func144 Tryz.ntmps144 hT fun a I=>?_;replace I:=I.fS (aI.dn P);unfold qH at B;refine kB I fun h Y a w O I=>?_;refine al I fun a I=>?_;refine aN (J:=fun a w=>∃ (o:LR) (l:Value) (j:LV),St L No T 24 [(5,l)] [aK l j] [ap aa j o] a w/\ro o=some y) ?_ ?_
 ·refine al I fun a I=>?_;replace I:=I.zn aa 33 (by decide);obtain⟨r1,N,hMo1⟩:=bd B;refine bH _ (fun s a w=>∃ (g:LR) (c:Int) (q:Value) (m:LV),(g,c)=s/\St L No T 24 [(3,pt h 0),(5,q),(8,z),(9,am (f.length:Int)),(10,am c)] [aK q m,.box h (bm e) 30] [ap aa m g,aT aa z f] a w) N ⟨_,_,_,_,rfl,I.mt [0,1] [0,1]⟩ ?_;rintro s a w M ⟨g,c,q,m,rfl,I⟩ B hf1;have B:ol f e g c=some M:=B;unfold ol at B;refine al I fun a I=>?_;refine aA ?_;rcases cd B with⟨E,B⟩|⟨E,B⟩
  ·refine al I fun a I=>?_;refine aN (J:=fun a w=>∃ (p:LR) (r:Value) (n:LV),St L No T 24 [(3,pt h 0),(5,r),(8,z),(9,am (f.length:Int)),(10,am c)] [aK r n,.box h (bm e) 30] [ap aa n p,aT aa z f] a w/\oh c p=some M) ?_ ?_
   ·refine al I fun a I=>?_;obtain⟨b,A,B⟩:=bd B;refine wl rfl (bE (R:=aa) I qQ oy rfl rfl 1 rfl A rfl fun Q a0 W F a I=>?_);obtain⟨u,rfl,D⟩:=F;replace I:=I.fS D;refine kA I f0 fun S Z a w O I=>?_;refine go I fun a w I=>?_;refine wl rfl (ky (v:=.bool (!(b.d.k==e.k&&b.d.t.toList==e.t.toList))) I (CI I rfl rfl) rfl rfl fun a I=>?_);refine al I fun a I=>?_;rcases cd B with⟨G,B⟩|⟨G,B⟩
    ·refine al I fun a I=>?_;refine wl rfl (bf (ps:=[(0,.tmp 19)]) I tL f0 (zl:=[am 0,aU cr,aU cr,.slice none 0 0,am 0,am 0,am 0,.bool false]) (by kernel_rfl) rfl (us:=[(bA b u)]) ⟨rfl,trivial⟩ (ws:=(bA b u)) rfl rfl rfl rfl fun V a w O I=>?_);replace I:=(I.lit (R:=aa) (us:=(bA b u)) (xs:=[b]) 0 rfl (by decide) (aJ (R:=aa) (x:=b) (⟨_,rfl,I.g0⟩)) rfl rfl).zf (R:=aa) 0 rfl 0 rfl;obtain⟨H,B⟩:=aP B;refine wl rfl (bR (R:=aa) (xs:=g) (ys:=[b]) I tL (by decide) (by decide) rfl rfl 1 rfl 4 rfl 0 rfl H rfl fun a1 X a w O I=>?_);exact fz
    exact fz
   rintro a w ⟨p,r,n,I,B⟩;unfold oh at B;exact fz
  exact fz
 rintro a w ⟨o,l,j,I,B⟩;unfold ro at B;refine al I fun a I=>?_;cases B
 refine aH I rfl (aw I rfl aF) ?_;exact⟨l,j,rfl,I.zo ⟨.inr (aD (i:=0) rfl),trivial⟩ 0 rfl 0 rfl⟩
def sr (b:ao) (c:LR):=some ((ao.mk b.r b.i c))
def oR (c:Int) (b:LR):Option (Fl (Int×LR) (LR)):=some (.go (IntKind.i64.wrap (c+1),b))
def oS (f:fj) (b:Int) (c:LR):=cond (decide (b<(f.r1.length:Int))) ((bO f.r1 b).bind fun e=>(cX e.d).bind fun g=>cond g ((qH c e.d).bind fun h=>oR b h) (oR b c)) (some (.out c))
def pR (d:fj):=(gw d.b).bind fun c=>(loop (fun s:Int×LR=>oS d s.1 s.2) (0,c.s)).bind fun r=>sr c r
theorem C6 (c:fj) (v1 v2:Value) (v3 v4:Value) (A v6:Value) (a2:aI aC T L v1 c.a) (a3:aI ab T L v2 c.b.i) (a4:aI aa T L v3 c.b.s) (a5:aI ac T L v4 c.i1) (a6:aI aB T L A c.r1) (a7:aI ac T L v6 c.z) (y:ao) (B:pR c=some y):bj aR No 89 [.agg (xR c v1 v2 v3 v4 A v6).toArray] L (fun v w'=>∃ (H:Value) (Cq:bK) (K:Value) (s7:bK),v = .agg (bp y H K).toArray/\kJ ab T L w' [aZ H Cq,aK K s7] 91 H Cq y.i/\kJ aa T L w' [aZ H Cq,aK K s7] 33 K s7 y.s/\(∀ k,H.ownBlock=some k->K.ownBlock≠some k)):=by
 refine en Tryz.func89 Tryz.ntmps89 hT fun a I=>?_;replace I:=(((((I.fS (aI.dn a2)).fS (aI.dn a3)).fS (aI.dn a4)).fS (aI.dn a5)).fS (aI.dn a6)).fS (aI.dn a7);unfold pR at B;refine kB I fun av b5 a w O I=>?_;refine ka I kg fun h b6 a w O I=>?_;refine al I fun a I=>?_;obtain⟨f,N,B⟩:=bd B;refine kc I Cp (fE _ _ I.dlt c.b _ _ I.g4 I.g3 _ N) fun _ w C a O U=>?_;obtain⟨g,e,bl,b2,he,E,F,a0⟩:=C;obtain rfl:=he.symm;have I:=AC U E F a0;refine ka I kg fun j b7 a w O I=>?_;refine go I fun a w I=>?_;refine aN (J:=fun a w=>∃ (p:LR) (o:Value) (n:LV),St L No T 27 [(2,pt h 0),(3,pt j 0)] [.box h [am 0,.slice none 0 0,.slice none 0 0] 25,aZ g e,aK o n,.box j (bp f g o) 25] [ap ab e f.i,ap aa n p] a w/\sr f p=some y) ?_ ?_
 ·refine al I fun a I=>?_;obtain⟨r1,a1,hMo1⟩:=bd B;refine bH _ (fun s a w=>∃ (l:Int) (m:LR) (u:Value) (r:LV),(l,m)=s/\St L No T 27 [(2,pt h 0),(3,pt j 0),(10,A),(11,am (c.r1.length:Int)),(12,am l)] [.box h [am 0,.slice none 0 0,.slice none 0 0] 25,aZ g e,aK u r,.box j (bp f g u) 25] [aT aB A c.r1,ap ab e f.i,ap aa r m] a w) a1 ⟨_,_,_,_,rfl,I.mt [3,1,2,0] [3,1,0]⟩ ?_;rintro s a w Z ⟨l,m,u,r,rfl,I⟩ B hf1;have B:oS c l m=some Z:=B;unfold oS at B;refine al I fun a I=>?_;refine aA ?_;rcases cd B with⟨W,B⟩|⟨W,B⟩
  ·refine al I fun a I=>?_;refine aN (J:=fun a w=>∃ (q:LR) (x:Value) (t:LV),St L No T 27 [(2,pt h 0),(3,pt j 0),(10,A),(11,am (c.r1.length:Int)),(12,am l)] [.box h [am 0,.slice none 0 0,.slice none 0 0] 25,aZ g e,aK x t,.box j (bp f g x) 25] [aT aB A c.r1,ap ab e f.i,ap aa t q] a w/\oR l q=some Z) ?_ ?_
   ·refine al I fun a I=>?_;obtain⟨D,M,B⟩:=bd B;refine wl rfl (bE (R:=aB) I w8 xa rfl rfl 0 rfl M rfl fun b0 b9 b3 X a I=>?_);obtain⟨bs,bt,rfl,S,V⟩:=X;replace I:=(I.fS S).fS V;refine kA I vc fun b1 b8 a w O I=>?_;refine go I fun a w I=>?_;obtain⟨bb,P,B⟩:=bd B;refine kF I uG (du _ _ I.dlt D.d _ P) fun w a I=>?_;rcases cd B with⟨Y,B⟩|⟨Y,B⟩
    ·refine al I fun a I=>?_;replace I:=I.zf (R:=aa) 3 rfl 5 rfl;obtain⟨bi,Q,B⟩:=bd B;refine kc I OM (zV _ _ I.dlt m D.d _ I.g0 _ Q) fun _ w C a O U=>?_;obtain⟨c1,b4,he,G⟩:=C;obtain rfl:=he.symm;have I:=vd U G;exact fz
    exact fz
   rintro a w ⟨q,x,t,I,B⟩;unfold oR at B;exact fz
  exact fz
 rintro a w ⟨p,o,n,I,B⟩;unfold sr at B;refine go I fun a w I=>?_;cases B
 refine aH I rfl (rC 0 I) ?_;exact⟨g,e,o,n,rfl,I.zo ⟨.inr (aD (i:=1) rfl),⟨.inr (aD (i:=2) rfl),trivial⟩⟩ 1 rfl 0 rfl,I.zo ⟨.inr (aD (i:=1) rfl),⟨.inr (aD (i:=2) rfl),trivial⟩⟩ 2 rfl 1 rfl,(I.zp 1 rfl 2 rfl (by decide))⟩
def qI (b:ay):=some (IntKind.i64.wrap ((IntKind.i64.wrap ((IntKind.i64.wrap (16+(b.d.t.size:Int)))+(b.u.size:Int)))+(IntKind.i64.wrap (8*(b.v.length:Int)))))
theorem vC (b:ay) (d:Value) (c:aI ac T L d b.v) (y:Int) (B:qI b=some y):bj aR No 189 [.agg (bA b d).toArray] L (fun v w'=>v=am y):=by
 refine en Tryz.func189 Tryz.ntmps189 hT fun a I=>?_;replace I:=I.fS (aI.dn c);unfold qI at B;refine kB I fun e f a w O I=>?_;exact fz
def pX (e f:ay):=(qI e).bind fun b=>(qI f).bind fun c=>cond ((IntKind.i64.wrap (e.h*c):Int) != (IntKind.i64.wrap (f.h*b))) (some (decide ((IntKind.i64.wrap (e.h*c):Int)<(IntKind.i64.wrap (f.h*b))))) (cond (b != c) (some (decide (c<b))) ((kV e.d f.d).bind fun g=>some (decide (g<0))))
theorem C8 (hLv:fi T L) (b c:ay) (l m:Value) (j:aI ac T L l b.v) (k:aI ac T L m c.v) (y:Bool) (B:pX b c=some y):bj aR No 188 [.agg (bA b l).toArray,.agg (bA c m).toArray] L (fun v w'=>v = .bool y):=by
 refine en Tryz.func188 Tryz.ntmps188 hT fun a I=>?_;replace I:=((I.fact ci (fi.dn hLv)).fS (aI.dn j)).fS (aI.dn k);unfold pX at B;refine kB I fun n p a w O I=>?_;refine kb I fun o q a w O I=>?_;refine al I fun a I=>?_;refine aA ?_;refine dr [] I fun w hQ I=>?_;refine gE [0,2] I fun a I=>?_;obtain⟨r,e,B⟩:=bd B;refine ec 1 I K6 (vC _ _ I.dlt b _ I.g1 _ e) fun _ w C a O U=>?_;obtain rfl:=C;have I:=eL U;obtain⟨s,f,B⟩:=bd B;refine ec 3 I K6 (vC _ _ I.dlt c _ I.g0 _ f) fun _ w C a O U=>?_;obtain rfl:=C;have I:=eL U;refine gE [4,5] I fun a I=>?_;refine eD ?_;refine al I fun a I=>?_;refine aA ?_;refine al I fun a I=>?_;rcases cd B with⟨h,B⟩|⟨h,B⟩
 ·exact fz
 refine al I fun a I=>?_;rcases cd B with⟨i,B⟩|⟨i,B⟩
 ·exact fz
 refine al I fun a I=>?_;obtain⟨t,g,B⟩:=bd B;refine kE I HZ (mU _ _ I.dlt I.g2 b.d c.d _ g) fun w a I=>?_;exact fz
def tE (b:LR):=some (b)
def pY (b:Int) (c:LR):Option (Fl (LR×Int) (LR)):=some (.go (c,IntKind.i64.wrap (b+1)))
def pZ (d:LR) (g:Int) (c:ay) (e:Int):=(uV d 0 e).bind fun b=>(uV d e d.length).bind fun f=>gd (ce (([]:List ay).length+b.length)) <| gd (ce ((([]:List ay)++b).length+([c]).length)) <| gd (ce (((([]:List ay)++b)++([c])).length+f.length)) <| pY g (((([]:List ay)++b)++([c]))++f)
def p8 (c:LR) (d:ay) (b:Int):Option (Fl (Int) (Int)):=cond (decide (b<(c.length:Int))) ((bO c b).bind fun e=>(pX e d).bind fun f=>cond f (some (.go (IntKind.i64.wrap (b+1)))) (some (.out b))) (some (.out b))
def p9 (e c:LR) (b:Int):=cond (decide (b<(e.length:Int))) ((bO e b).bind fun d=>(loop (fun s:Int=>p8 c d s) 0).bind fun r=>pZ c b d r) (some (.out c))
def r8 (b:LR):=(loop (fun s:LR×Int=>p9 b s.1 s.2) (([]:List ay),0)).bind fun r=>tE r
theorem D8 (hLv:fi T L) (e:LR) (o:Value) (b8:aI aa T L o e) (y:LR) (B:r8 e=some y):bj aR No 145 [o] L (fun v w'=>∃ (v2:Value) (dG:bK),v=v2/\kJ aa T L w' [aK v2 dG] 33 v2 dG y):=by
 refine en Tryz.func145 Tryz.ntmps145 hT fun a I=>?_;replace I:=(I.fact ci (fi.dn hLv)).fS (aI.dn b8);unfold r8 at B;refine al I fun a I=>?_;refine aN (J:=fun a w=>∃ (G:LR) (u:Value) (q:LV),St L No T 40 [(3,u)] [aK u q] [ap aa q G,ci] a w/\tE G=some y) ?_ ?_
 ·refine al I fun a I=>?_;replace I:=I.zn aa 33 (by decide);obtain⟨r1,b6,hMo1⟩:=bd B;refine bH _ (fun s a w=>∃ (f:LR) (d:Int) (m:Value) (g:LV),(f,d)=s/\St L No T 40 [(3,m),(7,o),(8,am (e.length:Int)),(9,am d)] [aK m g] [ap aa g f,aT aa o e,ci] a w) b6 ⟨_,_,_,_,rfl,I.mt [0] [0,1,2]⟩ ?_;rintro s a w f1 ⟨f,d,m,g,rfl,I⟩ B hf1;have B:p9 e f d=some f1:=B;unfold p9 at B;refine al I fun a I=>?_;refine aA ?_;rcases cd B with⟨a6,B⟩|⟨a6,B⟩
  ·refine al I fun a I=>?_;refine aN (J:=fun a w=>∃ (H:LR) (K:Value) (z:LV),St L No T 40 [(3,K),(7,o),(8,am (e.length:Int)),(9,am d)] [aK K z] [ap aa z H,aT aa o e,ci] a w/\pY d H=some f1) ?_ ?_
   ·refine al I fun a I=>?_;obtain⟨b,V,B⟩:=bd B;refine wl rfl (bE (R:=aa) I qQ oy rfl rfl 1 rfl V rfl fun b9 c4 bl a7 a I=>?_);obtain⟨c,rfl,a0⟩:=a7;replace I:=I.fS a0;refine kA I f0 fun p c3 a w O I=>?_;refine go I fun a w I=>?_;refine aN (J:=fun a w=>∃ (F:Int),St L No T 40 [(3,m),(5,pt p 0),(6,am F),(7,o),(8,am (e.length:Int)),(9,am d)] [aK m g,.box p (bA b c) 33] [ap aa g f,aT aa o e,aT ac c b.v,ci] a w/\pZ f d b F=some f1) ?_ ?_
    ·refine al I fun a I=>?_;obtain⟨r2,b7,hMo2⟩:=bd B;refine bH _ (fun s a w=>∃ (t:Int),t=s/\St L No T 40 [(3,m),(5,pt p 0),(6,am t),(7,o),(8,am (e.length:Int)),(9,am d)] [aK m g,.box p (bA b c) 33] [ap aa g f,aT aa o e,aT ac c b.v,ci] a w) b7 ⟨_,rfl,I.mt [1,0] [2,3,0,4]⟩ ?_;rintro s a w f2 ⟨t,rfl,I⟩ B hf2;have B:p8 f b t=some f2:=B;unfold p8 at B;refine aA ?_;refine aA ?_;refine dr [] I fun w hQ I=>?_;refine gE [0,1,2,3,4] I fun a I=>?_;rcases cd B with⟨r,B⟩|⟨r,B⟩
     ·refine gE [5,6] I fun a I=>?_;obtain⟨A,W,B⟩:=bd B;obtain⟨a2,b0,c5,bs,a9,af,ag,ak⟩:=n5 (R:=aa) I qQ oy 0 rfl 0 rfl W;obtain⟨S,rfl,a1⟩:=a9;replace I:=I.fS a1;refine dg 7 I r (v:=pt a2 b0) (ak rfl rfl) fun a I=>?_;refine dg 8 I r (l:=[]) (v:=.agg (bA A S).toArray) (cK (k:=0) I oy 0 rfl af ag rfl cc (us:=(bA A S)) rfl rfl (fun h=>by cases h)) fun a I=>?_;refine gE [9] I fun a I=>?_;obtain⟨c6,Z,B⟩:=bd B;refine ey (i:=10) rfl (by kernel_rfl) I rfl rfl rfl r (bP I RH rfl rfl (C8 _ _ I.dlt I.g4 A b _ _ I.g0 I.g3 _ Z) fun _ w C a O U=>⟨iJ (O),?_⟩);obtain rfl:=C;have I:=eL U;refine gE [11] I fun a I=>?_;refine eD ?_;exact fz
     refine gE [5,6,7,8,9,10,11] I fun a I=>?_;refine eD ?_;exact fz
    rintro a w ⟨F,I,B⟩;unfold pZ at B;replace I:=I.zn aa 33 (by decide);refine dr [(3,.blk (Value.ownBlock (.slice none 0 0))),(6,.any),(10,.any)] I fun w hQ I=>?_;refine gE [0,1] I fun a I=>?_;obtain⟨n,X,B⟩:=bd B;obtain⟨b1,M,an⟩:=yB (R:=aa) I qQ oy 1 rfl 1 rfl X;refine dq 2 I (v:=b1) (an (k1:=.i64) rfl (.inr ⟨rfl,rfl⟩) (.inl ⟨_,rfl,rfl⟩)) fun a I=>?_;refine dq 4 I (l:=[.blk (Value.ownBlock (.slice none 0 0))]) (v:=.agg (bA b c).toArray) (eA I rfl oy 2 rfl (iU I 2 rfl rfl 0 rfl rfl (by decide) cc) (us:=(bA b c)) rfl rfl (fun h=>by cases h)) fun a I=>?_;refine gE [7,8] I fun a I=>?_;obtain⟨Q,Y,B⟩:=bd B;obtain⟨b2,N,av⟩:=yB (R:=aa) I qQ oy 1 rfl 1 rfl Y;refine dq 9 I (v:=b2) (av (k2:=.i64) rfl (.inl ⟨_,rfl,rfl⟩) (.inr ⟨rfl,rfl⟩)) fun a I=>?_;obtain⟨P,B⟩:=aP B;refine fa (i:=3) (j:=5) rfl rfl (by kernel_rfl) rfl rfl ?_ ?_
    ·skip;replace I:=I.zf (R:=aa) 1 rfl 1 rfl;replace I:=I.fS (M _ _ I.g0);refine id (bR (R:=aa) (xs:=([]:List ay)) (ys:=n) I tL (by decide) (by decide) rfl rfl 0 rfl 2 rfl 0 rfl P rfl fun c9 bt a w O I=>⟨lw rfl O kL,?_⟩);refine e1 5 (bf (ps:=[(0,.tmp 31)]) I tL f0 (zl:=[am 0,aU cr,aU cr,.slice none 0 0,am 0,am 0,am 0,.bool false]) (by kernel_rfl) rfl (us:=[(bA b c)]) ⟨rfl,trivial⟩ (ws:=(bA b c)) rfl rfl rfl rfl fun bb a w O I=>⟨iJ (O),?_⟩);replace I:=(I.lit (R:=aa) (us:=(bA b c)) (xs:=[b]) 0 rfl (by decide) (aJ (R:=aa) (x:=b) (⟨_,rfl,I.g6⟩)) rfl rfl).zf (R:=aa) 0 rfl 0 rfl;obtain⟨D,B⟩:=aP B;refine e1 6 (bR (R:=aa) (xs:=(([]:List ay)++n)) (ys:=[b]) I tL (by decide) (by decide) rfl rfl 0 rfl 2 rfl 0 rfl D rfl fun b3 a3 a w O I=>⟨lw rfl O tP,?_⟩);replace I:=I.fS (N _ _ I.g5);obtain⟨E,B⟩:=aP B;refine e1 10 (bR (R:=aa) (xs:=((([]:List ay)++n)++([b]))) (ys:=Q) I tL (by decide) (by decide) rfl rfl 0 rfl 1 rfl 0 rfl E rfl fun b4 a4 a w O I=>⟨lw rfl O tP,?_⟩);refine gE [11] I fun a I=>?_;refine eD ?_;exact fin
    skip;refine id (bf (ps:=[(0,.tmp 31)]) I tL f0 (zl:=[am 0,aU cr,aU cr,.slice none 0 0,am 0,am 0,am 0,.bool false]) (by kernel_rfl) rfl (us:=[(bA b c)]) ⟨rfl,trivial⟩ (ws:=(bA b c)) rfl rfl rfl rfl fun bi a w O I=>⟨iJ (O),?_⟩);replace I:=I.zf (R:=aa) 2 rfl 1 rfl;replace I:=I.fS (M _ _ I.g0);refine e1 3 (bR (R:=aa) (xs:=([]:List ay)) (ys:=n) I tL (by decide) (by decide) rfl rfl 1 rfl 2 rfl 0 rfl P rfl fun ca c1 a w O I=>⟨lw rfl O kL,?_⟩);replace I:=(I.lit (R:=aa) (us:=(bA b c)) (xs:=[b]) 0 rfl (by decide) (aJ (R:=aa) (x:=b) (⟨_,rfl,I.g6⟩)) rfl rfl).zf (R:=aa) 0 rfl 0 rfl;obtain⟨D,B⟩:=aP B;refine e1 6 (bR (R:=aa) (xs:=(([]:List ay)++n)) (ys:=[b]) I tL (by decide) (by decide) rfl rfl 0 rfl 2 rfl 0 rfl D rfl fun b3 a3 a w O I=>⟨lw rfl O tP,?_⟩);replace I:=I.fS (N _ _ I.g5);obtain⟨E,B⟩:=aP B;refine e1 10 (bR (R:=aa) (xs:=((([]:List ay)++n)++([b]))) (ys:=Q) I tL (by decide) (by decide) rfl rfl 0 rfl 1 rfl 0 rfl E rfl fun b4 a4 a w O I=>⟨lw rfl O tP,?_⟩);refine gE [11] I fun a I=>?_;refine eD ?_;exact fin
   rintro a w ⟨H,K,z,I,B⟩;unfold pY at B;exact fz
  exact fz
 rintro a w ⟨G,u,q,I,B⟩;unfold tE at B;refine al I fun a I=>?_;cases B
 refine aH I rfl (aw I rfl aF) ?_;exact⟨u,q,rfl,I.zo ⟨.inr (aD (i:=0) rfl),trivial⟩ 0 rfl 0 rfl⟩
def tD (b:Int):=some (b)
def pW (d:LR) (c b:Int):Option (Fl (Int×Int) (Int)):=cond (decide (b<(d.length:Int))) ((bO d b).bind fun e=>(qI e).bind fun f=>some (.go (IntKind.i64.wrap (c+f),IntKind.i64.wrap (b+1)))) (some (.out c))
def r7 (b:LR):=(loop (fun s:Int×Int=>pW b s.1 s.2) (0,0)).bind fun r=>tD r
theorem D7 (d:LR) (i:Value) (n:aI aa T L i d) (y:Int) (B:r7 d=some y):bj aR No 146 [i] L (fun v w'=>v=am y):=by
 refine en Tryz.func146 Tryz.ntmps146 hT fun a I=>?_;replace I:=I.fS (aI.dn n);unfold r7 at B;refine al I fun a I=>?_;refine aN (J:=fun a w=>∃ (e:Int),St L No T 18 [(3,am e)] [] [] a w/\tD e=some y) ?_ ?_
 ·refine al I fun a I=>?_;obtain⟨A,m,hMo1⟩:=bd B;refine bH _ (fun s a w=>∃ (c b:Int),(c,b)=s/\St L No T 18 [(3,am c),(6,i),(7,am (d.length:Int)),(8,am b)] [] [aT aa i d] a w) m ⟨_,_,rfl,I.mt [] [0]⟩ ?_;rintro s a w r ⟨c,b,rfl,I⟩ B hf1;have B:pW d c b=some r:=B;unfold pW at B;refine al I fun a I=>?_;refine aA ?_;rcases cd B with⟨k,B⟩|⟨k,B⟩
  ·refine al I fun a I=>?_;refine aA ?_;refine al I fun a I=>?_;obtain⟨j,f,B⟩:=bd B;refine wl rfl (bE (R:=aa) I qQ oy rfl rfl 0 rfl f rfl fun o u q l a I=>?_);obtain⟨z,rfl,h⟩:=l;replace I:=I.fS h;refine kA I f0 fun p t a w O I=>?_;refine go I fun a w I=>?_;obtain⟨x,g,B⟩:=bd B;refine kE I K6 (vC _ _ I.dlt j _ I.g0 _ g) fun w a I=>?_;exact fz
  exact fz
 rintro a w ⟨e,I,B⟩;unfold tD at B;exact fz
def pU (b:ao) (c:LK) (d:LR):Option (ao×LK×Int):=some (((ao.mk b.r b.i d),c,0))
def ne (b:Int) (c:LK) (d:LR):Option (Fl (LK×Int×LR) (LK×LR)):=some (.go (c,IntKind.i64.wrap (b+1),d))
def lb (c:LK) (e:Int) (f:LR) (b:ay) (g:Bool):=cond g ((qH f b.d).bind fun h=>gd (ce (c.length+([b.d]).length)) <| ne e (c++([b.d])) h) (ne e c f)
def pV (g:Int) (i:LK) (h:LR) (f:LK) (b:Int) (c:LR):=cond (decide (b<(h.length:Int))) ((bO h b).bind fun e=>(r7 c).bind fun j=>cond (decide (g<j)) ((qF i e.d).bind fun k=>lb f b c e (!(k))) (lb f b c e false)) (some (.out (f,c)))
def r6 (c:ao) (b:Int) (e:LK):=(ge c).bind fun g=>cond (!(g)) (some (((ao.mk 0 ([]:List bc) ([]:List ay)),([]:List ah),42))) (cond (decide (b<0)) (some (((ao.mk 0 ([]:List bc) ([]:List ay)),([]:List ah),2))) (cond (decide ((1073741824:Int)<b)) (some (((ao.mk 0 ([]:List bc) ([]:List ay)),([]:List ah),2))) ((gw c).bind fun d=>(r8 c.s).bind fun f=>(loop (fun s:LK×Int×LR=>pV b e f s.1 s.2.1 s.2.2) (([]:List ah),0,d.s)).bind fun r=>pU d r.1 r.2)))
theorem D6 (z:ao) (e:Int) (j:LK) (v1 v2 N:Value) (hD:sS T L []) (c3:aI ab (dT T []) L v1 z.i) (c4:aI aa (dT T []) L v2 z.s) (c5:aI ac (dT T []) L N j) (hLv:fi (dT T []) L) (y:ao×LK×Int) (B:r6 z e j=some y):bj aR (MD []) 90 [.agg (bp z v1 v2).toArray,am e,N] L (fun v w'=>∃ (v4:Value) (vl:bK) (v6:Value) (sT:bK) (v8:Value) (KI:bK),v = .tuple #[.agg (bp y.1 v4 v6).toArray,v8,am y.2.2]/\aY ab (dT T [aZ v4 vl,aK v6 sT,aE v8 KI]) w' vl y.1.i/\aY aa (dT T [aZ v4 vl,aK v6 sT,aE v8 KI]) w' sT y.1.s/\aY ac (dT T [aZ v4 vl,aK v6 sT,aE v8 KI]) w' KI y.2.1/\iq L w' [] [aZ v4 vl,aK v6 sT,aE v8 KI]):=by
 refine cW (c:=_) Tryz.func90 rfl T 62 Tryz.ntmps90 hT rfl hD fun a I=>?_;replace I:=(((I.fact ci hLv).fS c3).fS c4).fS c5;unfold r6 at B;refine kB I fun ca d1 a w O I=>?_;refine ka I kg fun n d2 a w O I=>?_;refine al I fun a I=>?_;refine aA ?_;refine al I fun a I=>?_;obtain⟨dl,b3,B⟩:=bd B;refine kF I Ns (rr _ _ I.dlt I.g3 z _ _ I.g2 I.g1 _ b3) fun w a I=>?_;rcases cd B with⟨b6,B⟩|⟨b6,B⟩
 ·refine al I fun a I=>?_;refine qy I (br (ps:=[]) I yN kg rfl (us:=[]) trivial (ws:=[am 0,.slice none 0 0,.slice none 0 0]) rfl) fun a I=>?_;refine go I fun a w I=>?_;replace I:=((I.zn ab 91 (by decide)).zn aa 33 (by decide)).zn ac 30 (by decide);cases B
  refine aH I Tryz.results90 (bB I rfl 3 rfl gN rfl (fun h=>by cases h) (aw I rfl (aw I rfl aF))) ?_;have hZ:=I.sl [2,1,0] [2,1,0];exact⟨(.slice none 0 0),[],(.slice none 0 0),[],(.slice none 0 0),[],rfl,hZ.g0,hZ.g1,hZ.g2,hZ.zd⟩
 refine al I fun a I=>?_;refine dW ?_;refine al I fun a I=>?_;rcases cd B with⟨b7,B⟩|⟨b7,B⟩
 ·refine al I fun a I=>?_;refine qy I (br (ps:=[]) I yN kg rfl (us:=[]) trivial (ws:=[am 0,.slice none 0 0,.slice none 0 0]) rfl) fun a I=>?_;refine go I fun a w I=>?_;replace I:=((I.zn ab 91 (by decide)).zn aa 33 (by decide)).zn ac 30 (by decide);cases B
  refine aH I Tryz.results90 (bB I rfl 3 rfl gN rfl (fun h=>by cases h) (aw I rfl (aw I rfl aF))) ?_;have hZ:=I.sl [2,1,0] [2,1,0];exact⟨(.slice none 0 0),[],(.slice none 0 0),[],(.slice none 0 0),[],rfl,hZ.g0,hZ.g1,hZ.g2,hZ.zd⟩
 refine al I fun a I=>?_;rcases cd B with⟨b8,B⟩|⟨b8,B⟩
 ·refine al I fun a I=>?_;refine qy I (br (ps:=[]) I yN kg rfl (us:=[]) trivial (ws:=[am 0,.slice none 0 0,.slice none 0 0]) rfl) fun a I=>?_;refine go I fun a w I=>?_;replace I:=((I.zn ab 91 (by decide)).zn aa 33 (by decide)).zn ac 30 (by decide);cases B
  refine aH I Tryz.results90 (bB I rfl 3 rfl gN rfl (fun h=>by cases h) (aw I rfl (aw I rfl aF))) ?_;have hZ:=I.sl [2,1,0] [2,1,0];exact⟨(.slice none 0 0),[],(.slice none 0 0),[],(.slice none 0 0),[],rfl,hZ.g0,hZ.g1,hZ.g2,hZ.zd⟩
 refine al I fun a I=>?_;obtain⟨f,an,B⟩:=bd B;refine kc I Cp (fE _ _ I.dlt z _ _ I.g2 I.g1 _ an) fun _ w C a O U=>?_;obtain⟨m,g,dn,cl,he,a4,a5,c1⟩:=C;obtain rfl:=he.symm;have I:=AC U a4 a5 c1;refine ka I kg fun o d3 a w O I=>?_;refine go I fun a w I=>?_;refine aN (J:=fun a w=>∃ (S:LK) (X:LR) (K:Value) (G:LV) (M:Value) (H:LV),St L (MD []) T 62 [(6,pt n 0),(9,pt o 0),(10,K)] [aE K G,.box n [am 0,.slice none 0 0,.slice none 0 0] 25,aZ m g,aK M H,.box o (bp f m M) 25] [ap ac G S,ap ab g f.i,ap aa H X,ci] a w/\pU f S X=some y) ?_ ?_
 ·refine al I fun a I=>?_;obtain⟨r,b0,B⟩:=bd B;refine kc I Rk (D8 _ _ I.dlt I.g5 z.s _ I.g3 _ b0) fun _ w C a O U=>?_;obtain⟨u,t,he,a6⟩:=C;obtain rfl:=he.symm;have I:=vd U a6;refine al I fun a I=>?_;replace I:=I.zn ac 30 (by decide);obtain⟨r1,c2,hMo1⟩:=bd B;refine bH _ (fun s a w=>∃ (q:LK) (p:Int) (l:LR) (E:Value) (A:LV) (F:Value) (D:LV),(q,p,l)=s/\St L (MD []) T 62 [(1,am e),(2,N),(6,pt n 0),(9,pt o 0),(10,E),(30,u),(31,am (r.length:Int)),(32,am p)] [aE E A,aK u t,.box n [am 0,.slice none 0 0,.slice none 0 0] 25,aZ m g,aK F D,.box o (bp f m F) 25] [aT ac N j,ap ac A q,ap aa t r,ap ab g f.i,ap aa D l,ci] a w) c2 ⟨_,_,_,_,_,_,_,rfl,I.mt [0,1,5,3,4,2] [4,0,1,3,2,7]⟩ ?_;rintro s a w f1 ⟨q,p,l,E,A,F,D,rfl,I⟩ B hf1;have B:pV e j r q p l=some f1:=B;unfold pV at B;refine al I fun a I=>?_;refine aA ?_;rcases cd B with⟨b9,B⟩|⟨b9,B⟩
  ·refine al I fun a I=>?_;refine aN (J:=fun a w=>∃ (V:LK) (Y:LR) (Z:Value) (P:LV) (a0:Value) (Q:LV),St L (MD []) T 62 [(1,am e),(2,N),(6,pt n 0),(9,pt o 0),(10,Z),(30,u),(31,am (r.length:Int)),(32,am p)] [aE Z P,aK u t,.box n [am 0,.slice none 0 0,.slice none 0 0] 25,aZ m g,aK a0 Q,.box o (bp f m a0) 25] [aT ac N j,ap ac P V,ap aa t r,ap ab g f.i,ap aa Q Y,ci] a w/\ne p V Y=some f1) ?_ ?_
   ·refine al I fun a I=>?_;obtain⟨b,ak,B⟩:=bd B;refine wl rfl (fo (R:=aa) I qQ oy rfl rfl 1 rfl 2 rfl ak rfl fun ch d5 d6 cs bb bi bl a I=>?_);obtain⟨a1,rfl,b4⟩:=bb;replace I:=I.fS b4;refine qy I (cK (k:=0) I oy 1 rfl bi bl rfl id (us:=(bA b a1)) rfl rfl (fun h=>by cases h)) fun a I=>?_;refine ka I f0 fun a2 d4 a w O I=>?_;refine go I fun a w I=>?_;refine aN (J:=fun a w=>∃ (W:Bool),St L (MD []) T 62 [(1,am e),(2,N),(6,pt n 0),(9,pt o 0),(10,E),(12,pt a2 0),(30,u),(31,am (r.length:Int)),(32,am p),(47,.bool W)] [aE E A,aK u t,.box n [am 0,.slice none 0 0,.slice none 0 0] 25,aZ m g,aK F D,.box o (bp f m F) 25,.box a2 (bA b a1) 33] [aT ac N j,ap ac A q,ap aa t r,ap ab g f.i,ap aa D l,aT ac a1 b.v,ci] a w/\lb q p l b W=some f1) ?_ ?_
    ·refine al I fun a I=>?_;have hL:=I;replace hL:=hL.zf (R:=aa) 5 rfl 5 rfl;obtain⟨d8,b1,B⟩:=bd B;refine kF I Rl (D7 _ _ hL.dlt l _ hL.g0 _ b1) fun w a I=>?_;rcases cd B with⟨a3,B⟩|⟨a3,B⟩
     ·refine al I fun a I=>?_;obtain⟨d9,b2,B⟩:=bd B;refine wg I rfl rfl rfl a3 (bP I PM rfl rfl (wM _ _ I.dlt j b.d _ I.g1 _ b2) fun _ w C a O U=>?_);obtain rfl:=C;have I:=eL U;exact fz
     exact fz
    rintro a w ⟨W,I,B⟩;unfold lb at B;rcases cd B with⟨bs,B⟩|⟨bs,B⟩
    ·refine al I fun a I=>?_;replace I:=I.zf (R:=aa) 4 rfl 4 rfl;obtain⟨d7,av,B⟩:=bd B;refine kc I OM (zV _ _ I.dlt l b.d _ I.g0 _ av) fun _ w C a O U=>?_;obtain⟨ds,cv,he,a7⟩:=C;obtain rfl:=he.symm;have I:=vd U a7;refine go I fun a w I=>?_;refine wl rfl (bf (ps:=[(0,.tmp 56)]) I lr iS (zl:=[am 0,aU cr]) (by kernel_rfl) rfl (us:=[(bm b.d)]) ⟨rfl,trivial⟩ (ws:=(bm b.d)) rfl rfl rfl rfl fun ck a w O I=>?_);replace I:=(I.lit (R:=ac) (us:=(bm b.d)) (xs:=[b.d]) 0 rfl (by decide) (aJ (R:=ac) (x:=b.d) rfl) rfl rfl).zf (R:=ac) 0 rfl 0 rfl;obtain⟨bt,B⟩:=aP B;refine wl rfl (bR (R:=ac) (xs:=q) (ys:=[b.d]) I lr (by decide) (by decide) rfl rfl 1 rfl 5 rfl 0 rfl bt rfl fun e0 d0 a w O I=>?_);exact fz
    refine al I fun a I=>?_;exact⟨_,_,_,_,_,_,I.mt [0,1,2,3,4,5] [0,1,2,3,4,6],B⟩
   rintro a w ⟨V,Y,Z,P,a0,Q,I,B⟩;unfold ne at B;refine al I fun a I=>?_;exact⟨_,(cC B).symm,_,_,_,_,_,_,_,rfl,I.mt [0,1,2,3,4,5] [0,1,2,3,4,5]⟩
  refine al I fun a I=>?_;cases B
  have hr:=hf1 _ rfl;subst hr;have B:pU f q l=some y:=hMo1;exact⟨_,_,_,_,_,_,I.mt [0,2,3,4,5] [1,3,4,5],B⟩
 rintro a w ⟨S,X,K,G,M,H,I,B⟩;unfold pU at B;refine go I fun a w I=>?_;cases B
 refine aH I Tryz.results90 (bB I rfl 1 rfl gN rfl (fun h=>by cases h) (aw I rfl (aw I rfl aF))) ?_;have hZ:=I.sl [2,3,0] [1,2,0];exact⟨m,g,M,H,K,G,rfl,hZ.g0,hZ.g1,hZ.g2,hZ.zd⟩
end
end
section
set_option maxRecDepth 100000
set_option maxHeartbeats 4000000
variable (T:Nat->Prop) (L:World) (hT:TW T L)
include hT
noncomputable section
def q9 (b:Int) (c:LI) (d:LR) (e:LN) (f:Int):=some (((ao.mk b c d),(bv.mk e f)))
def eX (g:Int) (e:LN) (f b:Int) (c:LI) (d:LR):Option (Fl (Int×LN×Int×Int×LI×LR) (Int×LI×LR×LN×Int)):=some (.go (IntKind.i64.wrap (g-1),e,f,b,c,d))
def rb (h j:Int) (k:LI) (l:LR) (m:Int) (f:LN) (g:Int) (n:LU) (o:Int) (p:LI) (q:LR) (t:LK) (u:LF) (v:LK):=cond (m==0) ((cz (bv.mk f g) 30).bind fun d=>(uS vv (fj.mk n (ao.mk o p q) t u v) d.1).bind fun c=>(pR (fj.mk c.1.a (ao.mk c.1.b.r c.1.b.i c.1.b.s) c.1.i1 c.1.r1 c.1.z)).bind fun e=>eX h d.2.L d.2.s1 e.r e.i e.s) (eX h f g j k l)
def kh (e:LU) (j f:Int) (g:LI) (h:LR) (c:(Int×bv)) (u:Bool):=cond u ((lD (bv.mk c.2.L c.2.s1) 2).bind fun l=>(m5 (ao.mk f g h) l.1).bind fun m=>eX j l.2.L l.2.s1 m.1.r m.1.i m.1.s) (cond (c.1==3) ((o0 (bv.mk c.2.L c.2.s1) e 2).bind fun n=>(rY e (ao.mk f g h) n.1).bind fun d=>rb j f g h d.2 n.2.L n.2.s1 d.1.a d.1.b.r d.1.b.i d.1.b.s d.1.i1 d.1.r1 d.1.z) (cond (c.1==4) ((cz (bv.mk c.2.L c.2.s1) 3).bind fun k=>cond (k.1==0) ((cz (bv.mk k.2.L k.2.s1) 200).bind fun o=>(r6 (ao.mk f g h) o.1 ([])).bind fun p=>eX j o.2.L o.2.s1 p.1.r p.1.i p.1.s) (eX j k.2.L k.2.s1 f g h)) ((o0 (bv.mk c.2.L c.2.s1) e 2).bind fun q=>(mx uu e (ao.mk f g h) q.1).bind fun t=>eX j q.2.L q.2.s1 t.1.r t.1.i t.1.s)))
def rc (c:LU) (g:Int) (h:LN) (i d:Int) (e:LI) (f:LR):=cond (decide ((0:Int)<g)) ((cz (bv.mk h i) 8).bind fun b=>cond (b.1==0) (kh c g d e f b (b.1==0)) (cond (b.1==1) (kh c g d e f b (b.1==1)) (kh c g d e f b (b.1==2)))) (some (.out (d,e,f,h,i)))
def qC (f:bv) (d:LU) (c:ao) (e:Int):=(cz f (IntKind.i64.wrap (e+1))).bind fun b=>(loop (fun s:Int×LN×Int×Int×LI×LR=>rc d s.1 s.2.1 s.2.2.1 s.2.2.2.1 s.2.2.2.2.1 s.2.2.2.2.2) (b.1,b.2.L,b.2.s1,c.r,c.i,c.s)).bind fun r=>q9 r.1 r.2.1 r.2.2.1 r.2.2.2.1 r.2.2.2.2
theorem zO (D:bv) (e:LU) (ea:ao) (b2:Int) (q v3:Value) (v4 v5:Value) (f:Nat) (ks:L.heap[f]? = some (.cells (bu D q).toArray 84 (0,0))) (jb:¬ T f) (kx:aI (aO.int .i64) (dT T [.box f (bu D q) 84]) L q D.L) (l0:aI aC (dT T [.box f (bu D q) 84]) L v3 e) (l1:aI ab (dT T [.box f (bu D q) 84]) L v4 ea.i) (l2:aI aa (dT T [.box f (bu D q) 84]) L v5 ea.s) (hLv:fi (dT T [.box f (bu D q) 84]) L) (y:ao×bv) (B:qC D e ea b2=some y):bj aR (fun k=>k=f) 27 [pt f 0,v3,.agg (bp ea v4 v5).toArray,am b2] L (fun v w'=>∃ (v6 v7 v8:Value),v = .agg (bp y.1 v6 v7).toArray/\aI ab (dT T [.box f (bu y.2 v8) 84]) w' v6 y.1.i/\aI aa (dT T [.box f (bu y.2 v8) 84]) w' v7 y.1.s/\w'.heap[f]? = some (.cells (bu y.2 v8).toArray 84 (0,0))/\aI (aO.int .i64) (dT T [.box f (bu y.2 v8) 84]) w' v8 y.2.L/\q=v8):=by
 refine oZ (c:=_) Tryz.func27 rfl T 80 Tryz.ntmps27 hT rfl ks jb fun a I=>?_;replace I:=((((I.fact ci hLv).fS kx).fS l0).fS l1).fS l2;unfold qC at B;refine kB I fun t nl a w O I=>?_;refine ka I kg fun u nm a w O I=>?_;refine al I fun a I=>?_;refine aN (J:=fun a w=>∃ (bl:Int) (bs:LI) (bt:LR) (d1:LN) (d2:Int) (b9 bb:Value),St L (fun k=>k=f) T 80 [(6,pt t 0),(8,pt u 0)] [.box t [am bl,b9,bb] 25,.box u [am 0,.slice none 0 0,.slice none 0 0] 25,.box f [q,am d2] 84] [aT ab b9 bs,aT aa bb bt,aT (aO.int .i64) q d1,ci] a w/\q9 bl bs bt d1 d2=some y) ?_ ?_
 ·refine al I fun a I=>?_;obtain⟨js,hE,B⟩:=bd B;refine wl rfl (bJ I oX rfl rfl 2 rfl (bU _ _ (I.drop 2).dlt D (IntKind.i64.wrap (b2+1)) _ _ (I.zb 2 rfl) (I.zi 2 rfl) (aI.lent (i:=2) rfl I.g3) _ hE) fun _ w C O=>?_);obtain⟨ok,he,hrow,f3,a6⟩:=C;obtain rfl:=he.symm;subst a6;refine⟨(bu js.2 q),hrow,fun a I=>?_⟩;replace I:=I.fS (aI.back (i:=2) rfl f3);refine al I fun a I=>?_;obtain⟨r1,kt,hMo1⟩:=bd B;refine bH _ (fun s a w=>∃ (x:Int) (E:LN) (F d:Int) (g:LI) (m:LR) (o p:Value),(x,E,F,d,g,m)=s/\St L (fun k=>k=f) T 80 [(0,pt f 0),(1,v3),(6,pt t 0),(8,pt u 0),(9,am x)] [.box f [q,am F] 84,.box t [am d,o,p] 25,.box u [am 0,.slice none 0 0,.slice none 0 0] 25] [aT aC v3 e,aT (aO.int .i64) q E,aT ab o g,aT aa p m,ci] a w) kt ⟨_,_,_,_,_,_,_,_,rfl,I.mt [2,1,0] [3,0,2,1,5]⟩ ?_;rintro s a w f1 ⟨x,E,F,d,g,m,o,p,rfl,I⟩ B hf1;have B:rc e x E F d g m=some f1:=B;unfold rc at B;refine aA ?_;refine al I fun a I=>?_;rcases cd B with⟨hX,B⟩|⟨hX,B⟩
  ·refine al I fun a I=>?_;refine aN (J:=fun a w=>∃ (d3:LN) (d9 c1:Int) (c2:LI) (c3:LR) (e2 e3:Value),St L (fun k=>k=f) T 80 [(0,pt f 0),(1,v3),(6,pt t 0),(8,pt u 0),(9,am x)] [.box f [q,am d9] 84,.box t [am c1,e2,e3] 25,.box u [am 0,.slice none 0 0,.slice none 0 0] 25] [aT aC v3 e,aT (aO.int .i64) q d3,aT ab e2 c2,aT aa e3 c3,ci] a w/\eX x d3 d9 c1 c2 c3=some f1) ?_ ?_
   ·refine al I fun a I=>?_;obtain⟨n,hw,B⟩:=bd B;refine wl rfl (bJ I oX rfl rfl 0 rfl (bU _ _ (I.drop 0).dlt (bv.mk E F) 8 _ _ (I.zb 0 rfl) (I.zi 0 rfl) (aI.lent (i:=0) rfl I.g1) _ hw) fun _ w C O=>?_);obtain⟨op,he,hrow,f4,a7⟩:=C;obtain rfl:=he.symm;subst a7;refine⟨(bu n.2 q),hrow,fun a I=>?_⟩;replace I:=I.fS (aI.back (i:=0) rfl f4);refine al I fun a I=>?_;refine aN (J:=fun a w=>∃ (dn:Bool),St L (fun k=>k=f) T 80 [(0,pt f 0),(1,v3),(6,pt t 0),(8,pt u 0),(9,am x),(21,am n.1),(32,.bool dn)] [.box f (bu n.2 q) 84,.box t [am d,o,p] 25,.box u [am 0,.slice none 0 0,.slice none 0 0] 25] [aT aC v3 e,aT (aO.int .i64) q n.2.L,aT ab o g,aT aa p m,ci] a w/\kh e x d g m n dn=some f1) ?_ ?_
    ·exact fz
    rintro a w ⟨dn,I,B⟩;unfold kh at B;rcases cd B with⟨hY,B⟩|⟨hY,B⟩
    ·refine al I fun a I=>?_;refine dr [(2,.blk (some f)),(7,.blk (some t))] I fun w hQ I=>?_;refine dq 0 I (l:=[.blk (some f)]) (v:=.agg #[am d,o,p]) (eA I rfl gN 1 rfl (iU I 1 rfl rfl 0 rfl rfl (by decide) cc) (us:=[am d,o,p]) rfl rfl (fun h=>by cases h)) fun a I=>?_;refine gE [1] I fun a I=>?_;obtain⟨hn,hx,B⟩:=bd B;refine e1 2 (n9 I PL rfl rfl 0 rfl (tr _ _ (I.drop 0).dlt (bv.mk n.2.L n.2.s1) 2 _ _ (I.zb 0 rfl) (I.zi 0 rfl) (aI.lent (i:=0) rfl I.g1) (ci.keep I.g4 (aj _ _) (fun k O=>.inl ((nO (i:=0) rfl k).1 O))) _ hx) fun _ w C O=>?_);obtain⟨e4,c4,os,he,⟨ew,eo,f5⟩,hrow,f6,a9⟩:=C;obtain rfl:=he.symm;subst a9;refine⟨(bu hn.2 q),[kT e4 c4],hrow,kv ⟨ew,by decide⟩ eo,AD _,fun a I=>⟨lw rfl O jW,?_⟩⟩;replace I:=((I.fR (f5.keep (aj _ _) (ij (i:=0) rfl [kT e4 c4] _))).fS (f6.sub (ij (i:=0) rfl [kT e4 c4] _))).zf (R:=bG) 0 rfl 1 rfl;obtain⟨ns,hy,B⟩:=bd B;refine ec 3 I PK (um _ _ I.dlt I.g7 (ao.mk d g m) hn.1 _ _ _ I.g5 I.g6 I.g0 _ hy) fun _ w C a O U=>?_;obtain⟨p0,ls,p1,lt,he,fd,fl,bi⟩:=C;obtain rfl:=he.symm;have I:=AC U fd fl bi;refine gE [4,5,6] I fun a I=>?_;refine es 7 I fun w I=>?_;refine eD ?_;replace I:=(I.zf (R:=ab) 0 rfl 1 rfl).zf (R:=aa) 0 rfl 1 rfl;exact fin
    refine al I fun a I=>?_;rcases cd B with⟨i0,B⟩|⟨i0,B⟩
    ·refine al I fun a I=>?_;refine aN (J:=fun a w=>∃ (dl:Int) (a4:LN) (a5:Int) (b3:LU) (G:Int) (b4:LI) (b5:LR) (b6:LK) (b7:LF) (b8:LK) (a3:Nat) (W:Value) (c5:LV) (X:Value) (c6:LV) (Y:Value) (c9:LV) (Z:Value) (ca:LV) (a0:Value) (ch:LV) (a1:Value) (ck:LV),St L (fun k=>k=f) T 80 [(0,pt f 0),(1,v3),(6,pt t 0),(8,pt u 0),(9,am x),(10,pt a3 0),(11,am dl)] [.box f [q,am a5] 84,.box t [am d,o,p] 25,.box u [am 0,.slice none 0 0,.slice none 0 0] 25,cB W c5,aZ X c6,aK Y c9,aE Z ca,eM a0 ch,aE a1 ck,.box a3 [W,am G,X,Y,Z,a0,a1] 139] [aT aC v3 e,aT (aO.int .i64) q a4,aT ab o g,aT aa p m,ap aC c5 b3,ap ab c6 b4,ap aa c9 b5,ap ac ca b6,ap aB ch b7,ap ac ck b8,ci] a w/\rb x d g m dl a4 a5 b3 G b4 b5 b6 b7 b8=some f1) ?_ ?_
     ·obtain⟨N178,hs⟩:∃ N,N=w.heap.size:=⟨_,rfl⟩;replace I:=I.fact (KH N178) (sx hs);refine dr [(4,.blk (some f)),(5,.bks []),(10,.new N178)] I fun w hQ I=>?_;refine gE [0] I fun a I=>?_;refine dq 1 I (l:=[.blk (some f)]) (v:=.agg #[am d,o,p]) (eA I rfl gN 1 rfl (iU I 1 rfl rfl 0 rfl rfl (by decide) cc) (us:=[am d,o,p]) rfl rfl (fun h=>by cases h)) fun a I=>?_;refine gE [2,3] I fun a I=>?_;obtain⟨V,ed,B⟩:=bd B;refine fa (i:=4) (j:=9) rfl rfl (by kernel_rfl) rfl rfl ?_ ?_
      ·skip;refine id (n9 I Nt rfl rfl 0 rfl (sJ _ _ (I.drop 0).dlt (bv.mk n.2.L n.2.s1) e 2 _ _ _ (I.zb 0 rfl) (I.zi 0 rfl) (aI.lent (i:=0) rfl I.g2) (aI.lent (i:=0) rfl I.g1) (ci.keep I.g5 (aj _ _) (fun k O=>.inl ((nO (i:=0) rfl k).1 O))) _ ed) fun _ w C O=>?_);obtain⟨e5,cl,p2,he,⟨ex,eq,fn⟩,hrow,fr,ag⟩:=C;obtain rfl:=he.symm;subst ag;refine⟨(bu V.2 q),[aE e5 cl],hrow,kv ⟨ex,by decide⟩ eq,AD _,fun a I=>⟨lw rfl O jW,?_⟩⟩;replace I:=((I.fR (fn.keep (aj _ _) (ij (i:=0) rfl [aE e5 cl] _))).fS (fr.sub (ij (i:=0) rfl [aE e5 cl] _))).zf (R:=ac) 0 rfl 1 rfl;obtain⟨nB,ei,B⟩:=bd B;refine fa (i:=5) (j:=9) rfl rfl (by kernel_rfl) rfl rfl ?_ ?_
       ·skip;replace I:=I.re [] [0,1,2];refine id (ba I PR rfl rfl (ur _ _ I.zt e (ao.mk d g m) V.1 _ _ _ _ I.dok I.d4 I.d6 I.d7 I.d0 I.d8 _ ei) fun _ w C a O U=>⟨lw rfl O AL,?_⟩);obtain⟨p3,lv,p4,m0,p5,m1,p6,m2,p7,m3,pe,md,he,fs,fM,g8,gb,gi,gs,i2⟩:=C;obtain rfl:=he.symm;have I:=U _ i2;replace I:=(((((I.fR (fs.keep (aj _ _) (ax _))).fR (fM.keep (aj _ _) (ax _))).fR (g8.keep (aj _ _) (ax _))).fR (gb.keep (aj _ _) (ax _))).fR (gi.keep (aj _ _) (ax _))).fR (gs.keep (aj _ _) (ax _));refine gE [6,7,8] I fun a I=>?_;have i3:=(I.g9:N178<=w.heap.size);refine e1 9 (dZ I xl rfl fun hG i4 a w O I=>⟨iJ (O),?_⟩);refine eR 10 (.blk (some hG)) _ (by kernel_rfl) (rL (cN i3 i4)) ?_;refine es 10 I fun w I=>?_;refine gE [11] I fun a I=>?_;refine eD ?_;exact⟨_,_,_,_,_,_,_,_,_,_,_,_,_,_,_,_,_,_,_,_,_,_,_,I.mt [7,8,9,1,2,3,4,5,6,0] [10,7,12,13,5,4,3,2,1,0,14],B⟩
       skip;have i5:=(I.g3:N178<=w.heap.size);refine id (dZ I xl rfl fun hI i9 a w O I=>⟨iJ (O),?_⟩);refine eR 10 (.blk (some hI)) _ (by kernel_rfl) (rL (cN i5 i9)) ?_;replace I:=I.re [] [0,1,2,3];refine e1 5 (ba I PR rfl rfl (ur _ _ I.zt e (ao.mk d g m) V.1 _ _ _ _ I.dok I.d4 I.d6 I.d7 I.d0 I.d8 _ ei) fun _ w C a O U=>⟨lw rfl O AL,?_⟩);obtain⟨k0,hM,k1,hN,k2,hO,k3,hP,k4,hV,k5,hW,he,H,K,M,P,Q,S,ds⟩:=C;obtain rfl:=he.symm;have I:=U _ ds;replace I:=(((((I.fR (H.keep (aj _ _) (ax _))).fR (K.keep (aj _ _) (ax _))).fR (M.keep (aj _ _) (ax _))).fR (P.keep (aj _ _) (ax _))).fR (Q.keep (aj _ _) (ax _))).fR (S.keep (aj _ _) (ax _));refine gE [6,7,8] I fun a I=>?_;refine es 10 I fun w I=>?_;refine gE [11] I fun a I=>?_;refine eD ?_;exact⟨_,_,_,_,_,_,_,_,_,_,_,_,_,_,_,_,_,_,_,_,_,_,_,I.mt [7,8,9,0,1,2,3,4,5,6] [10,7,12,13,5,4,3,2,1,0,14],B⟩
      skip;have ib:=(I.g0:N178<=w.heap.size);refine id (dZ I xl rfl fun hK ih a w O I=>⟨iJ (O),?_⟩);refine eR 10 (.blk (some hK)) _ (by kernel_rfl) (rL (cN ib ih)) ?_;refine e1 4 (n9 I Nt rfl rfl 1 rfl (sJ _ _ (I.drop 1).dlt (bv.mk n.2.L n.2.s1) e 2 _ _ _ (I.zb 1 rfl) (I.zi 1 rfl) (aI.lent (i:=1) rfl I.g2) (aI.lent (i:=1) rfl I.g1) (ci.keep I.g5 (aj _ _) (fun k O=>.inl ((nO (i:=1) rfl k).1 O))) _ ed) fun _ w C O=>?_);obtain⟨e6,cs,pf,he,⟨ez,er,gu⟩,hrow,h0,ak⟩:=C;obtain rfl:=he.symm;subst ak;refine⟨(bu V.2 q),[aE e6 cs],hrow,kv ⟨ez,by decide⟩ er,AD _,fun a I=>⟨lw rfl O jW,?_⟩⟩;replace I:=((I.fR (gu.keep (aj _ _) (ij (i:=1) rfl [aE e6 cs] _))).fS (h0.sub (ij (i:=1) rfl [aE e6 cs] _))).zf (R:=ac) 0 rfl 1 rfl;obtain⟨oj,hF,B⟩:=bd B;replace I:=I.re [] [0,1,2,3];refine e1 5 (ba I PR rfl rfl (ur _ _ I.zt e (ao.mk d g m) V.1 _ _ _ _ I.dok I.d4 I.d6 I.d7 I.d0 I.d8 _ hF) fun _ w C a O U=>⟨lw rfl O AL,?_⟩);obtain⟨k0,hM,k1,hN,k2,hO,k3,hP,k4,hV,k5,hW,he,H,K,M,P,Q,S,ds⟩:=C;obtain rfl:=he.symm;have I:=U _ ds;replace I:=(((((I.fR (H.keep (aj _ _) (ax _))).fR (K.keep (aj _ _) (ax _))).fR (M.keep (aj _ _) (ax _))).fR (P.keep (aj _ _) (ax _))).fR (Q.keep (aj _ _) (ax _))).fR (S.keep (aj _ _) (ax _));refine gE [6,7,8] I fun a I=>?_;refine es 10 I fun w I=>?_;refine gE [11] I fun a I=>?_;refine eD ?_;exact⟨_,_,_,_,_,_,_,_,_,_,_,_,_,_,_,_,_,_,_,_,_,_,_,I.mt [7,8,9,0,1,2,3,4,5,6] [10,7,12,13,5,4,3,2,1,0,14],B⟩
     rintro a w ⟨dl,a4,a5,b3,G,b4,b5,b6,b7,b8,a3,W,c5,X,c6,Y,c9,Z,ca,a0,ch,a1,ck,I,B⟩;unfold rb at B;refine al I fun a I=>?_;rcases cd B with⟨ii,B⟩|⟨ii,B⟩
     ·refine al I fun a I=>?_;refine aA ?_;refine dr [(2,.blk (some f)),(8,.blk (some a3))] I fun w hQ I=>?_;refine dq 0 I (l:=[.blk (some f)]) (v:=.agg #[W,am G,X,Y,Z,a0,a1]) (eA I rfl uX 9 rfl (iU I 9 rfl rfl 0 rfl rfl (by decide) cc) (us:=[W,am G,X,Y,Z,a0,a1]) rfl rfl (fun h=>by cases h)) fun a I=>?_;refine gE [1] I fun a I=>?_;obtain⟨hm,ht,B⟩:=bd B;refine e1 2 (bJ I oX rfl rfl 0 rfl (bU _ _ (I.drop 0).dlt (bv.mk a4 a5) 30 _ _ (I.zb 0 rfl) (I.zi 0 rfl) (aI.lent (i:=0) rfl I.g1) _ ht) fun _ w C O=>?_);obtain⟨pk,he,hrow,h1,af⟩:=C;obtain rfl:=he.symm;subst af;refine⟨(bu hm.2 q),hrow,fun a I=>⟨lw rfl O jW,?_⟩⟩;replace I:=((((((I.fS (aI.back (i:=0) rfl h1)).zf (R:=aC) 3 rfl 5 rfl).zf (R:=ab) 3 rfl 7 rfl).zf (R:=aa) 3 rfl 9 rfl).zf (R:=ac) 3 rfl 11 rfl).zf (R:=aB) 3 rfl 13 rfl).zf (R:=ac) 3 rfl 15 rfl;obtain⟨A,hu,B⟩:=bd B;refine ec 3 I TR (G3 _ _ I.dlt I.g17 vv Up (fj.mk b3 (ao.mk G b4 b5) b6 b7 b8) hm.1 _ _ _ _ _ _ I.g5 I.g4 I.g3 I.g2 I.g1 I.g0 _ hu) fun _ w C a O U=>?_;obtain⟨pl,ps,pw,q0,q1,q2,he,h2,h3,h4,h5,h6,h7⟩:=C;obtain rfl:=he.symm;have I:=U [] (fun r hr=>by cases hr) sD;replace I:=(((((I.fS (h2.sub (qo _))).fS (h3.sub (qo _))).fS (h4.sub (qo _))).fS (h5.sub (qo _))).fS (h6.sub (qo _))).fS (h7.sub (qo _));refine gE [4,5,6,7] I fun a I=>?_;refine es 8 I fun w I=>?_;refine eD ?_;refine al I fun a I=>?_;obtain⟨no,hv,B⟩:=bd B;refine kc I TS (C6 _ _ I.dlt (fj.mk A.1.a (ao.mk A.1.b.r A.1.b.i A.1.b.s) A.1.i1 A.1.r1 A.1.z) _ _ _ _ _ _ I.g5 I.g4 I.g3 I.g2 I.g1 I.g0 _ hv) fun _ w C a O U=>?_;obtain⟨q3,ms,q4,mv,he,h8,h9,bi⟩:=C;obtain rfl:=he.symm;have I:=AC U h8 h9 bi;refine go I fun a w I=>?_;replace I:=(I.zf (R:=ab) 0 rfl 1 rfl).zf (R:=aa) 0 rfl 1 rfl;exact fin
     exact fz
    refine al I fun a I=>?_;rcases cd B with⟨j0,B⟩|⟨j0,B⟩
    ·refine al I fun a I=>?_;obtain⟨e0,hz,B⟩:=bd B;refine wl rfl (bJ I oX rfl rfl 0 rfl (bU _ _ (I.drop 0).dlt (bv.mk n.2.L n.2.s1) 3 _ _ (I.zb 0 rfl) (I.zi 0 rfl) (aI.lent (i:=0) rfl I.g1) _ hz) fun _ w C O=>?_);obtain⟨q5,he,hrow,ha,an⟩:=C;obtain rfl:=he.symm;subst an;refine⟨(bu e0.2 q),hrow,fun a I=>?_⟩;replace I:=I.fS (aI.back (i:=0) rfl ha);refine al I fun a I=>?_;rcases cd B with⟨j1,B⟩|⟨j1,B⟩
     ·refine al I fun a I=>?_;refine dr [(2,.blk (some f)),(3,.bks []),(8,.blk (some t))] I fun w hQ I=>?_;refine dq 0 I (l:=[.blk (some f)]) (v:=.agg #[am d,o,p]) (eA I rfl gN 1 rfl (iU I 1 rfl rfl 0 rfl rfl (by decide) cc) (us:=[am d,o,p]) rfl rfl (fun h=>by cases h)) fun a I=>?_;refine gE [1] I fun a I=>?_;obtain⟨ho,hA,B⟩:=bd B;refine e1 2 (bJ I oX rfl rfl 0 rfl (bU _ _ (I.drop 0).dlt (bv.mk e0.2.L e0.2.s1) 200 _ _ (I.zb 0 rfl) (I.zi 0 rfl) (aI.lent (i:=0) rfl I.g0) _ hA) fun _ w C O=>?_);obtain⟨q6,he,hrow,hc,av⟩:=C;obtain rfl:=he.symm;subst av;refine⟨(bu ho.2 q),hrow,fun a I=>⟨lw rfl O jW,?_⟩⟩;replace I:=(I.fS (aI.back (i:=0) rfl hc)).fact (aT ac (.slice none 0 0) []) (aI.nil_ _ _ _);obtain⟨of,hB,B⟩:=bd B;replace I:=I.re [] [0,1,2];refine e1 3 (ba I TU rfl rfl (D6 _ _ I.zt (ao.mk d g m) ho.1 ([]) _ _ _ I.dok I.d5 I.d6 I.d0 I.d7 _ hB) fun _ w C a O U=>⟨lw rfl O AL,?_⟩);obtain⟨q7,n0,r0,n1,r2,n2,he,hd,hf,hg,j3⟩:=C;obtain rfl:=he.symm;have I:=U _ j3;replace I:=((I.fR (hd.keep (aj _ _) (ax _))).fR (hf.keep (aj _ _) (ax _))).fR (hg.keep (aj _ _) (ax _));refine gE [4,5,6,7] I fun a I=>?_;refine es 8 I fun w I=>?_;refine eD ?_;replace I:=(I.zf (R:=ab) 0 rfl 2 rfl).zf (R:=aa) 0 rfl 2 rfl;exact fin
     exact fz
    refine al I fun a I=>?_;refine dr [(4,.blk (some f)),(10,.blk (some t))] I fun w hQ I=>?_;refine gE [0] I fun a I=>?_;refine dq 1 I (l:=[.blk (some f)]) (v:=.agg #[am d,o,p]) (eA I rfl gN 1 rfl (iU I 1 rfl rfl 0 rfl rfl (by decide) cc) (us:=[am d,o,p]) rfl rfl (fun h=>by cases h)) fun a I=>?_;refine gE [2,3] I fun a I=>?_;obtain⟨hp,hC,B⟩:=bd B;refine e1 4 (n9 I Nt rfl rfl 0 rfl (sJ _ _ (I.drop 0).dlt (bv.mk n.2.L n.2.s1) e 2 _ _ _ (I.zb 0 rfl) (I.zi 0 rfl) (aI.lent (i:=0) rfl I.g1) (aI.lent (i:=0) rfl I.g0) (ci.keep I.g4 (aj _ _) (fun k O=>.inl ((nO (i:=0) rfl k).1 O))) _ hC) fun _ w C O=>?_);obtain⟨e7,cv,r3,he,⟨f2,et,hh⟩,hrow,hi,b0⟩:=C;obtain rfl:=he.symm;subst b0;refine⟨(bu hp.2 q),[aE e7 cv],hrow,kv ⟨f2,by decide⟩ et,AD _,fun a I=>⟨lw rfl O jW,?_⟩⟩;replace I:=((I.fR (hh.keep (aj _ _) (ij (i:=0) rfl [aE e7 cv] _))).fS (hi.sub (ij (i:=0) rfl [aE e7 cv] _))).zf (R:=ac) 0 rfl 1 rfl;obtain⟨oi,hD,B⟩:=bd B;refine ec 5 I RY (vZ _ _ I.dlt I.g7 uu Uo e (ao.mk d g m) hp.1 _ _ _ _ I.g3 I.g5 I.g6 I.g0 _ hD) fun _ w C a O U=>?_;obtain⟨r4,r5,nd,ra,ng,he,hj,hk,hl,bi⟩:=C;obtain rfl:=he.symm;have I:=AC U hk hl bi;replace I:=I.fS (hj.sub (qo _));refine gE [6,7,8,9] I fun a I=>?_;refine es 10 I fun w I=>?_;refine eD ?_;replace I:=I.zf (R:=aa) 0 rfl 2 rfl;exact fin
   rintro a w ⟨d3,d9,c1,c2,c3,e2,e3,I,B⟩;unfold eX at B;exact fz
  refine al I fun a I=>?_;cases B
  have hr:=hf1 _ rfl;subst hr;have B:q9 d g m E F=some y:=hMo1;exact fin
 rintro a w ⟨bl,bs,bt,d1,d2,b9,bb,I,B⟩;unfold q9 at B;refine go I fun a w I=>?_;cases B
 refine aH I rfl (rC 1 I) ?_;exact⟨b9,bb,q,rfl,(aI.up ⟨.inr (aD (i:=2) rfl),trivial⟩ I.g0),(aI.up ⟨.inr (aD (i:=2) rfl),trivial⟩ I.g1),I.zb 2 rfl,(aI.up ⟨.inr (aD (i:=2) rfl),trivial⟩ I.g2),rfl⟩
def qB (g:bv) (f:Int):=(tu g).bind fun c=>(lD (bv.mk c.2.L c.2.s1) 4).bind fun d=>(m5 (ao.mk 0 ([]) ([])) d.1).bind fun e=>(qC (bv.mk d.2.L d.2.s1) c.1 (ao.mk e.1.r e.1.i e.1.s) f).bind fun b=>some ((c.1,(ao.mk b.1.r b.1.i b.1.s),(bv.mk b.2.L b.2.s1)))
theorem wJ (d:bv) (e:Int) (l:Value) (b:Nat) (a3:L.heap[b]? = some (.cells (bu d l).toArray 84 (0,0))) (Y:¬ T b) (a4:aI (aO.int .i64) (dT T [.box b (bu d l) 84]) L l d.L) (hLv:fi (dT T [.box b (bu d l) 84]) L) (y:LU×ao×bv) (B:qB d e=some y):bj aR (fun k=>k=b) 11 [pt b 0,am e] L (fun v w'=>∃ (v3 v4:Value) (v5 x:Value),v = .tuple #[v3,.agg (bp y.2.1 v4 v5).toArray]/\aI aC (dT T [.box b (bu y.2.2 x) 84]) w' v3 y.1/\aI ab (dT T [.box b (bu y.2.2 x) 84]) w' v4 y.2.1.i/\aI aa (dT T [.box b (bu y.2.2 x) 84]) w' v5 y.2.1.s/\w'.heap[b]? = some (.cells (bu y.2.2 x).toArray 84 (0,0))/\aI (aO.int .i64) (dT T [.box b (bu y.2.2 x) 84]) w' x y.2.2.L/\l=x):=by
 refine oZ (c:=_) Tryz.func11 rfl T 24 Tryz.ntmps11 hT rfl a3 Y fun a I=>?_;replace I:=(I.fact ci hLv).fS a4;unfold qB at B;refine kA I kg fun a9 an a w O I=>?_;refine al I fun a I=>?_;obtain⟨f,S,B⟩:=bd B;refine wl rfl (n9 I Tv rfl rfl 1 rfl (FF _ _ (I.drop 1).dlt d _ _ (I.zb 1 rfl) (I.zi 1 rfl) (aI.lent (i:=1) rfl I.g0) _ S) fun _ w C O=>?_);obtain⟨j,m,b0,he,⟨D,z,F⟩,hrow,G,o⟩:=C;obtain rfl:=he.symm;subst o;refine⟨(bu f.2 l),[cB j m],hrow,kv ⟨D,by decide⟩ z,AD _,fun a I=>?_⟩;replace I:=(I.fR (F.keep (aj _ _) (ij (i:=1) rfl [cB j m] _))).fS (G.sub (ij (i:=1) rfl [cB j m] _));refine al I fun a I=>?_;refine qy I (br (ps:=[]) I yN kg rfl (us:=[]) trivial (ws:=[am 0,.slice none 0 0,.slice none 0 0]) rfl) fun a I=>?_;refine al I fun a I=>?_;obtain⟨g,V,B⟩:=bd B;refine wl rfl (n9 I PL rfl rfl 2 rfl (tr _ _ (I.drop 2).dlt (bv.mk f.2.L f.2.s1) 4 _ _ (I.zb 2 rfl) (I.zi 2 rfl) (aI.lent (i:=2) rfl I.g0) (ci.keep I.g3 (aj _ _) (fun k O=>.inl ((nO (i:=2) rfl k).1 O))) _ V) fun _ w C O=>?_);obtain⟨u,n,b2,he,⟨E,A,H⟩,hrow,J,p⟩:=C;obtain rfl:=he.symm;subst p;refine⟨(bu g.2 l),[kT u n],hrow,kv ⟨E,by decide⟩ A,AD _,fun a I=>?_⟩;replace I:=((((I.fR (H.keep (aj _ _) (ij (i:=2) rfl [kT u n] _))).fS (J.sub (ij (i:=2) rfl [kT u n] _))).fact (aT ab (.slice none 0 0) []) (aI.nil_ _ _ _)).fact (aT aa (.slice none 0 0) []) (aI.nil_ _ _ _)).zf (R:=bG) 0 rfl 3 rfl;obtain⟨t,W,B⟩:=bd B;refine kc I PK (um _ _ I.dlt I.g8 (ao.mk 0 ([]) ([])) g.1 _ _ _ I.g2 I.g1 I.g0 _ W) fun _ w C a O U=>?_;obtain⟨b3,ag,b4,ak,he,K,M,a2⟩:=C;obtain rfl:=he.symm;have I:=AC U K M a2;refine kA I kg fun af av a w O I=>?_;refine go I fun a w I=>?_;replace I:=((I.zf (R:=aC) 3 rfl 8 rfl).zf (R:=ab) 1 rfl 2 rfl).zf (R:=aa) 1 rfl 2 rfl;obtain⟨Z,X,B⟩:=bd B;refine wl rfl (bJ I RX rfl rfl 2 rfl (zO _ _ (I.drop 2).dlt (bv.mk g.2.L g.2.s1) f.1 (ao.mk t.1.r t.1.i t.1.s) e _ _ _ _ _ (I.zb 2 rfl) (I.zi 2 rfl) (aI.lent (i:=2) rfl I.g8) (aI.lent (i:=2) rfl I.g2) (aI.lent (i:=2) rfl I.g1) (aI.lent (i:=2) rfl I.g0) (ci.keep I.g13 (aj _ _) (fun k O=>.inl ((nO (i:=2) rfl k).1 O))) _ X) fun _ w C O=>?_);obtain⟨a0,a1,b5,he,N,P,hrow,Q,q⟩:=C;obtain rfl:=he.symm;subst q;refine⟨(bu Z.2 l),hrow,fun a I=>?_⟩;replace I:=((I.fS (aI.back (i:=2) rfl N)).fS (aI.back (i:=2) rfl P)).fS (aI.back (i:=2) rfl Q);refine go I fun a w I=>?_;cases B
 refine aH I Tryz.results11 (aw I rfl (bB I rfl 1 rfl gN rfl (fun h=>by cases h) aF)) ?_;exact⟨j,a0,a1,l,rfl,(aI.up ⟨.inr (aD (i:=2) rfl),trivial⟩ I.g5),(aI.up ⟨.inr (aD (i:=2) rfl),trivial⟩ I.g2),(aI.up ⟨.inr (aD (i:=2) rfl),trivial⟩ I.g1),I.zb 2 rfl,(aI.up ⟨.inr (aD (i:=2) rfl),trivial⟩ I.g0),rfl⟩
end
end
section
set_option maxRecDepth 100000
set_option maxHeartbeats 4000000
variable (T:Nat->Prop) (L:World) (hT:TW T L)
include hT
noncomputable section
def cq (b:aL) (c:Int):=cond (decide (c<0)) (some ((cr,(aL.mk cr true)))) (cond (decide (((b.l.size:Int):Int)<c)) (some ((cr,(aL.mk cr true)))) ((ln b.l 0 c).bind fun d=>(ln b.l c b.l.size).bind fun e=>some ((d,(aL.mk e b.f)))))
theorem mG (b:aL) (g:Int) (d:Nat) (hD:sS T L [.box d (bg b) 189]) (y:ByteArray×aL) (B:cq b g=some y):bj aR (MD [.box d (bg b) 189]) 128 [pt d 0,am g] L (fun v w'=>v=aU y.1/\iq L w' [.box d (bg b) 189] [.box d (bg y.2) 189]):=by
 refine cW (c:=_) Tryz.func128 rfl T 39 Tryz.ntmps128 hT rfl hD fun a I=>?_;unfold cq at B;refine al I fun a I=>?_;refine aA ?_;refine dW ?_;refine al I fun a I=>?_;rcases cd B with⟨h,B⟩|⟨h,B⟩
 ·refine go I fun a w I=>?_;cases B
  refine aH I rfl (aw I rfl aF) ?_;have hZ:=I.sl [0] [];exact⟨rfl,hZ.zd⟩
 refine al I fun a I=>?_;rcases cd B with⟨i,B⟩|⟨i,B⟩
 ·refine go I fun a w I=>?_;cases B
  refine aH I rfl (aw I rfl aF) ?_;have hZ:=I.sl [0] [];exact⟨rfl,hZ.zd⟩
 refine al I fun a I=>?_;obtain⟨j,e,B⟩:=bd B;refine qy I (jC (k1:=.i64) I Tryz.underlying9 rfl (.inr ⟨rfl,rfl⟩) (.inl ⟨_,rfl,rfl⟩) e) fun a I=>?_;refine al I fun a I=>?_;obtain⟨k,f,B⟩:=bd B;refine qy I (jC (k2:=.i64) I Tryz.underlying9 rfl (.inl ⟨_,rfl,rfl⟩) (.inr ⟨rfl,rfl⟩) f) fun a I=>?_;refine go I fun a w I=>?_;cases B
 refine aH I rfl (aw I rfl aF) ?_;have hZ:=I.sl [0] [];exact⟨rfl,hZ.zd⟩
def dm (b:Int) (c:ByteArray) (d:Bool):=cond ((kf .u64 b 63:Int)==1) (some ((0,(aL.mk c true)))) (some ((IntKind.i64.wrap b,(aL.mk c d))))
def bZ (b:(ByteArray×aL)) (d c:Int):Option (Fl (Int×Int) (Int×ByteArray×Bool)):=cond (decide (c<((cy b.1).length:Int))) ((bO (cy b.1) c).bind fun e=>some (.go (sj .or .u64 (sR .u64 d 8) (IntKind.u64.wrap e),IntKind.i64.wrap (c+1)))) (some (.out (d,b.2.l,b.2.f)))
def be (c:aL):=(cq c 8).bind fun b=>gd (ce b.1.size) <| (loop (fun s:Int×Int=>bZ b s.1 s.2) (0,0)).bind fun r=>dm r.1 r.2.1 r.2.2
theorem bD (g:aL) (d:Nat) (hD:sS T L [.box d (bg g) 189]) (y:Int×aL) (B:be g=some y):bj aR (MD [.box d (bg g) 189]) 61 [pt d 0] L (fun v w'=>v=am y.1/\iq L w' [.box d (bg g) 189] [.box d (bg y.2) 189]):=by
 refine cW (c:=_) Tryz.func61 rfl T 28 Tryz.ntmps61 hT rfl hD fun a I=>?_;unfold be at B;refine al I fun a I=>?_;refine aN (J:=fun a w=>∃ (i:Int) (j:ByteArray) (m:Bool),St L (MD [.box d (bg g) 189]) T 28 [(0,pt d 0),(3,.int .u64 i)] [.box d [aU j,.bool m] 189] [] a w/\dm i j m=some y) ?_ ?_
 ·refine al I fun a I=>?_;obtain⟨b,q,B⟩:=bd B;replace I:=I.re [0] [];refine wl rfl (ba I K1 rfl rfl (mG _ _ I.zt g 8 _ I.dok _ q) fun _ w C a O U=>?_);obtain⟨he,t⟩:=C;replace he:=he.symm;subst he;have I:=U _ t;obtain⟨u,B⟩:=aP B;refine wl rfl (Sk I rfl Tryz.underlying9 Tryz.underlying61 Tryz.underlying5 u rfl fun o n a w O I=>?_);refine al I fun a I=>?_;obtain⟨P,F,hMo1⟩:=bd B;refine bH _ (fun s a w=>∃ (e h:Int),(e,h)=s/\St L (MD [.box d (bg g) 189]) T 28 [(0,pt d 0),(3,.int .u64 e),(8,o),(9,am ((cy b.1).length:Int)),(10,am h)] [.own o 5 (aO.int .u8).size n,.box d (bg b.2) 189] [ap (aO.int .u8) n (cy b.1)] a w) F ⟨_,_,rfl,I.mt [0,1] [0]⟩ ?_;rintro s a w K ⟨e,h,rfl,I⟩ B hf1;have B:bZ b e h=some K:=B;unfold bZ at B;refine al I fun a I=>?_;refine aA ?_;rcases cd B with⟨x,B⟩|⟨x,B⟩
  ·refine al I fun a I=>?_;refine aA ?_;refine al I fun a I=>?_;obtain⟨r,p,B⟩:=bd B;refine wl rfl (fo (R:=(aO.int .u8)) I SP Ub rfl rfl 0 rfl 0 rfl p rfl fun G M N H z A D a I=>?_);obtain rfl:=z;refine qy I (cK (k:=0) I Ub 0 rfl A D rfl id (us:=[.int .u8 r]) rfl rfl (fun _=>rfl)) fun a I=>?_;refine al I fun a I=>?_;refine qy I (DC I rfl rfl rfl) fun a I=>?_;refine al I fun a I=>?_;refine qy I (vQ I rfl rfl rfl) fun a I=>?_;exact fz
  refine al I fun a I=>?_;cases B
  have hr:=hf1 _ rfl;subst hr;have B:dm e b.2.l b.2.f=some y:=hMo1;exact fin
 rintro a w ⟨i,j,m,I,B⟩;unfold dm at B;refine aA ?_;refine al I fun a I=>?_;refine qy I (By I rfl rfl rfl) fun a I=>?_;refine al I fun a I=>?_;rcases cd B with⟨E,B⟩|⟨E,B⟩
 ·refine go I fun a w I=>?_;cases B
  refine aH I rfl (aw I rfl aF) ?_;have hZ:=I.sl [0] [];exact⟨rfl,hZ.zd⟩
 refine al I fun a I=>?_;cases B
 refine aH I rfl (aw I rfl aF) ?_;have hZ:=I.sl [0] [];exact⟨rfl,hZ.zd⟩
def dQ (b:(Int×aL)) (c:Bool):=some ((b.1==1,(aL.mk b.2.l c)))
def dB (c:aL):=(be c).bind fun b=>cond b.2.f (dQ b true) (dQ b (decide ((1:Int)<b.1)))
theorem wu (b:aL) (d:Nat) (hD:sS T L [.box d (bg b) 189]) (y:Bool×aL) (B:dB b=some y):bj aR (MD [.box d (bg b) 189]) 132 [pt d 0] L (fun v w'=>v = .bool y.1/\iq L w' [.box d (bg b) 189] [.box d (bg y.2) 189]):=by
 refine cW (c:=_) Tryz.func132 rfl T 19 Tryz.ntmps132 hT rfl hD fun a I=>?_;unfold dB at B;refine al I fun a I=>?_;obtain⟨f,g,B⟩:=bd B;replace I:=I.re [0] [];refine wl rfl (ba I xI rfl rfl (bD _ _ I.zt b _ I.dok _ g) fun _ w C a O U=>?_);obtain⟨he,h⟩:=C;replace he:=he.symm;subst he;have I:=U _ h;refine al I fun a I=>?_;refine aN (J:=fun a w=>∃ (e:Bool),St L (MD [.box d (bg b) 189]) T 19 [(3,am f.1)] [.box d [aU f.2.l,.bool e] 189] [] a w/\dQ f e=some y) ?_ ?_
 ·exact fz
 rintro a w ⟨e,I,B⟩;unfold dQ at B;refine al I fun a I=>?_;cases B
 refine aH I rfl (aw I rfl aF) ?_;have hZ:=I.sl [0] [];exact⟨rfl,hZ.zd⟩
def cI (d:aL):=(be d).bind fun b=>(cq (aL.mk b.2.l b.2.f) b.1).bind fun c=>some ((c.1,(aL.mk c.2.l c.2.f)))
theorem jU (b:aL) (e:Nat) (hD:sS T L [.box e (bg b) 189]) (y:ByteArray×aL) (B:cI b=some y):bj aR (MD [.box e (bg b) 189]) 130 [pt e 0] L (fun v w'=>v=aU y.1/\iq L w' [.box e (bg b) 189] [.box e (bg y.2) 189]):=by
 refine cW (c:=_) Tryz.func130 rfl T 7 Tryz.ntmps130 hT rfl hD fun a I=>?_;unfold cI at B;refine al I fun a I=>?_;obtain⟨d,g,B⟩:=bd B;replace I:=I.re [0] [];refine wl rfl (ba I xI rfl rfl (bD _ _ I.zt b _ I.dok _ g) fun _ w C a O U=>?_);obtain⟨he,i⟩:=C;replace he:=he.symm;subst he;have I:=U _ i;obtain⟨k,h,B⟩:=bd B;replace I:=I.re [0] [];refine wl rfl (ba I K1 rfl rfl (mG _ _ I.zt (aL.mk d.2.l d.2.f) d.1 _ I.dok _ h) fun _ w C a O U=>?_);obtain⟨he,j⟩:=C;replace he:=he.symm;subst he;have I:=U _ j;refine al I fun a I=>?_;cases B
 refine aH I rfl (aw I rfl aF) ?_;have hZ:=I.sl [0] [];exact⟨rfl,hZ.zd⟩
def cF (d:aL):=(be d).bind fun b=>(cI (aL.mk b.2.l b.2.f)).bind fun c=>some (((ah.mk b.1 c.1),(aL.mk c.2.l c.2.f)))
theorem iC (d:aL) (e:Nat) (hD:sS T L [.box e (bg d) 189]) (y:ah×aL) (B:cF d=some y):bj aR (MD [.box e (bg d) 189]) 129 [pt e 0] L (fun v w'=>v = .agg (bm y.1).toArray/\iq L w' [.box e (bg d) 189] [.box e (bg y.2) 189]):=by
 refine cW (c:=_) Tryz.func129 rfl T 8 Tryz.ntmps129 hT rfl hD fun a I=>?_;unfold cF at B;refine kA I iS fun m n a w O I=>?_;refine al I fun a I=>?_;obtain⟨b,h,B⟩:=bd B;replace I:=I.re [1] [0];refine wl rfl (ba I xI rfl rfl (bD _ _ I.zt d _ I.dok _ h) fun _ w C a O U=>?_);obtain⟨he,j⟩:=C;replace he:=he.symm;subst he;have I:=U _ j;refine al I fun a I=>?_;obtain⟨g,i,B⟩:=bd B;replace I:=I.re [0] [1];refine wl rfl (ba I IX rfl rfl (jU _ _ I.zt (aL.mk b.2.l b.2.f) _ I.dok _ i) fun _ w C a O U=>?_);obtain⟨he,k⟩:=C;replace he:=he.symm;subst he;have I:=U _ k;refine qy I (br (ps:=[(0,.tmp 4),(1,.tmp 6)]) I FJ iS rfl (us:=[[am b.1],[aU g.1]]) ⟨rfl,⟨rfl,trivial⟩⟩ (ws:=[am b.1,aU g.1]) rfl) fun a I=>?_;refine go I fun a w I=>?_;cases B
 refine aH I rfl (rC 1 I) ?_;have hZ:=I.sl [0] [];exact⟨rfl,hZ.zd⟩
def nr (b:LK) (c:ByteArray) (d:Bool):=some ((b,(aL.mk c d)))
def fU (c:LK) (g:Int) (e:ByteArray) (d:Bool):Option (Fl (LK×Int×ByteArray×Bool) (LK×ByteArray×Bool)):=cond (decide ((0:Int)<g)) (cond (!(d)) ((cF (aL.mk e d)).bind fun b=>gd (ce (c.length+([(ah.mk b.1.k b.1.t)]).length)) <| some (.go ((c++([(ah.mk b.1.k b.1.t)])),IntKind.i64.wrap (g-1),b.2.l,b.2.f))) (some (.out (c,e,d)))) (some (.out (c,e,d)))
def kd (c:aL):=(be c).bind fun b=>(loop (fun s:LK×Int×ByteArray×Bool=>fU s.1 s.2.1 s.2.2.1 s.2.2.2) (([]:List ah),b.1,b.2.l,b.2.f)).bind fun r=>nr r.1 r.2.1 r.2.2
theorem Ee (h:aL) (f:Nat) (hD:sS T L [.box f (bg h) 189]) (y:LK×aL) (B:kd h=some y):bj aR (MD [.box f (bg h) 189]) 131 [pt f 0,.func (.func 129) #[pt f 0] #[]] L (fun v w'=>∃ (G:Value) (dG:bK),v=G/\aY ac (dT T [.box f (bg y.2) 189,aE G dG]) w' dG y.1/\iq L w' [.box f (bg h) 189] [.box f (bg y.2) 189,aE G dG]):=by
 refine cW (c:=_) Tryz.func131 rfl T 26 Tryz.ntmps131 hT rfl hD fun a I=>?_;unfold kd at B;refine al I fun a I=>?_;refine aN (J:=fun a w=>∃ (o:LK) (p:ByteArray) (q:Bool) (m:Value) (i:LV),St L (MD [.box f (bg h) 189]) T 26 [(5,m)] [aE m i,.box f [aU p,.bool q] 189] [ap ac i o] a w/\nr o p q=some y) ?_ ?_
 ·refine al I fun a I=>?_;obtain⟨P,u,B⟩:=bd B;replace I:=I.re [0] [];refine wl rfl (ba I xI rfl rfl (bD _ _ I.zt h _ I.dok _ u) fun _ w C a O U=>?_);obtain⟨he,z⟩:=C;replace he:=he.symm;subst he;have I:=U _ z;refine al I fun a I=>?_;replace I:=I.zn ac 30 (by decide);obtain⟨S,H,hMo1⟩:=bd B;refine bH _ (fun s a w=>∃ (g:LK) (l:Int) (d:ByteArray) (e:Bool) (n:Value) (j:LV),(g,l,d,e)=s/\St L (MD [.box f (bg h) 189]) T 26 [(0,pt f 0),(1,.func (.func 129) #[pt f 0] #[]),(5,n),(6,am l)] [aE n j,.box f [aU d,.bool e] 189] [ap ac j g] a w) H ⟨_,_,_,_,_,_,rfl,I.mt [0,1] [0]⟩ ?_;rintro s a w N ⟨g,l,d,e,n,j,rfl,I⟩ B hf1;have B:fU g l d e=some N:=B;unfold fU at B;refine aA ?_;refine dW ?_;refine al I fun a I=>?_;rcases cd B with⟨A,B⟩|⟨A,B⟩
  ·refine al I fun a I=>?_;rcases cd B with⟨D,B⟩|⟨D,B⟩
   ·refine al I fun a I=>?_;refine aA ?_;refine al I fun a I=>?_;obtain⟨b,r,B⟩:=bd B;replace I:=I.re [1] [0];refine wl rfl (uL (D0:=[.box f [aU d,.bool e] 189]) (Dr:=[aE n j]) (fst:=[pt f 0]) I rfl Gs rfl rfl (iC _ _ I.zt (aL.mk d e) _ I.dok _ r) fun _ w C a O U=>?_);obtain⟨he,E⟩:=C;replace he:=he.symm;subst he;have I:=U _ E;refine wl rfl (bf (ps:=[(0,.tmp 22)]) I lr iS (zl:=[am 0,aU cr]) (by kernel_rfl) rfl (us:=[(bm b.1)]) ⟨rfl,trivial⟩ (ws:=(bm b.1)) rfl rfl rfl rfl fun K a w O I=>?_);replace I:=(I.lit (R:=ac) (us:=(bm b.1)) (xs:=[(ah.mk b.1.k b.1.t)]) 0 rfl (by decide) (aJ (R:=ac) (x:=(ah.mk b.1.k b.1.t)) rfl) rfl rfl).zf (R:=ac) 0 rfl 0 rfl;obtain⟨F,B⟩:=aP B;refine wl rfl (bR (R:=ac) (xs:=g) (ys:=[(ah.mk b.1.k b.1.t)]) I lr (by decide) (by decide) rfl rfl 1 rfl 2 rfl 0 rfl F rfl fun Q M a w O I=>?_);exact fz
   refine al I fun a I=>?_;cases B
   have hr:=hf1 _ rfl;subst hr;have B:nr g d e=some y:=hMo1;exact fin
  refine al I fun a I=>?_;cases B
  have hr:=hf1 _ rfl;subst hr;have B:nr g d e=some y:=hMo1;exact fin
 rintro a w ⟨o,p,q,m,i,I,B⟩;unfold nr at B;refine al I fun a I=>?_;cases B
 refine aH I rfl (aw I rfl aF) ?_;have hZ:=I.sl [1,0] [0];exact⟨m,i,rfl,hZ.g0,hZ.zd⟩
def gj (b:(ah×aL)) (e:(ByteArray×aL)) (c:(df×Int)) (d:Bool):=some (((da.mk (ah.mk b.1.k b.1.t) (df.mk c.1.d1 c.1.b1)),(aL.mk e.2.l d)))
def fe (e:aL):=(cF e).bind fun b=>(cq (aL.mk b.2.l b.2.f) 16).bind fun c=>(lA c.1).bind fun d=>cond c.2.f (gj b c d true) (gj b c d (d.2 != 0))
theorem wv (e:aL) (g:Nat) (hD:sS T L [.box g (bg e) 189]) (y:da×aL) (B:fe e=some y):bj aR (MD [.box g (bg e) 189]) 139 [pt g 0] L (fun v w'=>v = .agg (En y.1).toArray/\iq L w' [.box g (bg e) 189] [.box g (bg y.2) 189]):=by
 refine cW (c:=_) Tryz.func139 rfl T 28 Tryz.ntmps139 hT rfl hD fun a I=>?_;unfold fe at B;refine kA I ym fun j u a w O I=>?_;refine al I fun a I=>?_;obtain⟨b,o,B⟩:=bd B;replace I:=I.re [1] [0];refine wl rfl (ba I Gs rfl rfl (iC _ _ I.zt e _ I.dok _ o) fun _ w C a O U=>?_);obtain⟨he,r⟩:=C;replace he:=he.symm;subst he;have I:=U _ r;refine ka I iS fun m x a w O I=>?_;refine go I fun a w I=>?_;obtain⟨i,p,B⟩:=bd B;replace I:=I.re [1] [0,2];refine wl rfl (ba I K1 rfl rfl (mG _ _ I.zt (aL.mk b.2.l b.2.f) 16 _ I.dok _ p) fun _ w C a O U=>?_);obtain⟨he,s⟩:=C;replace he:=he.symm;subst he;have I:=U _ s;obtain⟨d,q,B⟩:=bd B;refine kF I RC (CA _ _ I.dlt i.1 _ q) fun w a I=>?_;refine ka I AB fun n z a w O I=>?_;refine go I fun a w I=>?_;refine aN (J:=fun a w=>∃ (h:Bool),St L (MD [.box g (bg e) 189]) T 28 [(2,pt j 0),(3,pt m 0),(4,pt n 0)] [.box j [am 0,aU cr,am 0,.int .u64 0] 128,.box m (bm b.1) 30,.box n (tN d.1) 105,.box g [aU i.2.l,.bool h] 189] [] a w/\gj b i d h=some y) ?_ ?_
 ·exact fz
 rintro a w ⟨h,I,B⟩;unfold gj at B;refine al I fun a I=>?_;refine qy I (br (ps:=[(0,.tmp 25),(1,.tmp 26)]) I Pd ym rfl (us:=[(bm b.1),(tN d.1)]) ⟨rfl,⟨rfl,trivial⟩⟩ (ws:=[am b.1.k,aU b.1.t,am d.1.d1,.int .u64 d.1.b1]) rfl) fun a I=>?_;refine go I fun a w I=>?_;cases B
 refine aH I rfl (rC 0 I) ?_;have hZ:=I.sl [3] [];exact⟨rfl,hZ.zd⟩
def mc (b:(List da)) (c:ByteArray) (d:Bool):=some ((b,(aL.mk c d)))
def iz (c:(List da)) (h:Int) (g:ByteArray) (e:Bool):Option (Fl ((List da)×Int×ByteArray×Bool) ((List da)×ByteArray×Bool)):=cond (decide ((0:Int)<h)) (cond (!(e)) ((fe (aL.mk g e)).bind fun b=>gd (ce (c.length+([(da.mk (ah.mk b.1.d.k b.1.d.t) (df.mk b.1.j.d1 b.1.j.b1))]).length)) <| some (.go ((c++([(da.mk (ah.mk b.1.d.k b.1.d.t) (df.mk b.1.j.d1 b.1.j.b1))])),IntKind.i64.wrap (h-1),b.2.l,b.2.f))) (some (.out (c,g,e)))) (some (.out (c,g,e)))
def lR (c:aL):=(be c).bind fun b=>(loop (fun s:(List da)×Int×ByteArray×Bool=>iz s.1 s.2.1 s.2.2.1 s.2.2.2) (([]:List da),b.1,b.2.l,b.2.f)).bind fun r=>mc r.1 r.2.1 r.2.2
theorem Do (i:aL) (g:Nat) (hD:sS T L [.box g (bg i) 189]) (y:(List da)×aL) (B:lR i=some y):bj aR (MD [.box g (bg i) 189]) 138 [pt g 0,.func (.func 139) #[pt g 0] #[]] L (fun v w'=>∃ (K:Value) (dG:bK),v=K/\aY cj (dT T [.box g (bg y.2) 189,uj K dG]) w' dG y.1/\iq L w' [.box g (bg i) 189] [.box g (bg y.2) 189,uj K dG]):=by
 refine cW (c:=_) Tryz.func138 rfl T 26 Tryz.ntmps138 hT rfl hD fun a I=>?_;unfold lR at B;refine al I fun a I=>?_;refine aN (J:=fun a w=>∃ (q:(List da)) (r:ByteArray) (u:Bool) (o:Value) (l:LV),St L (MD [.box g (bg i) 189]) T 26 [(5,o)] [uj o l,.box g [aU r,.bool u] 189] [ap cj l q] a w/\mc q r u=some y) ?_ ?_
 ·refine al I fun a I=>?_;obtain⟨S,A,B⟩:=bd B;replace I:=I.re [0] [];refine wl rfl (ba I xI rfl rfl (bD _ _ I.zt i _ I.dok _ A) fun _ w C a O U=>?_);obtain⟨he,D⟩:=C;replace he:=he.symm;subst he;have I:=U _ D;refine al I fun a I=>?_;replace I:=I.zn cj 128 (by decide);obtain⟨W,M,hMo1⟩:=bd B;refine bH _ (fun s a w=>∃ (h:(List da)) (n:Int) (e:ByteArray) (f:Bool) (p:Value) (m:LV),(h,n,e,f)=s/\St L (MD [.box g (bg i) 189]) T 26 [(0,pt g 0),(1,.func (.func 139) #[pt g 0] #[]),(5,p),(6,am n)] [uj p m,.box g [aU e,.bool f] 189] [ap cj m h] a w) M ⟨_,_,_,_,_,_,rfl,I.mt [0,1] [0]⟩ ?_;rintro s a w Q ⟨h,n,e,f,p,m,rfl,I⟩ B hf1;have B:iz h n e f=some Q:=B;unfold iz at B;refine aA ?_;refine dW ?_;refine al I fun a I=>?_;rcases cd B with⟨E,B⟩|⟨E,B⟩
  ·refine al I fun a I=>?_;rcases cd B with⟨F,B⟩|⟨F,B⟩
   ·refine al I fun a I=>?_;refine aA ?_;refine al I fun a I=>?_;obtain⟨b,z,B⟩:=bd B;replace I:=I.re [1] [0];refine wl rfl (uL (D0:=[.box g [aU e,.bool f] 189]) (Dr:=[uj p m]) (fst:=[pt g 0]) I rfl Rh rfl rfl (wv _ _ I.zt (aL.mk e f) _ I.dok _ z) fun _ w C a O U=>?_);obtain⟨he,G⟩:=C;replace he:=he.symm;subst he;have I:=U _ G;refine wl rfl (bf (ps:=[(0,.tmp 22)]) I Li ym (zl:=[am 0,aU cr,am 0,.int .u64 0]) (by kernel_rfl) rfl (us:=[(En b.1)]) ⟨rfl,trivial⟩ (ws:=(En b.1)) rfl rfl rfl rfl fun N a w O I=>?_);replace I:=(I.lit (R:=cj) (us:=(En b.1)) (xs:=[(da.mk (ah.mk b.1.d.k b.1.d.t) (df.mk b.1.j.d1 b.1.j.b1))]) 0 rfl (by decide) (aJ (R:=cj) (x:=(da.mk (ah.mk b.1.d.k b.1.d.t) (df.mk b.1.j.d1 b.1.j.b1))) rfl) rfl rfl).zf (R:=cj) 0 rfl 0 rfl;obtain⟨H,B⟩:=aP B;refine wl rfl (bR (R:=cj) (xs:=h) (ys:=[(da.mk (ah.mk b.1.d.k b.1.d.t) (df.mk b.1.j.d1 b.1.j.b1))]) I Li (by decide) (by decide) rfl rfl 1 rfl 2 rfl 0 rfl H rfl fun V P a w O I=>?_);exact fz
   refine al I fun a I=>?_;cases B
   have hr:=hf1 _ rfl;subst hr;have B:mc h e f=some y:=hMo1;exact fin
  refine al I fun a I=>?_;cases B
  have hr:=hf1 _ rfl;subst hr;have B:mc h e f=some y:=hMo1;exact fin
 rintro a w ⟨q,r,u,o,l,I,B⟩;unfold mc at B;refine al I fun a I=>?_;cases B
 refine aH I rfl (aw I rfl aF) ?_;have hZ:=I.sl [1,0] [0];exact⟨o,l,rfl,hZ.g0,hZ.zd⟩
def dh (e:aL):=(cF e).bind fun b=>(cI (aL.mk b.2.l b.2.f)).bind fun c=>(be (aL.mk c.2.l c.2.f)).bind fun d=>some (((bc.mk (ah.mk b.1.k b.1.t) c.1 d.1),(aL.mk d.2.l d.2.f)))
theorem wh (e:aL) (g:Nat) (hD:sS T L [.box g (bg e) 189]) (y:bc×aL) (B:dh e=some y):bj aR (MD [.box g (bg e) 189]) 63 [pt g 0] L (fun v w'=>v = .agg (qs y.1).toArray/\iq L w' [.box g (bg e) 189] [.box g (bg y.2) 189]):=by
 refine cW (c:=_) Tryz.func63 rfl T 10 Tryz.ntmps63 hT rfl hD fun a I=>?_;unfold dh at B;refine kA I vU fun q r a w O I=>?_;refine al I fun a I=>?_;obtain⟨b,i,B⟩:=bd B;replace I:=I.re [1] [0];refine wl rfl (ba I Gs rfl rfl (iC _ _ I.zt e _ I.dok _ i) fun _ w C a O U=>?_);obtain⟨he,n⟩:=C;replace he:=he.symm;subst he;have I:=U _ n;refine al I fun a I=>?_;obtain⟨d,j,B⟩:=bd B;replace I:=I.re [0] [1];refine wl rfl (ba I IX rfl rfl (jU _ _ I.zt (aL.mk b.2.l b.2.f) _ I.dok _ j) fun _ w C a O U=>?_);obtain⟨he,o⟩:=C;replace he:=he.symm;subst he;have I:=U _ o;refine al I fun a I=>?_;obtain⟨h,m,B⟩:=bd B;replace I:=I.re [0] [1];refine wl rfl (ba I xI rfl rfl (bD _ _ I.zt (aL.mk d.2.l d.2.f) _ I.dok _ m) fun _ w C a O U=>?_);obtain⟨he,p⟩:=C;replace he:=he.symm;subst he;have I:=U _ p;refine qy I (br (ps:=[(0,.tmp 4),(1,.tmp 6),(2,.tmp 8)]) I Mj vU rfl (us:=[(bm b.1),[aU d.1],[am h.1]]) ⟨rfl,⟨rfl,⟨rfl,trivial⟩⟩⟩ (ws:=[am b.1.k,aU b.1.t,aU d.1,am h.1]) rfl) fun a I=>?_;refine go I fun a w I=>?_;cases B
 refine aH I rfl (rC 1 I) ?_;have hZ:=I.sl [0] [];exact⟨rfl,hZ.zd⟩
def lm (b:LI) (c:ByteArray) (d:Bool):=some ((b,(aL.mk c d)))
def eH (c:LI) (h:Int) (g:ByteArray) (e:Bool):Option (Fl (LI×Int×ByteArray×Bool) (LI×ByteArray×Bool)):=cond (decide ((0:Int)<h)) (cond (!(e)) ((dh (aL.mk g e)).bind fun b=>gd (ce (c.length+([(bc.mk (ah.mk b.1.d.k b.1.d.t) b.1.u b.1.x)]).length)) <| some (.go ((c++([(bc.mk (ah.mk b.1.d.k b.1.d.t) b.1.u b.1.x)])),IntKind.i64.wrap (h-1),b.2.l,b.2.f))) (some (.out (c,g,e)))) (some (.out (c,g,e)))
def gM (c:aL):=(be c).bind fun b=>(loop (fun s:LI×Int×ByteArray×Bool=>eH s.1 s.2.1 s.2.2.1 s.2.2.2) (([]:List bc),b.1,b.2.l,b.2.f)).bind fun r=>lm r.1 r.2.1 r.2.2
theorem BR (i:aL) (g:Nat) (hD:sS T L [.box g (bg i) 189]) (y:LI×aL) (B:gM i=some y):bj aR (MD [.box g (bg i) 189]) 62 [pt g 0,.func (.func 63) #[pt g 0] #[]] L (fun v w'=>∃ (K:Value) (dG:bK),v=K/\aY ab (dT T [.box g (bg y.2) 189,aZ K dG]) w' dG y.1/\iq L w' [.box g (bg i) 189] [.box g (bg y.2) 189,aZ K dG]):=by
 refine cW (c:=_) Tryz.func62 rfl T 26 Tryz.ntmps62 hT rfl hD fun a I=>?_;unfold gM at B;refine al I fun a I=>?_;refine aN (J:=fun a w=>∃ (p:LI) (q:ByteArray) (r:Bool) (n:Value) (j:LV),St L (MD [.box g (bg i) 189]) T 26 [(5,n)] [aZ n j,.box g [aU q,.bool r] 189] [ap ab j p] a w/\lm p q r=some y) ?_ ?_
 ·refine al I fun a I=>?_;obtain⟨S,A,B⟩:=bd B;replace I:=I.re [0] [];refine wl rfl (ba I xI rfl rfl (bD _ _ I.zt i _ I.dok _ A) fun _ w C a O U=>?_);obtain⟨he,D⟩:=C;replace he:=he.symm;subst he;have I:=U _ D;refine al I fun a I=>?_;replace I:=I.zn ab 91 (by decide);obtain⟨W,M,hMo1⟩:=bd B;refine bH _ (fun s a w=>∃ (h:LI) (m:Int) (e:ByteArray) (f:Bool) (o:Value) (l:LV),(h,m,e,f)=s/\St L (MD [.box g (bg i) 189]) T 26 [(0,pt g 0),(1,.func (.func 63) #[pt g 0] #[]),(5,o),(6,am m)] [aZ o l,.box g [aU e,.bool f] 189] [ap ab l h] a w) M ⟨_,_,_,_,_,_,rfl,I.mt [0,1] [0]⟩ ?_;rintro s a w Q ⟨h,m,e,f,o,l,rfl,I⟩ B hf1;have B:eH h m e f=some Q:=B;unfold eH at B;refine aA ?_;refine dW ?_;refine al I fun a I=>?_;rcases cd B with⟨E,B⟩|⟨E,B⟩
  ·refine al I fun a I=>?_;rcases cd B with⟨F,B⟩|⟨F,B⟩
   ·refine al I fun a I=>?_;refine aA ?_;refine al I fun a I=>?_;obtain⟨b,z,B⟩:=bd B;replace I:=I.re [1] [0];refine wl rfl (uL (D0:=[.box g [aU e,.bool f] 189]) (Dr:=[aZ o l]) (fst:=[pt g 0]) I rfl TD rfl rfl (wh _ _ I.zt (aL.mk e f) _ I.dok _ z) fun _ w C a O U=>?_);obtain⟨he,G⟩:=C;replace he:=he.symm;subst he;have I:=U _ G;refine wl rfl (bf (ps:=[(0,.tmp 22)]) I CC vU (zl:=[am 0,aU cr,aU cr,am 0]) (by kernel_rfl) rfl (us:=[(qs b.1)]) ⟨rfl,trivial⟩ (ws:=(qs b.1)) rfl rfl rfl rfl fun N a w O I=>?_);replace I:=(I.lit (R:=ab) (us:=(qs b.1)) (xs:=[(bc.mk (ah.mk b.1.d.k b.1.d.t) b.1.u b.1.x)]) 0 rfl (by decide) (aJ (R:=ab) (x:=(bc.mk (ah.mk b.1.d.k b.1.d.t) b.1.u b.1.x)) rfl) rfl rfl).zf (R:=ab) 0 rfl 0 rfl;obtain⟨H,B⟩:=aP B;refine wl rfl (bR (R:=ab) (xs:=h) (ys:=[(bc.mk (ah.mk b.1.d.k b.1.d.t) b.1.u b.1.x)]) I CC (by decide) (by decide) rfl rfl 1 rfl 2 rfl 0 rfl H rfl fun V P a w O I=>?_);exact fz
   refine al I fun a I=>?_;cases B
   have hr:=hf1 _ rfl;subst hr;have B:lm h e f=some y:=hMo1;exact fin
  refine al I fun a I=>?_;cases B
  have hr:=hf1 _ rfl;subst hr;have B:lm h e f=some y:=hMo1;exact fin
 rintro a w ⟨p,q,r,n,j,I,B⟩;unfold lm at B;refine al I fun a I=>?_;cases B
 refine aH I rfl (aw I rfl aF) ?_;have hZ:=I.sl [1,0] [0];exact⟨n,j,rfl,hZ.g0,hZ.zd⟩
def cV (j:aL):=(cF j).bind fun b=>(cI (aL.mk b.2.l b.2.f)).bind fun c=>(kd (aL.mk c.2.l c.2.f)).bind fun d=>(be (aL.mk d.2.l d.2.f)).bind fun e=>(be (aL.mk e.2.l e.2.f)).bind fun g=>(be (aL.mk g.2.l g.2.f)).bind fun h=>(dB (aL.mk h.2.l h.2.f)).bind fun i=>some (((ay.mk (ah.mk b.1.k b.1.t) c.1 d.1 e.1 g.1 h.1 i.1),(aL.mk i.2.l i.2.f)))
theorem vq (e:aL) (g:Nat) (hD:sS T L [.box g (bg e) 189]) (y:ay×aL) (B:cV e=some y):bj aR (MD [.box g (bg e) 189]) 65 [pt g 0] L (fun v w'=>∃ (N:Value) (dG:bK),v = .agg (bA y.1 N).toArray/\aY ac (dT T [.box g (bg y.2) 189,aE N dG]) w' dG y.1.v/\iq L w' [.box g (bg e) 189] [.box g (bg y.2) 189,aE N dG]):=by
 refine cW (c:=_) Tryz.func65 rfl T 26 Tryz.ntmps65 hT rfl hD fun a I=>?_;unfold cV at B;refine kA I f0 fun P R a w O I=>?_;refine al I fun a I=>?_;obtain⟨b,q,B⟩:=bd B;replace I:=I.re [1] [0];refine wl rfl (ba I Gs rfl rfl (iC _ _ I.zt e _ I.dok _ q) fun _ w C a O U=>?_);obtain⟨he,E⟩:=C;replace he:=he.symm;subst he;have I:=U _ E;refine al I fun a I=>?_;obtain⟨d,r,B⟩:=bd B;replace I:=I.re [0] [1];refine wl rfl (ba I IX rfl rfl (jU _ _ I.zt (aL.mk b.2.l b.2.f) _ I.dok _ r) fun _ w C a O U=>?_);obtain⟨he,F⟩:=C;replace he:=he.symm;subst he;have I:=U _ F;refine al I fun a I=>?_;refine qy I (vb (vs:=[pt g 0]) I rfl) fun a I=>?_;obtain⟨m,s,B⟩:=bd B;replace I:=I.re [0] [1];refine wl rfl (ba I Q9 rfl rfl (Ee _ _ I.zt (aL.mk d.2.l d.2.f) _ I.dok _ s) fun _ w C a O U=>?_);obtain⟨h,D,he,j,G⟩:=C;obtain rfl:=he.symm;have I:=U _ G;replace I:=I.fR (j.keep (aj _ _) (ax _));refine qy I (br (ps:=[(0,.tmp 5),(1,.tmp 7),(2,.tmp 11)]) I N1 f0 rfl (us:=[(bm b.1),[aU d.1],[h]]) ⟨rfl,⟨rfl,⟨(mF (ik (I.own _ (aD (i:=1) rfl)).1)),trivial⟩⟩⟩ (ws:=[am b.1.k,aU b.1.t,aU d.1,h,am 0,am 0,am 0,.bool false]) rfl) fun a I=>?_;refine ka I f0 fun Q S a w O I=>?_;refine go I fun a w I=>?_;obtain⟨n,u,B⟩:=bd B;replace I:=I.re [1] [0,2,3];refine wl rfl (ba I xI rfl rfl (bD _ _ I.zt (aL.mk m.2.l m.2.f) _ I.dok _ u) fun _ w C a O U=>?_);obtain⟨he,H⟩:=C;replace he:=he.symm;subst he;have I:=U _ H;refine al I fun a I=>?_;obtain⟨o,x,B⟩:=bd B;replace I:=I.re [0] [1,2,3];refine wl rfl (ba I xI rfl rfl (bD _ _ I.zt (aL.mk n.2.l n.2.f) _ I.dok _ x) fun _ w C a O U=>?_);obtain⟨he,J⟩:=C;replace he:=he.symm;subst he;have I:=U _ J;refine al I fun a I=>?_;obtain⟨p,z,B⟩:=bd B;replace I:=I.re [0] [1,2,3];refine wl rfl (ba I xI rfl rfl (bD _ _ I.zt (aL.mk o.2.l o.2.f) _ I.dok _ z) fun _ w C a O U=>?_);obtain⟨he,K⟩:=C;replace he:=he.symm;subst he;have I:=U _ K;refine al I fun a I=>?_;obtain⟨V,A,B⟩:=bd B;replace I:=I.re [0] [1,2,3];refine wl rfl (ba I Ra rfl rfl (wu _ _ I.zt (aL.mk p.2.l p.2.f) _ I.dok _ A) fun _ w C a O U=>?_);obtain⟨he,M⟩:=C;replace he:=he.symm;subst he;have I:=U _ M;refine go I fun a w I=>?_;cases B
 refine aH I rfl (rC 3 I) ?_;have hZ:=I.sl [0,2] [0];exact⟨h,D,rfl,hZ.g0,hZ.zd⟩
def ke (b:LR) (c:ByteArray) (d:Bool):=some ((b,(aL.mk c d)))
def dV (e:LR) (j:Int) (i:ByteArray) (g:Bool):Option (Fl (LR×Int×ByteArray×Bool) (LR×ByteArray×Bool)):=cond (decide ((0:Int)<j)) (cond (!(g)) ((cV (aL.mk i g)).bind fun b=>gd (ce (e.length+([(ay.mk (ah.mk b.1.d.k b.1.d.t) b.1.u b.1.v b.1.x b.1.c b.1.h b.1.w)]).length)) <| some (.go ((e++([(ay.mk (ah.mk b.1.d.k b.1.d.t) b.1.u b.1.v b.1.x b.1.c b.1.h b.1.w)])),IntKind.i64.wrap (j-1),b.2.l,b.2.f))) (some (.out (e,i,g)))) (some (.out (e,i,g)))
def fV (c:aL):=(be c).bind fun b=>(loop (fun s:LR×Int×ByteArray×Bool=>dV s.1 s.2.1 s.2.2.1 s.2.2.2) (([]:List ay),b.1,b.2.l,b.2.f)).bind fun r=>ke r.1 r.2.1 r.2.2
theorem A1 (j:aL) (g:Nat) (hD:sS T L [.box g (bg j) 189]) (y:LR×aL) (B:fV j=some y):bj aR (MD [.box g (bg j) 189]) 64 [pt g 0,.func (.func 65) #[pt g 0] #[]] L (fun v w'=>∃ (P:Value) (dG:bK),v=P/\aY aa (dT T [.box g (bg y.2) 189,aK P dG]) w' dG y.1/\iq L w' [.box g (bg j) 189] [.box g (bg y.2) 189,aK P dG]):=by
 refine cW (c:=_) Tryz.func64 rfl T 26 Tryz.ntmps64 hT rfl hD fun a I=>?_;unfold fV at B;refine al I fun a I=>?_;refine aN (J:=fun a w=>∃ (q:LR) (r:ByteArray) (z:Bool) (o:Value) (l:LV),St L (MD [.box g (bg j) 189]) T 26 [(5,o)] [aK o l,.box g [aU r,.bool z] 189] [ap aa l q] a w/\ke q r z=some y) ?_ ?_
 ·refine al I fun a I=>?_;obtain⟨Y,F,B⟩:=bd B;replace I:=I.re [0] [];refine wl rfl (ba I xI rfl rfl (bD _ _ I.zt j _ I.dok _ F) fun _ w C a O U=>?_);obtain⟨he,G⟩:=C;replace he:=he.symm;subst he;have I:=U _ G;refine al I fun a I=>?_;replace I:=I.zn aa 33 (by decide);obtain⟨r1,Q,hMo1⟩:=bd B;refine bH _ (fun s a w=>∃ (i:LR) (n:Int) (e:ByteArray) (f:Bool) (p:Value) (m:LV),(i,n,e,f)=s/\St L (MD [.box g (bg j) 189]) T 26 [(0,pt g 0),(1,.func (.func 65) #[pt g 0] #[]),(5,p),(6,am n)] [aK p m,.box g [aU e,.bool f] 189] [ap aa m i] a w) Q ⟨_,_,_,_,_,_,rfl,I.mt [0,1] [0]⟩ ?_;rintro s a w X ⟨i,n,e,f,p,m,rfl,I⟩ B hf1;have B:dV i n e f=some X:=B;unfold dV at B;refine aA ?_;refine dW ?_;refine al I fun a I=>?_;rcases cd B with⟨H,B⟩|⟨H,B⟩
  ·refine al I fun a I=>?_;rcases cd B with⟨K,B⟩|⟨K,B⟩
   ·refine al I fun a I=>?_;refine aA ?_;refine al I fun a I=>?_;obtain⟨b,E,B⟩:=bd B;replace I:=I.re [1] [0];refine wl rfl (uL (D0:=[.box g [aU e,.bool f] 189]) (Dr:=[aK p m]) (fst:=[pt g 0]) I rfl TF rfl rfl (vq _ _ I.zt (aL.mk e f) _ I.dok _ E) fun _ w C a O U=>?_);obtain⟨A,V,he,D,M⟩:=C;obtain rfl:=he.symm;have I:=U _ M;replace I:=I.fR (D.keep (aj _ _) (ax _));refine wl rfl (bf (ps:=[(0,.tmp 22)]) I tL f0 (zl:=[am 0,aU cr,aU cr,.slice none 0 0,am 0,am 0,am 0,.bool false]) (by kernel_rfl) rfl (us:=[(bA b.1 A)]) ⟨rfl,trivial⟩ (ws:=(bA b.1 A)) rfl rfl rfl rfl fun S a w O I=>?_);replace I:=I.zf (R:=ac) 2 rfl 0 rfl;replace I:=(I.lit (R:=aa) (us:=(bA b.1 A)) (xs:=[(ay.mk (ah.mk b.1.d.k b.1.d.t) b.1.u b.1.v b.1.x b.1.c b.1.h b.1.w)]) 0 rfl (by decide) (aJ (R:=aa) (x:=(ay.mk (ah.mk b.1.d.k b.1.d.t) b.1.u b.1.v b.1.x b.1.c b.1.h b.1.w)) (⟨_,rfl,I.g0⟩)) rfl rfl).zf (R:=aa) 0 rfl 0 rfl;obtain⟨N,B⟩:=aP B;refine wl rfl (bR (R:=aa) (xs:=i) (ys:=[(ay.mk (ah.mk b.1.d.k b.1.d.t) b.1.u b.1.v b.1.x b.1.c b.1.h b.1.w)]) I tL (by decide) (by decide) rfl rfl 1 rfl 4 rfl 0 rfl N rfl fun Z W a w O I=>?_);exact fz
   refine al I fun a I=>?_;cases B
   have hr:=hf1 _ rfl;subst hr;have B:ke i e f=some y:=hMo1;exact fin
  refine al I fun a I=>?_;cases B
  have hr:=hf1 _ rfl;subst hr;have B:ke i e f=some y:=hMo1;exact fin
 rintro a w ⟨q,r,z,o,l,I,B⟩;unfold ke at B;refine al I fun a I=>?_;cases B
 refine aH I rfl (aw I rfl aF) ?_;have hZ:=I.sl [1,0] [0];exact⟨o,l,rfl,hZ.g0,hZ.zd⟩
def dA (g:aL):=(cF g).bind fun b=>(lR (aL.mk b.2.l b.2.f)).bind fun c=>(cI (aL.mk c.2.l c.2.f)).bind fun d=>(be (aL.mk d.2.l d.2.f)).bind fun e=>some (((aq.mk (ah.mk b.1.k b.1.t) c.1 d.1 e.1),(aL.mk e.2.l e.2.f)))
theorem ue (e:aL) (g:Nat) (hD:sS T L [.box g (bg e) 189]) (y:aq×aL) (B:dA e=some y):bj aR (MD [.box g (bg e) 189]) 84 [pt g 0] L (fun v w'=>∃ (D:Value) (dG:bK),v = .agg (bo y.1 D).toArray/\aY cj (dT T [.box g (bg y.2) 189,uj D dG]) w' dG y.1.v/\iq L w' [.box g (bg e) 189] [.box g (bg y.2) 189,uj D dG]):=by
 refine cW (c:=_) Tryz.func84 rfl T 14 Tryz.ntmps84 hT rfl hD fun a I=>?_;unfold dA at B;refine kA I uy fun E F a w O I=>?_;refine al I fun a I=>?_;obtain⟨b,o,B⟩:=bd B;replace I:=I.re [1] [0];refine wl rfl (ba I Gs rfl rfl (iC _ _ I.zt e _ I.dok _ o) fun _ w C a O U=>?_);obtain⟨he,u⟩:=C;replace he:=he.symm;subst he;have I:=U _ u;refine al I fun a I=>?_;refine qy I (vb (vs:=[pt g 0]) I rfl) fun a I=>?_;obtain⟨m,p,B⟩:=bd B;replace I:=I.re [0] [1];refine wl rfl (ba I Rg rfl rfl (Do _ _ I.zt (aL.mk b.2.l b.2.f) _ I.dok _ p) fun _ w C a O U=>?_);obtain⟨h,s,he,j,x⟩:=C;obtain rfl:=he.symm;have I:=U _ x;replace I:=I.fR (j.keep (aj _ _) (ax _));refine al I fun a I=>?_;obtain⟨d,q,B⟩:=bd B;replace I:=I.re [0] [1,2];refine wl rfl (ba I IX rfl rfl (jU _ _ I.zt (aL.mk m.2.l m.2.f) _ I.dok _ q) fun _ w C a O U=>?_);obtain⟨he,z⟩:=C;replace he:=he.symm;subst he;have I:=U _ z;refine al I fun a I=>?_;obtain⟨n,r,B⟩:=bd B;replace I:=I.re [0] [1,2];refine wl rfl (ba I xI rfl rfl (bD _ _ I.zt (aL.mk d.2.l d.2.f) _ I.dok _ r) fun _ w C a O U=>?_);obtain⟨he,A⟩:=C;replace he:=he.symm;subst he;have I:=U _ A;refine qy I (br (ps:=[(0,.tmp 4),(1,.tmp 8),(2,.tmp 10),(3,.tmp 12)]) I SB uy rfl (us:=[(bm b.1),[h],[aU d.1],[am n.1]]) ⟨rfl,⟨(mF (ik (I.own _ (aD (i:=1) rfl)).1)),⟨rfl,⟨rfl,trivial⟩⟩⟩⟩ (ws:=[am b.1.k,aU b.1.t,h,aU d.1,am n.1]) rfl) fun a I=>?_;refine go I fun a w I=>?_;cases B
 refine aH I rfl (rC 2 I) ?_;have hZ:=I.sl [0,1] [0];exact⟨h,s,rfl,hZ.g0,hZ.zd⟩
def iI (b:(List aq)) (c:ByteArray) (d:Bool):=some ((b,(aL.mk c d)))
def eK (c:(List aq)) (i:Int) (g:ByteArray) (e:Bool):Option (Fl ((List aq)×Int×ByteArray×Bool) ((List aq)×ByteArray×Bool)):=cond (decide ((0:Int)<i)) (cond (!(e)) ((dA (aL.mk g e)).bind fun b=>gd (ce (c.length+([(aq.mk (ah.mk b.1.d.k b.1.d.t) b.1.v b.1.u b.1.h)]).length)) <| some (.go ((c++([(aq.mk (ah.mk b.1.d.k b.1.d.t) b.1.v b.1.u b.1.h)])),IntKind.i64.wrap (i-1),b.2.l,b.2.f))) (some (.out (c,g,e)))) (some (.out (c,g,e)))
def gA (c:aL):=(be c).bind fun b=>(loop (fun s:(List aq)×Int×ByteArray×Bool=>eK s.1 s.2.1 s.2.2.1 s.2.2.2) (([]:List aq),b.1,b.2.l,b.2.f)).bind fun r=>iI r.1 r.2.1 r.2.2
theorem yX (j:aL) (g:Nat) (hD:sS T L [.box g (bg j) 189]) (y:(List aq)×aL) (B:gA j=some y):bj aR (MD [.box g (bg j) 189]) 83 [pt g 0,.func (.func 84) #[pt g 0] #[]] L (fun v w'=>∃ (P:Value) (dG:bK),v=P/\aY au (dT T [.box g (bg y.2) 189,bI P dG]) w' dG y.1/\iq L w' [.box g (bg j) 189] [.box g (bg y.2) 189,bI P dG]):=by
 refine cW (c:=_) Tryz.func83 rfl T 26 Tryz.ntmps83 hT rfl hD fun a I=>?_;unfold gA at B;refine al I fun a I=>?_;refine aN (J:=fun a w=>∃ (q:(List aq)) (r:ByteArray) (z:Bool) (o:Value) (l:LV),St L (MD [.box g (bg j) 189]) T 26 [(5,o)] [bI o l,.box g [aU r,.bool z] 189] [ap au l q] a w/\iI q r z=some y) ?_ ?_
 ·refine al I fun a I=>?_;obtain⟨Y,F,B⟩:=bd B;replace I:=I.re [0] [];refine wl rfl (ba I xI rfl rfl (bD _ _ I.zt j _ I.dok _ F) fun _ w C a O U=>?_);obtain⟨he,G⟩:=C;replace he:=he.symm;subst he;have I:=U _ G;refine al I fun a I=>?_;replace I:=I.zn au 51 (by decide);obtain⟨r1,Q,hMo1⟩:=bd B;refine bH _ (fun s a w=>∃ (i:(List aq)) (n:Int) (e:ByteArray) (f:Bool) (p:Value) (m:LV),(i,n,e,f)=s/\St L (MD [.box g (bg j) 189]) T 26 [(0,pt g 0),(1,.func (.func 84) #[pt g 0] #[]),(5,p),(6,am n)] [bI p m,.box g [aU e,.bool f] 189] [ap au m i] a w) Q ⟨_,_,_,_,_,_,rfl,I.mt [0,1] [0]⟩ ?_;rintro s a w X ⟨i,n,e,f,p,m,rfl,I⟩ B hf1;have B:eK i n e f=some X:=B;unfold eK at B;refine aA ?_;refine dW ?_;refine al I fun a I=>?_;rcases cd B with⟨H,B⟩|⟨H,B⟩
  ·refine al I fun a I=>?_;rcases cd B with⟨K,B⟩|⟨K,B⟩
   ·refine al I fun a I=>?_;refine aA ?_;refine al I fun a I=>?_;obtain⟨b,E,B⟩:=bd B;replace I:=I.re [1] [0];refine wl rfl (uL (D0:=[.box g [aU e,.bool f] 189]) (Dr:=[bI p m]) (fst:=[pt g 0]) I rfl TP rfl rfl (ue _ _ I.zt (aL.mk e f) _ I.dok _ E) fun _ w C a O U=>?_);obtain⟨A,V,he,D,M⟩:=C;obtain rfl:=he.symm;have I:=U _ M;replace I:=I.fR (D.keep (aj _ _) (ax _));refine wl rfl (bf (ps:=[(0,.tmp 22)]) I tc uy (zl:=[am 0,aU cr,.slice none 0 0,aU cr,am 0]) (by kernel_rfl) rfl (us:=[(bo b.1 A)]) ⟨rfl,trivial⟩ (ws:=(bo b.1 A)) rfl rfl rfl rfl fun S a w O I=>?_);replace I:=I.zf (R:=cj) 2 rfl 0 rfl;replace I:=(I.lit (R:=au) (us:=(bo b.1 A)) (xs:=[(aq.mk (ah.mk b.1.d.k b.1.d.t) b.1.v b.1.u b.1.h)]) 0 rfl (by decide) (aJ (R:=au) (x:=(aq.mk (ah.mk b.1.d.k b.1.d.t) b.1.v b.1.u b.1.h)) (⟨_,rfl,I.g0⟩)) rfl rfl).zf (R:=au) 0 rfl 0 rfl;obtain⟨N,B⟩:=aP B;refine wl rfl (bR (R:=au) (xs:=i) (ys:=[(aq.mk (ah.mk b.1.d.k b.1.d.t) b.1.v b.1.u b.1.h)]) I tc (by decide) (by decide) rfl rfl 1 rfl 4 rfl 0 rfl N rfl fun Z W a w O I=>?_);exact fz
   refine al I fun a I=>?_;cases B
   have hr:=hf1 _ rfl;subst hr;have B:iI i e f=some y:=hMo1;exact fin
  refine al I fun a I=>?_;cases B
  have hr:=hf1 _ rfl;subst hr;have B:iI i e f=some y:=hMo1;exact fin
 rintro a w ⟨q,r,z,o,l,I,B⟩;unfold iI at B;refine al I fun a I=>?_;cases B
 refine aH I rfl (aw I rfl aF) ?_;have hZ:=I.sl [1,0] [0];exact⟨o,l,rfl,hZ.g0,hZ.zd⟩
def dP (c:aL) (b:Bool):=some ((b,c))
def fc (b:aL):=cond (!(b.f)) (dP b (b.l.toList==cr.toList)) (dP b false)
theorem rJ (e:aL) (b:Nat) (g:L.heap[b]? = some (.cells (bg e).toArray 189 (0,0))) (f:¬ T b) (y:Bool×aL) (B:fc e=some y):bj aR (fun k=>k=b) 66 [pt b 0] L (fun v w'=>v = .bool y.1/\w'.heap[b]? = some (.cells (bg y.2).toArray 189 (0,0))):=by
 refine oZ (c:=_) Tryz.func66 rfl T 15 Tryz.ntmps66 hT rfl g f fun a I=>?_;unfold fc at B;refine al I fun a I=>?_;refine aN (J:=fun a w=>∃ (d:Bool),St L (fun k=>k=b) T 15 [(2,.bool d)] [.box b (bg e) 189] [] a w/\dP e d=some y) ?_ ?_
 ·exact fz
 rintro a w ⟨d,I,B⟩;unfold dP at B;refine al I fun a I=>?_;cases B
 refine aH I rfl (aw I rfl aF) ?_;exact⟨rfl,I.zb 0 rfl⟩
def fm (b:ByteArray):Option (aL×Int):=cond (decide ((IntKind.i64.wrap ((b.size:Int)-16):Int)<0)) (some (((aL.mk cr false),8))) ((ln b 0 (IntKind.i64.wrap ((b.size:Int)-16))).bind fun c=>(ln b (IntKind.i64.wrap ((b.size:Int)-16)) b.size).bind fun d=>(sV c).bind fun f=>(lz f).bind fun g=>cond (!(g.toList==d.toList)) (some (((aL.mk cr false),46))) ((ln b 0 (IntKind.i64.wrap ((b.size:Int)-16))).bind fun e=>some (((aL.mk e false),0))))
theorem qX (i:ByteArray) (y:aL×Int) (B:fm i=some y):bj aR No 60 [aU i] L (fun v w'=>(y.2=0/\∃ (k:Nat),v = .tuple #[pt k 0,am y.2]/\L.heap.size<=k/\w'.heap[k]? = some (.cells (bg y.1).toArray 189 (0,0)))∨(y.2≠0/\v = .tuple #[.pointer none,am y.2])):=by
 refine en Tryz.func60 Tryz.ntmps60 hT fun a I=>?_;unfold fm at B;refine al I fun a I=>?_;refine aA ?_;refine al I fun a I=>?_;rcases cd B with⟨l,B⟩|⟨l,B⟩
 ·refine al I fun a I=>?_;cases B
  refine aH I Tryz.results60 (aw I rfl (aw I rfl aF)) ?_;exact .inr ⟨by show (8:Int)≠0; decide,rfl⟩
 refine al I fun a I=>?_;refine aA ?_;refine aA ?_;refine dr [] I fun w hQ I=>?_;refine gE [0,1] I fun a I=>?_;obtain⟨b,d,B⟩:=bd B;refine dq 2 I (v:=aU b) (jC (k1:=.i64) I Tryz.underlying9 rfl (.inr ⟨rfl,rfl⟩) (.inl ⟨_,rfl,rfl⟩) d) fun a I=>?_;refine gE [5,6] I fun a I=>?_;obtain⟨n,e,B⟩:=bd B;refine dq 7 I (v:=aU n) (jC (k2:=.i64) I Tryz.underlying9 rfl (.inl ⟨_,rfl,rfl⟩) (.inr ⟨rfl,rfl⟩) e) fun a I=>?_;obtain⟨o,g,B⟩:=bd B;refine ec 3 I OH (Br _ _ I.dlt b _ g) fun _ w C a O U=>?_;obtain rfl:=C;have I:=eL U;obtain⟨q,h,B⟩:=bd B;refine ec 4 I PQ (tb _ _ I.dlt o _ h) fun _ w C a O U=>?_;obtain rfl:=C;have I:=eL U;refine gE [8] I fun a I=>?_;refine eD ?_;refine al I fun a I=>?_;rcases cd B with⟨m,B⟩|⟨m,B⟩
 ·refine al I fun a I=>?_;cases B
  refine aH I Tryz.results60 (aw I rfl (aw I rfl aF)) ?_;exact .inr ⟨by show (46:Int)≠0; decide,rfl⟩
 refine al I fun a I=>?_;obtain⟨c,f,B⟩:=bd B;refine qy I (jC (k1:=.i64) I Tryz.underlying9 rfl (.inr ⟨rfl,rfl⟩) (.inl ⟨_,rfl,rfl⟩) f) fun a I=>?_;refine qy I (br (ps:=[(0,.tmp 21)]) I Sy S7 rfl (us:=[[aU c]]) ⟨rfl,trivial⟩ (ws:=[aU c,.bool false]) rfl) fun a I=>?_;refine kb I fun j p a w O I=>?_;refine al I fun a I=>?_;cases B
 refine aH I Tryz.results60 (aw I rfl (aw I rfl aF)) ?_;exact .inl ⟨rfl,j,rfl,I.boxNew 0 rfl,I.zb 0 rfl⟩
def bW (j:ByteArray):=(fm j).bind fun b=>cond (b.2 != 0) (some (((ao.mk 0 ([]) ([])),b.2))) ((be (aL.mk b.1.l b.1.f)).bind fun g=>(be (aL.mk g.2.l g.2.f)).bind fun c=>(gM (aL.mk c.2.l c.2.f)).bind fun d=>(fV (aL.mk d.2.l d.2.f)).bind fun e=>cond (g.1 != 11) (some (((ao.mk 0 ([]) ([])),5))) ((fc (aL.mk e.2.l e.2.f)).bind fun h=>cond (!(h.1)) (some (((ao.mk 0 ([]) ([])),5))) ((eu (ao.mk c.1 d.1 e.1)).bind fun i=>cond (!(i)) (some (((ao.mk 0 ([]) ([])),5))) (some (((ao.mk c.1 d.1 e.1),0))))))
theorem ie (hLv:fi T L) (p:ByteArray) (y:ao×Int) (B:bW p=some y):bj aR No 17 [aU p] L (fun v w'=>∃ (A:Value) (DL:bK) (D:Value) (sG:bK),v = .tuple #[.agg (bp y.1 A D).toArray,am y.2]/\kJ ab T L w' [aZ A DL,aK D sG] 91 A DL y.1.i/\kJ aa T L w' [aZ A DL,aK D sG] 33 D sG y.1.s/\(∀ k,A.ownBlock=some k->D.ownBlock≠some k)):=by
 refine en Tryz.func17 Tryz.ntmps17 hT fun a I=>?_;replace I:=I.fact ci (fi.dn hLv);unfold bW at B;refine kA I kg fun a0 a2 a w O I=>?_;refine al I fun a I=>?_;obtain⟨e,o,B⟩:=bd B;rcases cd B with⟨d,B⟩|⟨d,B⟩
 ·refine kc I Nz (qX _ _ I.dlt p _ o) fun _ w C a O U=>?_;obtain rfl:=Pc C d;have I:=U [] (fun r hr=>by cases hr) sD;refine al I fun a I=>?_;refine aA ?_;refine al I fun a I=>?_;refine qy I (br (ps:=[]) I yN kg rfl (us:=[]) trivial (ws:=[am 0,.slice none 0 0,.slice none 0 0]) rfl) fun a I=>?_;refine go I fun a w I=>?_;cases B
  refine aH I Tryz.results17 (bB I rfl 0 rfl gN rfl (fun h=>by cases h) (aw I rfl aF)) ?_;exact⟨.slice none 0 0,[],.slice none 0 0,[],rfl,ft _ _ _ _ _ _,ft _ _ _ _ _ _,(fun k h=>by simp [Value.ownBlock] at *)⟩
 refine kc I Nz (qX _ _ I.dlt p _ o) fun _ w C a O U=>?_;obtain⟨c,P,a3,Q⟩:=Pb C d;subst P;have I:=U [.box c (bg e.1) 189] (kv Q (fun k O=>by simp only [cS.dom,cp] at O; omega)) (AD _);refine al I fun a I=>?_;refine aA ?_;refine al I fun a I=>?_;obtain⟨z,E,B⟩:=bd B;replace I:=I.re [0] [1];refine wl rfl (ba I xI rfl rfl (bD _ _ I.zt (aL.mk e.1.l e.1.f) _ I.dok _ E) fun _ w C a O U=>?_);obtain⟨he,S⟩:=C;replace he:=he.symm;subst he;have I:=U _ S;refine al I fun a I=>?_;obtain⟨b,F,B⟩:=bd B;replace I:=I.re [0] [1];refine wl rfl (ba I xI rfl rfl (bD _ _ I.zt (aL.mk z.2.l z.2.f) _ I.dok _ F) fun _ w C a O U=>?_);obtain⟨he,V⟩:=C;replace he:=he.symm;subst he;have I:=U _ V;refine al I fun a I=>?_;refine qy I (vb (vs:=[pt c 0]) I rfl) fun a I=>?_;obtain⟨g,G,B⟩:=bd B;replace I:=I.re [0] [1];refine wl rfl (ba I TC rfl rfl (BR _ _ I.zt (aL.mk b.2.l b.2.f) _ I.dok _ G) fun _ w C a O U=>?_);obtain⟨m,M,he,u,W⟩:=C;obtain rfl:=he.symm;have I:=U _ W;replace I:=I.fR (u.keep (aj _ _) (ax _));refine al I fun a I=>?_;refine qy I (vb (vs:=[pt c 0]) I rfl) fun a I=>?_;obtain⟨j,H,B⟩:=bd B;replace I:=I.re [0] [1,2];refine wl rfl (ba I TE rfl rfl (A1 _ _ I.zt (aL.mk g.2.l g.2.f) _ I.dok _ H) fun _ w C a O U=>?_);obtain⟨n,N,he,x,X⟩:=C;obtain rfl:=he.symm;have I:=U _ X;replace I:=I.fR (x.keep (aj _ _) (ax _));refine qy I (br (ps:=[(0,.tmp 20),(1,.tmp 24),(2,.tmp 28)]) I yN kg rfl (us:=[[am b.1],[m],[n]]) ⟨rfl,⟨(mF (ik (I.own _ (aD (i:=2) rfl)).1)),⟨(mF (ik (I.own _ (aD (i:=1) rfl)).1)),trivial⟩⟩⟩ (ws:=[am b.1,m,n]) rfl) fun a I=>?_;refine ka I kg fun a1 a4 a w O I=>?_;refine go I fun a w I=>?_;refine aA ?_;refine dW ?_;refine al I fun a I=>?_;rcases cd B with⟨q,B⟩|⟨q,B⟩
 ·refine al I fun a I=>?_;refine qy I (br (ps:=[]) I yN kg rfl (us:=[]) trivial (ws:=[am 0,.slice none 0 0,.slice none 0 0]) rfl) fun a I=>?_;refine go I fun a w I=>?_;cases B
  refine aH I Tryz.results17 (bB I rfl 4 rfl gN rfl (fun h=>by cases h) (aw I rfl aF)) ?_;exact⟨.slice none 0 0,[],.slice none 0 0,[],rfl,ft _ _ _ _ _ _,ft _ _ _ _ _ _,(fun k h=>by simp [Value.ownBlock] at *)⟩
 refine al I fun a I=>?_;obtain⟨Z,J,B⟩:=bd B;refine wg I rfl rfl rfl q (bJ I R3 rfl rfl 1 rfl (rJ _ _ (I.drop 1).dlt (aL.mk j.2.l j.2.f) _ (I.zb 1 rfl) (I.zi 1 rfl) _ J) fun _ w C O=>?_);obtain⟨he,hrow⟩:=C;replace he:=he.symm;subst he;refine⟨(bg Z.2),hrow,fun a I=>?_⟩;refine al I fun a I=>?_;rcases cd B with⟨t,B⟩|⟨t,B⟩
 ·refine al I fun a I=>?_;refine qy I (br (ps:=[]) I yN kg rfl (us:=[]) trivial (ws:=[am 0,.slice none 0 0,.slice none 0 0]) rfl) fun a I=>?_;refine go I fun a w I=>?_;cases B
  refine aH I Tryz.results17 (bB I rfl 4 rfl gN rfl (fun h=>by cases h) (aw I rfl aF)) ?_;exact⟨.slice none 0 0,[],.slice none 0 0,[],rfl,ft _ _ _ _ _ _,ft _ _ _ _ _ _,(fun k h=>by simp [Value.ownBlock] at *)⟩
 refine al I fun a I=>?_;have hL:=I;replace hL:=hL.zf (R:=ab) 3 rfl 1 rfl;replace hL:=hL.zf (R:=aa) 2 rfl 1 rfl;obtain⟨a5,K,B⟩:=bd B;refine wg I rfl rfl rfl t (bP I RZ rfl rfl (uT _ _ hL.dlt hL.g4 (ao.mk b.1 g.1 j.1) _ _ hL.g1 hL.g0 _ K) fun _ w C a O U=>?_);obtain rfl:=C;have I:=eL U;refine al I fun a I=>?_;rcases cd B with⟨Y,B⟩|⟨Y,B⟩
 ·refine al I fun a I=>?_;refine qy I (br (ps:=[]) I yN kg rfl (us:=[]) trivial (ws:=[am 0,.slice none 0 0,.slice none 0 0]) rfl) fun a I=>?_;refine go I fun a w I=>?_;cases B
  refine aH I Tryz.results17 (bB I rfl 4 rfl gN rfl (fun h=>by cases h) (aw I rfl aF)) ?_;exact⟨.slice none 0 0,[],.slice none 0 0,[],rfl,ft _ _ _ _ _ _,ft _ _ _ _ _ _,(fun k h=>by simp [Value.ownBlock] at *)⟩
 refine go I fun a w I=>?_;cases B
 refine aH I Tryz.results17 (bB I rfl 4 rfl gN rfl (fun h=>by cases h) (aw I rfl aF)) ?_;exact⟨m,M,n,N,rfl,I.zo ⟨.inr (aD (i:=3) rfl),⟨.inr (aD (i:=2) rfl),trivial⟩⟩ 3 rfl 1 rfl,I.zo ⟨.inr (aD (i:=3) rfl),⟨.inr (aD (i:=2) rfl),trivial⟩⟩ 2 rfl 0 rfl,(I.zp 3 rfl 2 rfl (by decide))⟩
def cU (h:ByteArray):=(fm h).bind fun c=>cond (c.2 != 0) (some (([],c.2))) ((be (aL.mk c.1.l c.1.f)).bind fun d=>(gA (aL.mk d.2.l d.2.f)).bind fun b=>cond (d.1 != 12) (some (([],5))) ((fc (aL.mk b.2.l b.2.f)).bind fun e=>cond (!(e.1)) (some (([],5))) (cond (decide ((4000:Int)<(b.1.length:Int))) (some (([],5))) ((dK b.1).bind fun g=>cond (!(g)) (some (([],5))) (some ((b.1,0)))))))
theorem lB (hLv:fi T L) (g:ByteArray) (y:(List aq)×Int) (B:cU g=some y):bj aR No 23 [aU g] L (fun v w'=>∃ (H:Value) (DL:bK),v = .tuple #[H,am y.2]/\kJ au T L w' [bI H DL] 51 H DL y.1):=by
 refine en Tryz.func23 Tryz.ntmps23 hT fun a I=>?_;replace I:=I.fact ci (fi.dn hLv);unfold cU at B;refine al I fun a I=>?_;obtain⟨c,e,B⟩:=bd B;rcases cd B with⟨b,B⟩|⟨b,B⟩
 ·refine kc I Nz (qX _ _ I.dlt g _ e) fun _ w C a O U=>?_;obtain rfl:=Pc C b;have I:=U [] (fun r hr=>by cases hr) sD;refine al I fun a I=>?_;refine aA ?_;refine al I fun a I=>?_;cases B
  refine aH I Tryz.results23 (aw I rfl (aw I rfl aF)) ?_;exact⟨.slice none 0 0,[],rfl,ft _ _ _ _ _ _⟩
 refine kc I Nz (qX _ _ I.dlt g _ e) fun _ w C a O U=>?_;obtain⟨h,x,K,z⟩:=Pb C b;subst x;have I:=U [.box h (bg c.1) 189] (kv z (fun k O=>by simp only [cS.dom,cp] at O; omega)) (AD _);refine al I fun a I=>?_;refine aA ?_;refine al I fun a I=>?_;obtain⟨o,p,B⟩:=bd B;replace I:=I.re [0] [];refine wl rfl (ba I xI rfl rfl (bD _ _ I.zt (aL.mk c.1.l c.1.f) _ I.dok _ p) fun _ w C a O U=>?_);obtain⟨he,A⟩:=C;replace he:=he.symm;subst he;have I:=U _ A;refine al I fun a I=>?_;refine qy I (vb (vs:=[pt h 0]) I rfl) fun a I=>?_;obtain⟨d,q,B⟩:=bd B;replace I:=I.re [0] [];refine wl rfl (ba I TO rfl rfl (yX _ _ I.zt (aL.mk o.2.l o.2.f) _ I.dok _ q) fun _ w C a O U=>?_);obtain⟨J,u,he,n,D⟩:=C;obtain rfl:=he.symm;have I:=U _ D;replace I:=I.fR (n.keep (aj _ _) (ax _));refine al I fun a I=>?_;refine aA ?_;refine dW ?_;refine al I fun a I=>?_;rcases cd B with⟨j,B⟩|⟨j,B⟩
 ·refine al I fun a I=>?_;cases B
  refine aH I Tryz.results23 (aw I rfl (aw I rfl aF)) ?_;exact⟨.slice none 0 0,[],rfl,ft _ _ _ _ _ _⟩
 refine al I fun a I=>?_;obtain⟨G,s,B⟩:=bd B;refine wg I rfl rfl rfl j (bJ I R3 rfl rfl 0 rfl (rJ _ _ (I.drop 0).dlt (aL.mk d.2.l d.2.f) _ (I.zb 0 rfl) (I.zi 0 rfl) _ s) fun _ w C O=>?_);obtain⟨he,hrow⟩:=C;replace he:=he.symm;subst he;refine⟨(bg G.2),hrow,fun a I=>?_⟩;refine al I fun a I=>?_;rcases cd B with⟨E,B⟩|⟨E,B⟩
 ·refine al I fun a I=>?_;cases B
  refine aH I Tryz.results23 (aw I rfl (aw I rfl aF)) ?_;exact⟨.slice none 0 0,[],rfl,ft _ _ _ _ _ _⟩
 refine al I fun a I=>?_;rcases cd B with⟨m,B⟩|⟨m,B⟩
 ·refine al I fun a I=>?_;cases B
  refine aH I Tryz.results23 (aw I rfl (aw I rfl aF)) ?_;exact⟨.slice none 0 0,[],rfl,ft _ _ _ _ _ _⟩
 refine al I fun a I=>?_;have hL:=I;replace hL:=hL.zf (R:=au) 1 rfl 0 rfl;obtain⟨M,t,B⟩:=bd B;refine wg I rfl rfl rfl m (bP I R4 rfl rfl (td _ _ hL.dlt hL.g2 d.1 _ hL.g0 _ t) fun _ w C a O U=>?_);obtain rfl:=C;have I:=eL U;refine al I fun a I=>?_;rcases cd B with⟨F,B⟩|⟨F,B⟩
 ·refine al I fun a I=>?_;cases B
  refine aH I Tryz.results23 (aw I rfl (aw I rfl aF)) ?_;exact⟨.slice none 0 0,[],rfl,ft _ _ _ _ _ _⟩
 refine al I fun a I=>?_;cases B
 refine aH I Tryz.results23 (aw I rfl (aw I rfl aF)) ?_;exact⟨J,u,rfl,I.zo ⟨.inr (aD (i:=1) rfl),trivial⟩ 1 rfl 0 rfl⟩
def rj (b:Int):=some (b)
def iX (e:ByteArray) (c b:Int):Option (Fl (Int×Int) (Int)):=cond (decide (b<8)) ((bO e.toList b).bind fun d=>some (.go (sj .or .u64 (sR .u64 c 8) (IntKind.u64.wrap (d.toNat:Int)),IntKind.i64.wrap (b+1)))) (some (.out c))
def o2 (b:ByteArray):=(loop (fun s:Int×Int=>iX b s.1 s.2) (0,0)).bind fun r=>rj r
theorem FK (e:ByteArray) (y:Int) (B:o2 e=some y):bj aR No 133 [aU e] L (fun v w'=>v = .int .u64 y):=by
 refine en Tryz.func133 Tryz.ntmps133 hT fun a I=>?_;unfold o2 at B;refine al I fun a I=>?_;refine aN (J:=fun a w=>∃ (d:Int),St L No T 17 [(3,.int .u64 d)] [] [] a w/\rj d=some y) ?_ ?_
 ·refine al I fun a I=>?_;obtain⟨k,h,hMo1⟩:=bd B;refine bH _ (fun s a w=>∃ (c b:Int),(c,b)=s/\St L No T 17 [(0,aU e),(3,.int .u64 c),(5,am b)] [] [] a w) h ⟨_,_,rfl,I.mt [] []⟩ ?_;rintro s a w j ⟨c,b,rfl,I⟩ B hf1;have B:iX e c b=some j:=B;unfold iX at B;refine al I fun a I=>?_;refine aA ?_;rcases cd B with⟨g,B⟩|⟨g,B⟩
  ·refine al I fun a I=>?_;refine aA ?_;refine al I fun a I=>?_;refine qy I (DC I rfl rfl rfl) fun a I=>?_;refine al I fun a I=>?_;obtain⟨i,f,B⟩:=bd B;refine qy I (vR I Tryz.underlying9 rfl rfl f) fun a I=>?_;refine al I fun a I=>?_;refine qy I (vQ I rfl rfl rfl) fun a I=>?_;exact fz
  exact fz
 rintro a w ⟨d,I,B⟩;unfold rj at B;exact fz
def bx (b:aM):=cond b.f (some ((0,(aM.mk b.S true)))) (cond (decide (((b.S.size:Int):Int)<8)) (some ((0,(aM.mk b.S true)))) ((ln b.S 0 8).bind fun c=>(o2 c).bind fun e=>(ln b.S 8 b.S.size).bind fun d=>some ((IntKind.i64.wrap e,(aM.mk d b.f)))))
theorem cn (g:aM) (b:Nat) (m:L.heap[b]? = some (.cells (bQ g).toArray 118 (0,0))) (j:¬ T b) (y:Int×aM) (B:bx g=some y):bj aR (fun k=>k=b) 68 [pt b 0] L (fun v w'=>v=am y.1/\w'.heap[b]? = some (.cells (bQ y.2).toArray 118 (0,0))):=by
 refine oZ (c:=_) Tryz.func68 rfl T 35 Tryz.ntmps68 hT rfl m j fun a I=>?_;unfold bx at B;refine al I fun a I=>?_;refine aA ?_;refine dW ?_;refine al I fun a I=>?_;rcases cd B with⟨h,B⟩|⟨h,B⟩
 ·refine go I fun a w I=>?_;cases B
  refine aH I rfl (aw I rfl aF) ?_;exact⟨rfl,I.zb 0 rfl⟩
 refine al I fun a I=>?_;rcases cd B with⟨i,B⟩|⟨i,B⟩
 ·refine go I fun a w I=>?_;cases B
  refine aH I rfl (aw I rfl aF) ?_;exact⟨rfl,I.zb 0 rfl⟩
 refine al I fun a I=>?_;obtain⟨l,d,B⟩:=bd B;refine qy I (jC (k1:=.i64) I Tryz.underlying9 rfl (.inr ⟨rfl,rfl⟩) (.inl ⟨_,rfl,rfl⟩) d) fun a I=>?_;obtain⟨o,f,B⟩:=bd B;refine kF I Rb (FK _ _ I.dlt l _ f) fun w a I=>?_;obtain⟨n,e,B⟩:=bd B;refine qy I (jC (k2:=.i64) I Tryz.underlying9 rfl (.inl ⟨_,rfl,rfl⟩) (.inr ⟨rfl,rfl⟩) e) fun a I=>?_;refine go I fun a w I=>?_;cases B
 refine aH I rfl (aw I rfl aF) ?_;exact⟨rfl,I.zb 0 rfl⟩
def dE (d:aM) (c:Int):=(bx d).bind fun b=>cond (decide (b.1<0)) (some ((0,(aM.mk b.2.S true)))) (gd (c != 0) <| cond (decide ((IntKind.i64.wrap (Int.tdiv (b.2.S.size:Int) c):Int)<b.1)) (some ((0,(aM.mk b.2.S true)))) (some ((b.1,(aM.mk b.2.S b.2.f)))))
theorem nh (f:aM) (b:Int) (d:Nat) (m:L.heap[d]? = some (.cells (bQ f).toArray 118 (0,0))) (j:¬ T d) (y:Int×aM) (B:dE f b=some y):bj aR (fun k=>k=d) 69 [pt d 0,am b] L (fun v w'=>v=am y.1/\w'.heap[d]? = some (.cells (bQ y.2).toArray 118 (0,0))):=by
 refine oZ (c:=_) Tryz.func69 rfl T 25 Tryz.ntmps69 hT rfl m j fun a I=>?_;unfold dE at B;refine al I fun a I=>?_;obtain⟨l,g,B⟩:=bd B;refine wl rfl (bJ I BE rfl rfl 0 rfl (cn _ _ (I.drop 0).dlt f _ (I.zb 0 rfl) (I.zi 0 rfl) _ g) fun _ w C O=>?_);obtain⟨he,hrow⟩:=C;replace he:=he.symm;subst he;refine⟨(bQ l.2),hrow,fun a I=>?_⟩;refine al I fun a I=>?_;refine aA ?_;refine dW ?_;refine al I fun a I=>?_;rcases cd B with⟨e,B⟩|⟨e,B⟩
 ·refine go I fun a w I=>?_;cases B
  refine aH I rfl (aw I rfl aF) ?_;exact⟨rfl,I.zb 0 rfl⟩
 refine al I fun a I=>?_;obtain⟨h,B⟩:=aP B;refine qg I e (Bx I rfl rfl (bne_iff_ne.1 h)) fun a I=>?_;refine al I fun a I=>?_;rcases cd B with⟨i,B⟩|⟨i,B⟩
 ·refine go I fun a w I=>?_;cases B
  refine aH I rfl (aw I rfl aF) ?_;exact⟨rfl,I.zb 0 rfl⟩
 refine al I fun a I=>?_;cases B
 refine aH I rfl (aw I rfl aF) ?_;exact⟨rfl,I.zb 0 rfl⟩
def dS (b:aM) (c:Int):=cond b.f (some ((cr,(aM.mk b.S true)))) (cond (decide (c<0)) (some ((cr,(aM.mk b.S true)))) (cond (decide (((b.S.size:Int):Int)<c)) (some ((cr,(aM.mk b.S true)))) ((ln b.S 0 c).bind fun d=>(ln b.S c b.S.size).bind fun e=>some ((d,(aM.mk e b.f))))))
theorem nX (g:aM) (f:Int) (b:Nat) (m:L.heap[b]? = some (.cells (bQ g).toArray 118 (0,0))) (l:¬ T b) (y:ByteArray×aM) (B:dS g f=some y):bj aR (fun k=>k=b) 71 [pt b 0,am f] L (fun v w'=>v=aU y.1/\w'.heap[b]? = some (.cells (bQ y.2).toArray 118 (0,0))):=by
 refine oZ (c:=_) Tryz.func71 rfl T 42 Tryz.ntmps71 hT rfl m l fun a I=>?_;unfold dS at B;refine al I fun a I=>?_;refine aA ?_;refine dW ?_;refine al I fun a I=>?_;rcases cd B with⟨h,B⟩|⟨h,B⟩
 ·refine go I fun a w I=>?_;cases B
  refine aH I rfl (aw I rfl aF) ?_;exact⟨rfl,I.zb 0 rfl⟩
 refine al I fun a I=>?_;rcases cd B with⟨i,B⟩|⟨i,B⟩
 ·refine go I fun a w I=>?_;cases B
  refine aH I rfl (aw I rfl aF) ?_;exact⟨rfl,I.zb 0 rfl⟩
 refine al I fun a I=>?_;rcases cd B with⟨j,B⟩|⟨j,B⟩
 ·refine go I fun a w I=>?_;cases B
  refine aH I rfl (aw I rfl aF) ?_;exact⟨rfl,I.zb 0 rfl⟩
 refine al I fun a I=>?_;obtain⟨n,d,B⟩:=bd B;refine qy I (jC (k1:=.i64) I Tryz.underlying9 rfl (.inr ⟨rfl,rfl⟩) (.inl ⟨_,rfl,rfl⟩) d) fun a I=>?_;refine al I fun a I=>?_;obtain⟨o,e,B⟩:=bd B;refine qy I (jC (k2:=.i64) I Tryz.underlying9 rfl (.inl ⟨_,rfl,rfl⟩) (.inr ⟨rfl,rfl⟩) e) fun a I=>?_;refine go I fun a w I=>?_;cases B
 refine aH I rfl (aw I rfl aF) ?_;exact⟨rfl,I.zb 0 rfl⟩
def eG (e:aM):=(bx e).bind fun b=>(bx (aM.mk b.2.S b.2.f)).bind fun c=>(dS (aM.mk c.2.S c.2.f) c.1).bind fun d=>some (((ah.mk b.1 d.1),(aM.mk d.2.S d.2.f)))
theorem o6 (h:aM) (g:Nat) (n:L.heap[g]? = some (.cells (bQ h).toArray 118 (0,0))) (m:¬ T g) (y:ah×aM) (B:eG h=some y):bj aR (fun k=>k=g) 70 [pt g 0] L (fun v w'=>v = .agg (bm y.1).toArray/\w'.heap[g]? = some (.cells (bQ y.2).toArray 118 (0,0))):=by
 refine oZ (c:=_) Tryz.func70 rfl T 12 Tryz.ntmps70 hT rfl n m fun a I=>?_;unfold eG at B;refine kA I iS fun o p a w O I=>?_;refine al I fun a I=>?_;obtain⟨b,i,B⟩:=bd B;refine wl rfl (bJ I BE rfl rfl 1 rfl (cn _ _ (I.drop 1).dlt h _ (I.zb 1 rfl) (I.zi 1 rfl) _ i) fun _ w C O=>?_);obtain⟨he,hrow⟩:=C;replace he:=he.symm;subst he;refine⟨(bQ b.2),hrow,fun a I=>?_⟩;refine al I fun a I=>?_;obtain⟨d,j,B⟩:=bd B;refine wl rfl (bJ I BE rfl rfl 1 rfl (cn _ _ (I.drop 1).dlt (aM.mk b.2.S b.2.f) _ (I.zb 1 rfl) (I.zi 1 rfl) _ j) fun _ w C O=>?_);obtain⟨he,hrow⟩:=C;replace he:=he.symm;subst he;refine⟨(bQ d.2),hrow,fun a I=>?_⟩;obtain⟨e,l,B⟩:=bd B;refine wl rfl (bJ I PP rfl rfl 1 rfl (nX _ _ (I.drop 1).dlt (aM.mk d.2.S d.2.f) d.1 _ (I.zb 1 rfl) (I.zi 1 rfl) _ l) fun _ w C O=>?_);obtain⟨he,hrow⟩:=C;replace he:=he.symm;subst he;refine⟨(bQ e.2),hrow,fun a I=>?_⟩;refine qy I (br (ps:=[(0,.tmp 6),(1,.tmp 10)]) I FJ iS rfl (us:=[[am b.1],[aU e.1]]) ⟨rfl,⟨rfl,trivial⟩⟩ (ws:=[am b.1,aU e.1]) rfl) fun a I=>?_;refine go I fun a w I=>?_;cases B
 refine aH I rfl (rC 0 I) ?_;exact⟨rfl,I.zb 1 rfl⟩
def lQ (b:ByteArray):Option (ByteArray×Int):=cond (decide (((b.size:Int):Int)<16)) (some ((cr,8))) ((ln b 0 (IntKind.i64.wrap ((b.size:Int)-16))).bind fun c=>(ln b (IntKind.i64.wrap ((b.size:Int)-16)) b.size).bind fun d=>(rU c).bind fun e=>(iW e).bind fun f=>cond (!(f.toList==d.toList)) (some ((cr,46))) (some ((c,0))))
theorem FQ (f:ByteArray) (y:ByteArray×Int) (B:lQ f=some y):bj aR No 67 [aU f] L (fun v w'=>v = .tuple #[aU y.1,am y.2]):=by
 refine en Tryz.func67 Tryz.ntmps67 hT fun a I=>?_;unfold lQ at B;refine al I fun a I=>?_;refine aA ?_;refine al I fun a I=>?_;rcases cd B with⟨g,B⟩|⟨g,B⟩
 ·refine al I fun a I=>?_;cases B
  refine aH I Tryz.results67 (aw I rfl (aw I rfl aF)) ?_;exact rfl
 refine al I fun a I=>?_;obtain⟨i,b,B⟩:=bd B;refine qy I (jC (k1:=.i64) I Tryz.underlying9 rfl (.inr ⟨rfl,rfl⟩) (.inl ⟨_,rfl,rfl⟩) b) fun a I=>?_;refine al I fun a I=>?_;refine aA ?_;refine aA ?_;refine dr [] I fun w hQ I=>?_;refine gE [0,3,4,5,6] I fun a I=>?_;obtain⟨j,c,B⟩:=bd B;refine dq 7 I (v:=aU j) (jC (k2:=.i64) I Tryz.underlying9 rfl (.inl ⟨_,rfl,rfl⟩) (.inr ⟨rfl,rfl⟩) c) fun a I=>?_;obtain⟨k,d,B⟩:=bd B;refine ec 1 I Ny (vB _ _ I.dlt i _ d) fun _ w C a O U=>?_;obtain rfl:=C;have I:=eL U;obtain⟨l,e,B⟩:=bd B;refine ec 2 I Nx (ri _ _ I.dlt k _ e) fun _ w C a O U=>?_;obtain rfl:=C;have I:=eL U;refine gE [8] I fun a I=>?_;refine eD ?_;refine al I fun a I=>?_;rcases cd B with⟨h,B⟩|⟨h,B⟩
 ·refine al I fun a I=>?_;cases B
  refine aH I Tryz.results67 (aw I rfl (aw I rfl aF)) ?_;exact rfl
 refine al I fun a I=>?_;cases B
 refine aH I Tryz.results67 (aw I rfl (aw I rfl aF)) ?_;exact rfl
def rx (b:ByteArray):=(ni b).bind fun c=>some (c)
def ry (b:Int) (c:ByteArray):Option (Fl (ByteArray×Int) (ByteArray)):=some (.go (c,IntKind.i64.wrap (b+1)))
def mA (k:Int) (f:ay) (i:ByteArray) (j:Int):=(dz f.x).bind fun b=>(dz f.c).bind fun d=>gd (Nat.ble (b.size+d.size) 140737488355328) <| (dz f.h).bind fun e=>gd (Nat.ble ((b++d).size+e.size) 140737488355328) <| (dz j).bind fun g=>gd (Nat.ble (((b++d)++e).size+g.size) 140737488355328) <| gd (Nat.ble (i.size+(((b++d)++e)++g).size) 140737488355328) <| ry k (i++(((b++d)++e)++g))
def rA (c:Int) (b:ay) (d:ByteArray):=cond b.w (mA c b d 1) (mA c b d 0)
def ko (d:ay) (c:ByteArray) (b:Int):Option (Fl (ByteArray×Int) (ByteArray)):=cond (decide (b<(d.v.length:Int))) ((bO d.v b).bind fun f=>(ld f).bind fun e=>gd (Nat.ble (c.size+e.size) 140737488355328) <| some (.go ((c++e),IntKind.i64.wrap (b+1)))) (some (.out c))
def kp (i:ao) (g:ByteArray) (f:Int):=cond (decide (f<(i.s.length:Int))) ((bO i.s f).bind fun b=>(ld b.d).bind fun c=>(mB b.u).bind fun e=>gd (Nat.ble (c.size+e.size) 140737488355328) <| (dz (b.v.length:Int)).bind fun h=>gd (Nat.ble ((c++e).size+h.size) 140737488355328) <| gd (Nat.ble (g.size+((c++e)++h).size) 140737488355328) <| (loop (fun s:ByteArray×Int=>ko b s.1 s.2) ((g++((c++e)++h)),0)).bind fun r=>rA f b r) (some (.out g))
def rB (d:ao) (b:ByteArray):=(dz (d.s.length:Int)).bind fun c=>gd (Nat.ble (b.size+c.size) 140737488355328) <| (loop (fun s:ByteArray×Int=>kp d s.1 s.2) ((b++c),0)).bind fun r=>rx r
def kq (j:ao) (g:ByteArray) (f:Int):Option (Fl (ByteArray×Int) (ByteArray)):=cond (decide (f<(j.i.length:Int))) ((bO j.i f).bind fun e=>(ld e.d).bind fun b=>(mB e.u).bind fun c=>gd (Nat.ble (b.size+c.size) 140737488355328) <| (dz e.x).bind fun h=>gd (Nat.ble ((b++c).size+h.size) 140737488355328) <| gd (Nat.ble (g.size+((b++c)++h).size) 140737488355328) <| some (.go ((g++((b++c)++h)),IntKind.i64.wrap (f+1)))) (some (.out g))
def fK (b:ao):=(ge b).bind fun f=>cond (!(f)) (some (cr)) ((dz 11).bind fun c=>(dz b.r).bind fun d=>gd (Nat.ble (c.size+d.size) 140737488355328) <| (dz (b.i.length:Int)).bind fun e=>gd (Nat.ble ((c++d).size+e.size) 140737488355328) <| (loop (fun s:ByteArray×Int=>kq b s.1 s.2) (((c++d)++e),0)).bind fun r=>rB b r)
theorem vH (hLv:fi T L) (b:ao) (S g:Value) (d5:aI ab T L S b.i) (d6:aI aa T L g b.s) (y:ByteArray) (B:fK b=some y):bj aR No 14 [.agg (bp b S g).toArray] L (fun v w'=>v=aU y):=by
 refine en Tryz.func14 Tryz.ntmps14 hT fun a I=>?_;replace I:=((I.fact ci (fi.dn hLv)).fS (aI.dn d5)).fS (aI.dn d6);unfold fK at B;refine kB I fun o e5 a w O I=>?_;refine al I fun a I=>?_;refine aA ?_;refine al I fun a I=>?_;obtain⟨ew,b4,B⟩:=bd B;refine kF I Ns (rr _ _ I.dlt I.g2 b _ _ I.g1 I.g0 _ b4) fun w a I=>?_;rcases cd B with⟨bb,B⟩|⟨bb,B⟩
 ·exact fz
 refine al I fun a I=>?_;refine aA ?_;refine dr [] I fun w hQ I=>?_;refine gE [1,2,5,6,7] I fun a I=>?_;obtain⟨a0,b5,B⟩:=bd B;refine ec 0 I yw (ep _ _ I.dlt 11 _ b5) fun _ w C a O U=>?_;obtain rfl:=C;have I:=eL U;obtain⟨a1,b6,B⟩:=bd B;refine ec 3 I yw (ep _ _ I.dlt b.r _ b6) fun _ w C a O U=>?_;obtain rfl:=C;have I:=eL U;obtain⟨bi,B⟩:=aP B;refine dq 4 I (v:=aU (a0++a1)) (gq I rfl rfl (cw bi)) fun a I=>?_;obtain⟨d3,b7,B⟩:=bd B;refine ec 8 I yw (ep _ _ I.dlt (b.i.length:Int) _ b7) fun _ w C a O U=>?_;obtain rfl:=C;have I:=eL U;obtain⟨bl,B⟩:=aP B;refine dq 9 I (v:=aU ((a0++a1)++d3)) (gq I rfl rfl (cw bl)) fun a I=>?_;refine gE [10] I fun a I=>?_;refine eD ?_;refine al I fun a I=>?_;refine aN (J:=fun a w=>∃ (H:ByteArray),St L No T 105 [(1,pt o 0),(3,aU H)] [.box o (bp b S g) 25] [aT ab S b.i,aT aa g b.s,ci] a w/\rB b H=some y) ?_ ?_
 ·refine al I fun a I=>?_;obtain⟨r1,W,hMo1⟩:=bd B;refine bH _ (fun s a w=>∃ (n:ByteArray) (t:Int),(n,t)=s/\St L No T 105 [(1,pt o 0),(3,aU n),(25,S),(26,am (b.i.length:Int)),(27,am t)] [.box o (bp b S g) 25] [aT ab S b.i,aT aa g b.s,ci] a w) W ⟨_,_,rfl,I.mt [0] [1,0,2]⟩ ?_;rintro s a w V ⟨n,t,rfl,I⟩ B hf1;have B:kq b n t=some V:=B;unfold kq at B;refine al I fun a I=>?_;refine aA ?_;rcases cd B with⟨bs,B⟩|⟨bs,B⟩
  ·refine al I fun a I=>?_;refine aA ?_;refine al I fun a I=>?_;obtain⟨F,a4,B⟩:=bd B;refine wl rfl (bE (R:=ab) I Dp BS rfl rfl 0 rfl a4 rfl fun d7 ed e0 bt a I=>?_);obtain rfl:=bt;refine kA I vU fun d8 e6 a w O I=>?_;refine go I fun a w I=>?_;refine dr [] I fun w hQ I=>?_;refine gE [0,1,2,4,5,8,9] I fun a I=>?_;obtain⟨P,b1,B⟩:=bd B;refine ec 3 I Lb (r9 _ _ I.dlt F.d _ b1) fun _ w C a O U=>?_;obtain rfl:=C;have I:=eL U;obtain⟨Q,b2,B⟩:=bd B;refine ec 6 I Nv (tW _ _ I.dlt F.u _ b2) fun _ w C a O U=>?_;obtain rfl:=C;have I:=eL U;obtain⟨c1,B⟩:=aP B;refine dq 7 I (v:=aU (P++Q)) (gq I rfl rfl (cw c1)) fun a I=>?_;obtain⟨Z,b3,B⟩:=bd B;refine ec 10 I yw (ep _ _ I.dlt F.x _ b3) fun _ w C a O U=>?_;obtain rfl:=C;have I:=eL U;obtain⟨c2,B⟩:=aP B;refine dq 11 I (v:=aU ((P++Q)++Z)) (gq I rfl rfl (cw c2)) fun a I=>?_;obtain⟨c3,B⟩:=aP B;refine dq 12 I (v:=aU (n++((P++Q)++Z))) (gq I rfl rfl (cw c3)) fun a I=>?_;refine gE [13] I fun a I=>?_;refine eD ?_;exact fz
  exact fz
 rintro a w ⟨H,I,B⟩;unfold rB at B;refine al I fun a I=>?_;obtain⟨et,b0,B⟩:=bd B;refine kE I yw (ep _ _ I.dlt (b.s.length:Int) _ b0) fun w a I=>?_;obtain⟨c4,B⟩:=aP B;refine qy I (gq I rfl rfl (cw c4)) fun a I=>?_;refine al I fun a I=>?_;refine aN (J:=fun a w=>∃ (z:ByteArray),St L No T 105 [(3,aU z)] [] [ci] a w/\rx z=some y) ?_ ?_
 ·refine al I fun a I=>?_;obtain⟨r1,W,hMo1⟩:=bd B;refine bH _ (fun s a w=>∃ (m:ByteArray) (f:Int),(m,f)=s/\St L No T 105 [(3,aU m),(52,g),(53,am (b.s.length:Int)),(54,am f)] [] [aT aa g b.s,ci] a w) W ⟨_,_,rfl,I.mt [] [1,2]⟩ ?_;rintro s a w V ⟨m,f,rfl,I⟩ B hf1;have B:kp b m f=some V:=B;unfold kp at B;refine al I fun a I=>?_;refine aA ?_;rcases cd B with⟨c5,B⟩|⟨c5,B⟩
  ·refine al I fun a I=>?_;refine aN (J:=fun a w=>∃ (G:ByteArray),St L No T 105 [(3,aU G),(52,g),(53,am (b.s.length:Int)),(54,am f)] [] [aT aa g b.s,ci] a w/\ry f G=some V) ?_ ?_
   ·refine al I fun a I=>?_;obtain⟨e,a2,B⟩:=bd B;refine wl rfl (bE (R:=aa) I qQ oy rfl rfl 0 rfl a2 rfl fun d9 ei e2 c6 a I=>?_);obtain⟨j,rfl,b8⟩:=c6;replace I:=I.fS b8;refine kA I f0 fun k e7 a w O I=>?_;refine go I fun a w I=>?_;refine aA ?_;refine dr [] I fun w hQ I=>?_;refine gE [0,1,2,4,5,8,9,10] I fun a I=>?_;obtain⟨M,ak,B⟩:=bd B;refine ec 3 I Lb (r9 _ _ I.dlt e.d _ ak) fun _ w C a O U=>?_;obtain rfl:=C;have I:=eL U;obtain⟨N,an,B⟩:=bd B;refine ec 6 I Nv (tW _ _ I.dlt e.u _ an) fun _ w C a O U=>?_;obtain rfl:=C;have I:=eL U;obtain⟨c9,B⟩:=aP B;refine dq 7 I (v:=aU (M++N)) (gq I rfl rfl (cw c9)) fun a I=>?_;obtain⟨Y,av,B⟩:=bd B;refine ec 11 I yw (ep _ _ I.dlt (e.v.length:Int) _ av) fun _ w C a O U=>?_;obtain rfl:=C;have I:=eL U;obtain⟨ca,B⟩:=aP B;refine dq 12 I (v:=aU ((M++N)++Y)) (gq I rfl rfl (cw ca)) fun a I=>?_;obtain⟨ch,B⟩:=aP B;refine dq 13 I (v:=aU (m++((M++N)++Y))) (gq I rfl rfl (cw ch)) fun a I=>?_;refine gE [14] I fun a I=>?_;refine eD ?_;refine al I fun a I=>?_;refine aN (J:=fun a w=>∃ (l:ByteArray),St L No T 105 [(3,aU l),(7,pt k 0),(52,g),(53,am (b.s.length:Int)),(54,am f)] [.box k (bA e j) 33] [aT aa g b.s,aT ac j e.v,ci] a w/\rA f e l=some V) ?_ ?_
    ·refine al I fun a I=>?_;obtain⟨r2,d4,hMo2⟩:=bd B;refine bH _ (fun s a w=>∃ (A:ByteArray) (q:Int),(A,q)=s/\St L No T 105 [(3,aU A),(7,pt k 0),(52,g),(53,am (b.s.length:Int)),(54,am f),(73,j),(74,am (e.v.length:Int)),(75,am q)] [.box k (bA e j) 33] [aT aa g b.s,aT ac j e.v,ci] a w) d4 ⟨_,_,rfl,I.mt [0] [2,0,3]⟩ ?_;rintro s a w f2 ⟨A,q,rfl,I⟩ B hf2;have B:ko e A q=some f2:=B;unfold ko at B;refine al I fun a I=>?_;refine aA ?_;rcases cd B with⟨ck,B⟩|⟨ck,B⟩
     ·refine al I fun a I=>?_;refine aA ?_;refine al I fun a I=>?_;obtain⟨b9,a3,B⟩:=bd B;refine wl rfl (bE (R:=ac) I qR iQ rfl rfl 1 rfl a3 rfl fun dl el e3 cl a I=>?_);obtain rfl:=cl;refine kA I iS fun ds ea a w O I=>?_;refine go I fun a w I=>?_;obtain⟨er,ag,B⟩:=bd B;refine kE I Lb (r9 _ _ I.dlt b9 _ ag) fun w a I=>?_;obtain⟨cs,B⟩:=aP B;refine qy I (gq I rfl rfl (cw cs)) fun a I=>?_;exact fz
     exact fz
    rintro a w ⟨l,I,B⟩;unfold rA at B;refine al I fun a I=>?_;refine aN (J:=fun a w=>∃ (p:Int),St L No T 105 [(3,aU l),(7,pt k 0),(10,am p),(52,g),(53,am (b.s.length:Int)),(54,am f)] [.box k (bA e j) 33] [aT aa g b.s,aT ac j e.v,ci] a w/\mA f e l p=some V) ?_ ?_
    ·exact fz
    rintro a w ⟨p,I,B⟩;unfold mA at B;refine dr [] I fun w hQ I=>?_;refine gE [0,1,2,4,5,8,9,12] I fun a I=>?_;obtain⟨D,a6,B⟩:=bd B;refine ec 3 I yw (ep _ _ I.dlt e.x _ a6) fun _ w C a O U=>?_;obtain rfl:=C;have I:=eL U;obtain⟨E,a7,B⟩:=bd B;refine ec 6 I yw (ep _ _ I.dlt e.c _ a7) fun _ w C a O U=>?_;obtain rfl:=C;have I:=eL U;obtain⟨cv,B⟩:=aP B;refine dq 7 I (v:=aU (D++E)) (gq I rfl rfl (cw cv)) fun a I=>?_;obtain⟨K,a9,B⟩:=bd B;refine ec 10 I yw (ep _ _ I.dlt e.h _ a9) fun _ w C a O U=>?_;obtain rfl:=C;have I:=eL U;obtain⟨d0,B⟩:=aP B;refine dq 11 I (v:=aU ((D++E)++K)) (gq I rfl rfl (cw d0)) fun a I=>?_;obtain⟨X,af,B⟩:=bd B;refine ec 13 I yw (ep _ _ I.dlt p _ af) fun _ w C a O U=>?_;obtain rfl:=C;have I:=eL U;obtain⟨d1,B⟩:=aP B;refine dq 14 I (v:=aU (((D++E)++K)++X)) (gq I rfl rfl (cw d1)) fun a I=>?_;obtain⟨d2,B⟩:=aP B;refine dq 15 I (v:=aU (l++(((D++E)++K)++X))) (gq I rfl rfl (cw d2)) fun a I=>?_;refine gE [16] I fun a I=>?_;refine eD ?_;exact fin
   rintro a w ⟨G,I,B⟩;unfold ry at B;exact fz
  exact fz
 rintro a w ⟨z,I,B⟩;unfold rx at B;refine al I fun a I=>?_;obtain⟨eq,a5,B⟩:=bd B;refine kE I R1 (Ad _ _ I.dlt z _ a5) fun w a I=>?_;exact fz
def fL (g:ByteArray) (d:(Int×aM)) (b:LI) (h:ByteArray) (e:Bool) (c:LR):Option (ao×Int):=cond e (some (((ao.mk 0 ([]) ([])),5))) ((fK (ao.mk d.1 b c)).bind fun f=>cond (!(f.toList==g.toList)) (some (((ao.mk 0 ([]) ([])),5))) (some (((ao.mk d.1 b c),0))))
def j8 (e:Int) (c:ByteArray) (d:Bool) (b:LR):Option (Fl (Int×ByteArray×Bool×LR) (ByteArray×Bool×LR)):=some (.go (IntKind.i64.wrap (e-1),c,d,b))
def fN (n:Int) (h:LR) (b:(ah×aM)) (i:(ByteArray×aM)) (l:ByteArray) (m:Bool) (j:LK):=(bx (aM.mk l m)).bind fun c=>(bx (aM.mk c.2.S c.2.f)).bind fun d=>(bx (aM.mk d.2.S d.2.f)).bind fun e=>(bx (aM.mk e.2.S e.2.f)).bind fun g=>gd (ce (h.length+([(ay.mk (ah.mk b.1.k b.1.t) i.1 j c.1 d.1 e.1 (g.1==1))]).length)) <| j8 n g.2.S g.2.f (h++([(ay.mk (ah.mk b.1.k b.1.t) i.1 j c.1 d.1 e.1 (g.1==1))]))
def eO (g:Int) (e:ByteArray) (c:Bool) (d:LK):Option (Fl (Int×ByteArray×Bool×LK) (ByteArray×Bool×LK)):=cond (decide ((0:Int)<g)) (cond (!(c)) ((eG (aM.mk e c)).bind fun b=>gd (ce (d.length+([(ah.mk b.1.k b.1.t)]).length)) <| some (.go (IntKind.i64.wrap (g-1),b.2.S,b.2.f,(d++([(ah.mk b.1.k b.1.t)]))))) (some (.out (e,c,d)))) (some (.out (e,c,d)))
def eP (j:Int) (d:ByteArray) (b:Bool) (c:LR):=cond (decide ((0:Int)<j)) (cond (!(b)) ((eG (aM.mk d b)).bind fun e=>(bx (aM.mk e.2.S e.2.f)).bind fun h=>(dS (aM.mk h.2.S h.2.f) h.1).bind fun g=>(dE (aM.mk g.2.S g.2.f) 16).bind fun i=>(loop (fun s:Int×ByteArray×Bool×LK=>eO s.1 s.2.1 s.2.2.1 s.2.2.2) (i.1,i.2.S,i.2.f,([]:List ah))).bind fun r=>fN j c e g r.1 r.2.1 r.2.2) (some (.out (d,b,c)))) (some (.out (d,b,c)))
def fO (h:ByteArray) (g:(Int×aM)) (d:ByteArray) (e:Bool) (c:LI):=(dE (aM.mk d e) 64).bind fun b=>(loop (fun s:Int×ByteArray×Bool×LR=>eP s.1 s.2.1 s.2.2.1 s.2.2.2) (b.1,b.2.S,b.2.f,([]:List ay))).bind fun r=>fL h g c r.1 r.2.1 r.2.2
def eQ (j:Int) (h:ByteArray) (d:Bool) (c:LI):Option (Fl (Int×ByteArray×Bool×LI) (ByteArray×Bool×LI)):=cond (decide ((0:Int)<j)) (cond (!(d)) ((eG (aM.mk h d)).bind fun b=>(bx (aM.mk b.2.S b.2.f)).bind fun i=>(dS (aM.mk i.2.S i.2.f) i.1).bind fun e=>(bx (aM.mk e.2.S e.2.f)).bind fun g=>gd (ce (c.length+([(bc.mk (ah.mk b.1.k b.1.t) e.1 g.1)]).length)) <| some (.go (IntKind.i64.wrap (j-1),g.2.S,g.2.f,(c++([(bc.mk (ah.mk b.1.k b.1.t) e.1 g.1)]))))) (some (.out (h,d,c)))) (some (.out (h,d,c)))
def eY (g:ByteArray):=(lQ g).bind fun c=>cond (c.2 != 0) (some (((ao.mk 0 ([]) ([])),c.2))) ((bx (aM.mk c.1 false)).bind fun e=>(bx (aM.mk e.2.S e.2.f)).bind fun b=>(dE (aM.mk b.2.S b.2.f) 32).bind fun d=>(loop (fun s:Int×ByteArray×Bool×LI=>eQ s.1 s.2.1 s.2.2.1 s.2.2.2) (d.1,d.2.S,d.2.f,([]:List bc))).bind fun r=>fO g b r.1 r.2.1 r.2.2)
theorem AW (hLv:fi T L) (u:ByteArray) (y:ao×Int) (B:eY u=some y):bj aR No 18 [aU u] L (fun v w'=>∃ (v1:Value) (DL:bK) (v3:Value) (sG:bK),v = .tuple #[.agg (bp y.1 v1 v3).toArray,am y.2]/\kJ ab T L w' [aZ v1 DL,aK v3 sG] 91 v1 DL y.1.i/\kJ aa T L w' [aZ v1 DL,aK v3 sG] 33 v3 sG y.1.s/\(∀ k,v1.ownBlock=some k->v3.ownBlock≠some k)):=by
 refine en Tryz.func18 Tryz.ntmps18 hT fun a I=>?_;replace I:=I.fact ci (fi.dn hLv);unfold eY at B;refine kA I kg fun j f6 a w O I=>?_;refine al I fun a I=>?_;obtain⟨bl,d7,B⟩:=bd B;refine kF I TG (FQ _ _ I.dlt u _ d7) fun w a I=>?_;refine aA ?_;refine al I fun a I=>?_;rcases cd B with⟨dl,B⟩|⟨dl,B⟩
 ·refine al I fun a I=>?_;refine qy I (br (ps:=[]) I yN kg rfl (us:=[]) trivial (ws:=[am 0,.slice none 0 0,.slice none 0 0]) rfl) fun a I=>?_;refine go I fun a w I=>?_;cases B
  refine aH I Tryz.results18 (bB I rfl 0 rfl gN rfl (fun h=>by cases h) (aw I rfl aF)) ?_;exact⟨.slice none 0 0,[],.slice none 0 0,[],rfl,ft _ _ _ _ _ _,ft _ _ _ _ _ _,(fun k h=>by simp [Value.ownBlock] at *)⟩
 refine al I fun a I=>?_;refine qy I (br (ps:=[(0,.tmp 23)]) I Sw S6 rfl (us:=[[aU bl.1]]) ⟨rfl,trivial⟩ (ws:=[aU bl.1,.bool false]) rfl) fun a I=>?_;refine kb I fun d fd a w O I=>?_;refine al I fun a I=>?_;obtain⟨bs,d8,B⟩:=bd B;refine wl rfl (bJ I BE rfl rfl 0 rfl (cn _ _ (I.drop 0).dlt (aM.mk bl.1 false) _ (I.zb 0 rfl) (I.zi 0 rfl) _ d8) fun _ w C O=>?_);obtain⟨he,hrow⟩:=C;replace he:=he.symm;subst he;refine⟨(bQ bs.2),hrow,fun a I=>?_⟩;refine al I fun a I=>?_;obtain⟨e,c5,B⟩:=bd B;refine wl rfl (bJ I BE rfl rfl 0 rfl (cn _ _ (I.drop 0).dlt (aM.mk bs.2.S bs.2.f) _ (I.zb 0 rfl) (I.zi 0 rfl) _ c5) fun _ w C O=>?_);obtain⟨he,hrow⟩:=C;replace he:=he.symm;subst he;refine⟨(bQ e.2),hrow,fun a I=>?_⟩;refine qy I (br (ps:=[(0,.tmp 29)]) I yN kg rfl (us:=[[am e.1]]) ⟨rfl,trivial⟩ (ws:=[am e.1,.slice none 0 0,.slice none 0 0]) rfl) fun a I=>?_;refine ka I kg fun g fl a w O I=>?_;refine go I fun a w I=>?_;refine aN (J:=fun a w=>∃ (af:ByteArray) (ag:Bool) (p:LI) (o:Value) (m:LV),St L No T 132 [(0,aU u),(2,pt j 0),(6,pt d 0),(7,pt g 0)] [.box j [am 0,.slice none 0 0,.slice none 0 0] 25,.box d [aU af,.bool ag] 118,aZ o m,.box g [am e.1,o,.slice none 0 0] 25] [ap ab m p,ci] a w/\fO u e af ag p=some y) ?_ ?_
 ·refine al I fun a I=>?_;obtain⟨eo,d9,B⟩:=bd B;refine wl rfl (bJ I PN rfl rfl 1 rfl (nh _ _ (I.drop 1).dlt (aM.mk e.2.S e.2.f) 32 _ (I.zb 1 rfl) (I.zi 1 rfl) _ d9) fun _ w C O=>?_);obtain⟨he,hrow⟩:=C;replace he:=he.symm;subst he;refine⟨(bQ eo.2),hrow,fun a I=>?_⟩;refine al I fun a I=>?_;replace I:=I.zn ab 91 (by decide);obtain⟨r1,c2,hMo1⟩:=bd B;refine bH _ (fun s a w=>∃ (an:Int) (V:ByteArray) (W:Bool) (H:LI) (a0:Value) (b3:LV),(an,V,W,H)=s/\St L No T 132 [(0,aU u),(2,pt j 0),(6,pt d 0),(7,pt g 0),(8,am an)] [.box j [am 0,.slice none 0 0,.slice none 0 0] 25,.box d [aU V,.bool W] 118,aZ a0 b3,.box g [am e.1,a0,.slice none 0 0] 25] [ap ab b3 H,ci] a w) c2 ⟨_,_,_,_,_,_,rfl,I.mt [3,2,0,1] [0,1]⟩ ?_;rintro s a w f1 ⟨an,V,W,H,a0,b3,rfl,I⟩ B hf1;have B:eQ an V W H=some f1:=B;unfold eQ at B;refine aA ?_;refine dW ?_;refine al I fun a I=>?_;rcases cd B with⟨ds,B⟩|⟨ds,B⟩
  ·refine al I fun a I=>?_;rcases cd B with⟨e0,B⟩|⟨e0,B⟩
   ·refine al I fun a I=>?_;refine aA ?_;refine al I fun a I=>?_;obtain⟨c,d3,B⟩:=bd B;refine wl rfl (bJ I PO rfl rfl 1 rfl (o6 _ _ (I.drop 1).dlt (aM.mk V W) _ (I.zb 1 rfl) (I.zi 1 rfl) _ d3) fun _ w C O=>?_);obtain⟨he,hrow⟩:=C;replace he:=he.symm;subst he;refine⟨(bQ c.2),hrow,fun a I=>?_⟩;refine ka I iS fun er fn a w O I=>?_;refine go I fun a w I=>?_;obtain⟨b0,d4,B⟩:=bd B;refine wl rfl (bJ I BE rfl rfl 2 rfl (cn _ _ (I.drop 2).dlt (aM.mk c.2.S c.2.f) _ (I.zb 2 rfl) (I.zi 2 rfl) _ d4) fun _ w C O=>?_);obtain⟨he,hrow⟩:=C;replace he:=he.symm;subst he;refine⟨(bQ b0.2),hrow,fun a I=>?_⟩;obtain⟨r,d5,B⟩:=bd B;refine wl rfl (bJ I PP rfl rfl 2 rfl (nX _ _ (I.drop 2).dlt (aM.mk b0.2.S b0.2.f) b0.1 _ (I.zb 2 rfl) (I.zi 2 rfl) _ d5) fun _ w C O=>?_);obtain⟨he,hrow⟩:=C;replace he:=he.symm;subst he;refine⟨(bQ r.2),hrow,fun a I=>?_⟩;refine al I fun a I=>?_;refine dr [(5,.blk (some d)),(8,.blk (Value.ownBlock a0)),(10,.blk (some g))] I fun w hQ I=>?_;refine gE [0] I fun a I=>?_;refine dq 1 I (l:=[.blk (some d)]) (v:=a0) (eA I rfl SV 4 rfl (iU I 4 rfl rfl 2 rfl rfl (by decide) cc) (us:=[a0]) rfl rfl (fun _=>rfl)) fun a I=>?_;refine dq 2 I (l:=[.blk (some d)]) (v:=.agg (bm c.1).toArray) (eA I rfl iQ 0 rfl (iU I 0 rfl rfl 2 rfl rfl (by decide) cc) (us:=(bm c.1)) rfl rfl (fun h=>by cases h)) fun a I=>?_;refine gE [3,4] I fun a I=>?_;obtain⟨D,d6,B⟩:=bd B;refine e1 5 (bJ I BE rfl rfl 2 rfl (cn _ _ (I.drop 2).dlt (aM.mk r.2.S r.2.f) _ (I.zb 2 rfl) (I.zi 2 rfl) _ d6) fun _ w C O=>?_);obtain⟨he,hrow⟩:=C;replace he:=he.symm;subst he;refine⟨(bQ D.2),hrow,fun a I=>⟨lw rfl O jW,?_⟩⟩;refine dq 6 I (v:=.agg #[am c.1.k,aU c.1.t,aU r.1,am D.1]) (br (ps:=[(0,.tmp 52),(1,.tmp 53),(2,.tmp 55)]) I Mj vU rfl (us:=[(bm c.1),[aU r.1],[am D.1]]) ⟨rfl,⟨rfl,⟨rfl,trivial⟩⟩⟩ (ws:=[am c.1.k,aU c.1.t,aU r.1,am D.1]) rfl) fun a I=>?_;refine e1 7 (bf (ps:=[(0,.tmp 56)]) I CC vU (zl:=[am 0,aU cr,aU cr,am 0]) (by kernel_rfl) rfl (us:=[[am c.1.k,aU c.1.t,aU r.1,am D.1]]) ⟨rfl,trivial⟩ (ws:=[am c.1.k,aU c.1.t,aU r.1,am D.1]) rfl rfl rfl rfl fun et a w O I=>⟨iJ (O),?_⟩);replace I:=(I.lit (R:=ab) (us:=[am c.1.k,aU c.1.t,aU r.1,am D.1]) (xs:=[(bc.mk (ah.mk c.1.k c.1.t) r.1 D.1)]) 0 rfl (by decide) (aJ (R:=ab) (x:=(bc.mk (ah.mk c.1.k c.1.t) r.1 D.1)) rfl) rfl rfl).zf (R:=ab) 0 rfl 0 rfl;obtain⟨e2,B⟩:=aP B;refine e1 8 (bR (R:=ab) (xs:=H) (ys:=[(bc.mk (ah.mk c.1.k c.1.t) r.1 D.1)]) I CC (by decide) (by decide) rfl rfl 3 rfl 2 rfl 0 rfl e2 rfl fun fS ez a w O I=>⟨lw rfl O kL,?_⟩);refine gE [9] I fun a I=>?_;refine es 10 I fun w I=>?_;refine eD ?_;exact fz
   refine al I fun a I=>?_;cases B
   have hr:=hf1 _ rfl;subst hr;have B:fO u e V W H=some y:=hMo1;exact fin
  refine al I fun a I=>?_;cases B
  have hr:=hf1 _ rfl;subst hr;have B:fO u e V W H=some y:=hMo1;exact fin
 rintro a w ⟨af,ag,p,o,m,I,B⟩;unfold fO at B;refine aN (J:=fun a w=>∃ (b8:ByteArray) (b9:Bool) (a5:LR) (b1:Value) (a6:LV),St L No T 132 [(0,aU u),(2,pt j 0),(6,pt d 0),(7,pt g 0)] [.box j [am 0,.slice none 0 0,.slice none 0 0] 25,.box d [aU b8,.bool b9] 118,aZ o m,aK b1 a6,.box g [am e.1,o,b1] 25] [ap ab m p,ap aa a6 a5,ci] a w/\fL u e p b8 b9 a5=some y) ?_ ?_
 ·refine al I fun a I=>?_;obtain⟨el,d2,B⟩:=bd B;refine wl rfl (bJ I PN rfl rfl 1 rfl (nh _ _ (I.drop 1).dlt (aM.mk af ag) 64 _ (I.zb 1 rfl) (I.zi 1 rfl) _ d2) fun _ w C O=>?_);obtain⟨he,hrow⟩:=C;replace he:=he.symm;subst he;refine⟨(bQ el.2),hrow,fun a I=>?_⟩;refine al I fun a I=>?_;replace I:=I.zn aa 33 (by decide);obtain⟨r1,c2,hMo1⟩:=bd B;refine bH _ (fun s a w=>∃ (z:Int) (P:ByteArray) (Q:Bool) (q:LR) (Y:Value) (K:LV),(z,P,Q,q)=s/\St L No T 132 [(0,aU u),(2,pt j 0),(6,pt d 0),(7,pt g 0),(11,am z)] [.box j [am 0,.slice none 0 0,.slice none 0 0] 25,.box d [aU P,.bool Q] 118,aZ o m,aK Y K,.box g [am e.1,o,Y] 25] [ap ab m p,ap aa K q,ci] a w) c2 ⟨_,_,_,_,_,_,rfl,I.mt [1,2,3,0,4] [1,0,2]⟩ ?_;rintro s a w f1 ⟨z,P,Q,q,Y,K,rfl,I⟩ B hf1;have B:eP z P Q q=some f1:=B;unfold eP at B;refine aA ?_;refine dW ?_;refine al I fun a I=>?_;rcases cd B with⟨e3,B⟩|⟨e3,B⟩
  ·refine al I fun a I=>?_;rcases cd B with⟨e4,B⟩|⟨e4,B⟩
   ·refine al I fun a I=>?_;refine aN (J:=fun a w=>∃ (bb:ByteArray) (bi:Bool) (b2:LR) (bt:Value) (b4:LV),St L No T 132 [(0,aU u),(2,pt j 0),(6,pt d 0),(7,pt g 0),(11,am z)] [.box j [am 0,.slice none 0 0,.slice none 0 0] 25,.box d [aU bb,.bool bi] 118,aZ o m,aK bt b4,.box g [am e.1,o,bt] 25] [ap ab m p,ap aa b4 b2,ci] a w/\j8 z bb bi b2=some f1) ?_ ?_
    ·refine al I fun a I=>?_;obtain⟨b,c9,B⟩:=bd B;refine wl rfl (bJ I PO rfl rfl 1 rfl (o6 _ _ (I.drop 1).dlt (aM.mk P Q) _ (I.zb 1 rfl) (I.zi 1 rfl) _ c9) fun _ w C O=>?_);obtain⟨he,hrow⟩:=C;replace he:=he.symm;subst he;refine⟨(bQ b.2),hrow,fun a I=>?_⟩;refine qy I (br (ps:=[(0,.tmp 74)]) I N1 f0 rfl (us:=[(bm b.1)]) ⟨rfl,trivial⟩ (ws:=[am b.1.k,aU b.1.t,aU cr,.slice none 0 0,am 0,am 0,am 0,.bool false]) rfl) fun a I=>?_;refine ka I f0 fun a4 fr a w O I=>?_;refine go I fun a w I=>?_;obtain⟨av,d0,B⟩:=bd B;refine wl rfl (bJ I BE rfl rfl 2 rfl (cn _ _ (I.drop 2).dlt (aM.mk b.2.S b.2.f) _ (I.zb 2 rfl) (I.zi 2 rfl) _ d0) fun _ w C O=>?_);obtain⟨he,hrow⟩:=C;replace he:=he.symm;subst he;refine⟨(bQ av.2),hrow,fun a I=>?_⟩;obtain⟨n,ca,B⟩:=bd B;refine wl rfl (bJ I PP rfl rfl 2 rfl (nX _ _ (I.drop 2).dlt (aM.mk av.2.S av.2.f) av.1 _ (I.zb 2 rfl) (I.zi 2 rfl) _ ca) fun _ w C O=>?_);obtain⟨he,hrow⟩:=C;replace he:=he.symm;subst he;refine⟨(bQ n.2),hrow,fun a I=>?_⟩;refine go I fun a w I=>?_;refine aN (J:=fun a w=>∃ (a7:ByteArray) (a9:Bool) (a3:LK) (a1:Value) (b5:LV),St L No T 132 [(0,aU u),(2,pt j 0),(6,pt d 0),(7,pt g 0),(11,am z),(12,pt a4 0)] [.box j [am 0,.slice none 0 0,.slice none 0 0] 25,.box d [aU a7,.bool a9] 118,aZ o m,aK Y K,.box g [am e.1,o,Y] 25,aE a1 b5,.box a4 [am b.1.k,aU b.1.t,aU n.1,a1,am 0,am 0,am 0,.bool false] 33] [ap ab m p,ap aa K q,ap ac b5 a3,ci] a w/\fN z q b n a7 a9 a3=some f1) ?_ ?_
     ·refine al I fun a I=>?_;obtain⟨ei,d1,B⟩:=bd B;refine wl rfl (bJ I PN rfl rfl 2 rfl (nh _ _ (I.drop 2).dlt (aM.mk n.2.S n.2.f) 16 _ (I.zb 2 rfl) (I.zi 2 rfl) _ d1) fun _ w C O=>?_);obtain⟨he,hrow⟩:=C;replace he:=he.symm;subst he;refine⟨(bQ ei.2),hrow,fun a I=>?_⟩;refine al I fun a I=>?_;replace I:=I.zn ac 30 (by decide);obtain⟨r2,eq,hMo2⟩:=bd B;refine bH _ (fun s a w=>∃ (ak:Int) (M:ByteArray) (N:Bool) (Z:LK) (a2:Value) (b6:LV),(ak,M,N,Z)=s/\St L No T 132 [(0,aU u),(2,pt j 0),(6,pt d 0),(7,pt g 0),(11,am z),(12,pt a4 0),(13,am ak)] [.box j [am 0,.slice none 0 0,.slice none 0 0] 25,.box d [aU M,.bool N] 118,aZ o m,aK Y K,.box g [am e.1,o,Y] 25,aE a2 b6,.box a4 [am b.1.k,aU b.1.t,aU n.1,a2,am 0,am 0,am 0,.bool false] 33] [ap ab m p,ap aa K q,ap ac b6 Z,ci] a w) eq ⟨_,_,_,_,_,_,rfl,I.mt [2,3,4,5,6,0,1] [1,2,0,3]⟩ ?_;rintro s a w f2 ⟨ak,M,N,Z,a2,b6,rfl,I⟩ B hf2;have B:eO ak M N Z=some f2:=B;unfold eO at B;refine aA ?_;refine dW ?_;refine al I fun a I=>?_;rcases cd B with⟨e5,B⟩|⟨e5,B⟩
      ·refine al I fun a I=>?_;rcases cd B with⟨e6,B⟩|⟨e6,B⟩
       ·refine al I fun a I=>?_;refine aA ?_;refine al I fun a I=>?_;refine dr [(3,.blk (some d)),(5,.blk (Value.ownBlock a2)),(7,.blk (some a4))] I fun w hQ I=>?_;refine gE [0] I fun a I=>?_;refine dq 1 I (l:=[.blk (some d)]) (v:=a2) (eA I rfl He 6 rfl (iU I 6 rfl rfl 1 rfl rfl (by decide) cc) (us:=[a2]) rfl rfl (fun _=>rfl)) fun a I=>?_;refine gE [2] I fun a I=>?_;obtain⟨A,cv,B⟩:=bd B;refine e1 3 (bJ I PO rfl rfl 1 rfl (o6 _ _ (I.drop 1).dlt (aM.mk M N) _ (I.zb 1 rfl) (I.zi 1 rfl) _ cv) fun _ w C O=>?_);obtain⟨he,hrow⟩:=C;replace he:=he.symm;subst he;refine⟨(bQ A.2),hrow,fun a I=>⟨lw rfl O jW,?_⟩⟩;refine e1 4 (bf (ps:=[(0,.tmp 97)]) I lr iS (zl:=[am 0,aU cr]) (by kernel_rfl) rfl (us:=[(bm A.1)]) ⟨rfl,trivial⟩ (ws:=(bm A.1)) rfl rfl rfl rfl fun ew a w O I=>⟨iJ (O),?_⟩);replace I:=(I.lit (R:=ac) (us:=(bm A.1)) (xs:=[(ah.mk A.1.k A.1.t)]) 0 rfl (by decide) (aJ (R:=ac) (x:=(ah.mk A.1.k A.1.t)) rfl) rfl rfl).zf (R:=ac) 0 rfl 0 rfl;obtain⟨e7,B⟩:=aP B;refine e1 5 (bR (R:=ac) (xs:=Z) (ys:=[(ah.mk A.1.k A.1.t)]) I lr (by decide) (by decide) rfl rfl 5 rfl 4 rfl 0 rfl e7 rfl fun g2 f3 a w O I=>⟨lw rfl O kL,?_⟩);refine gE [6] I fun a I=>?_;refine es 7 I fun w I=>?_;refine eD ?_;exact fz
       refine al I fun a I=>?_;cases B
       have hr:=hf2 _ rfl;subst hr;have B:fN z q b n M N Z=some f1:=hMo2;exact fin
      refine al I fun a I=>?_;cases B
      have hr:=hf2 _ rfl;subst hr;have B:fN z q b n M N Z=some f1:=hMo2;exact fin
     rintro a w ⟨a7,a9,a3,a1,b5,I,B⟩;unfold fN at B;refine al I fun a I=>?_;obtain⟨E,ch,B⟩:=bd B;refine wl rfl (bJ I BE rfl rfl 1 rfl (cn _ _ (I.drop 1).dlt (aM.mk a7 a9) _ (I.zb 1 rfl) (I.zi 1 rfl) _ ch) fun _ w C O=>?_);obtain⟨he,hrow⟩:=C;replace he:=he.symm;subst he;refine⟨(bQ E.2),hrow,fun a I=>?_⟩;refine al I fun a I=>?_;obtain⟨F,ck,B⟩:=bd B;refine wl rfl (bJ I BE rfl rfl 1 rfl (cn _ _ (I.drop 1).dlt (aM.mk E.2.S E.2.f) _ (I.zb 1 rfl) (I.zi 1 rfl) _ ck) fun _ w C O=>?_);obtain⟨he,hrow⟩:=C;replace he:=he.symm;subst he;refine⟨(bQ F.2),hrow,fun a I=>?_⟩;refine al I fun a I=>?_;obtain⟨G,cl,B⟩:=bd B;refine wl rfl (bJ I BE rfl rfl 1 rfl (cn _ _ (I.drop 1).dlt (aM.mk F.2.S F.2.f) _ (I.zb 1 rfl) (I.zi 1 rfl) _ cl) fun _ w C O=>?_);obtain⟨he,hrow⟩:=C;replace he:=he.symm;subst he;refine⟨(bQ G.2),hrow,fun a I=>?_⟩;refine go I fun a w I=>?_;obtain⟨X,cs,B⟩:=bd B;refine wl rfl (bJ I BE rfl rfl 1 rfl (cn _ _ (I.drop 1).dlt (aM.mk G.2.S G.2.f) _ (I.zb 1 rfl) (I.zi 1 rfl) _ cs) fun _ w C O=>?_);obtain⟨he,hrow⟩:=C;replace he:=he.symm;subst he;refine⟨(bQ X.2),hrow,fun a I=>?_⟩;refine go I fun a w I=>?_;refine wl rfl (bf (ps:=[(0,.tmp 116)]) I tL f0 (zl:=[am 0,aU cr,aU cr,.slice none 0 0,am 0,am 0,am 0,.bool false]) (by kernel_rfl) rfl (us:=[[am b.1.k,aU b.1.t,aU n.1,a1,am E.1,am F.1,am G.1,.bool (X.1==1)]]) ⟨rfl,trivial⟩ (ws:=[am b.1.k,aU b.1.t,aU n.1,a1,am E.1,am F.1,am G.1,.bool (X.1==1)]) rfl rfl rfl rfl fun ex a w O I=>?_);replace I:=I.zf (R:=ac) 6 rfl 2 rfl;replace I:=(I.lit (R:=aa) (us:=[am b.1.k,aU b.1.t,aU n.1,a1,am E.1,am F.1,am G.1,.bool (X.1==1)]) (xs:=[(ay.mk (ah.mk b.1.k b.1.t) n.1 a3 E.1 F.1 G.1 (X.1==1))]) 0 rfl (by decide) (aJ (R:=aa) (x:=(ay.mk (ah.mk b.1.k b.1.t) n.1 a3 E.1 F.1 G.1 (X.1==1))) (⟨_,rfl,I.g0⟩)) rfl rfl).zf (R:=aa) 0 rfl 0 rfl;obtain⟨ea,B⟩:=aP B;refine wl rfl (bR (R:=aa) (xs:=q) (ys:=[(ay.mk (ah.mk b.1.k b.1.t) n.1 a3 E.1 F.1 G.1 (X.1==1))]) I tL (by decide) (by decide) rfl rfl 3 rfl 4 rfl 0 rfl ea rfl fun g3 f4 a w O I=>?_);exact fz
    rintro a w ⟨bb,bi,b2,bt,b4,I,B⟩;unfold j8 at B;exact fz
   refine al I fun a I=>?_;cases B
   have hr:=hf1 _ rfl;subst hr;have B:fL u e p P Q q=some y:=hMo1;exact fin
  refine al I fun a I=>?_;cases B
  have hr:=hf1 _ rfl;subst hr;have B:fL u e p P Q q=some y:=hMo1;exact fin
 rintro a w ⟨b8,b9,a5,b1,a6,I,B⟩;unfold fL at B;refine aA ?_;refine dW ?_;refine al I fun a I=>?_;rcases cd B with⟨c1,B⟩|⟨c1,B⟩
 ·refine al I fun a I=>?_;refine qy I (br (ps:=[]) I yN kg rfl (us:=[]) trivial (ws:=[am 0,.slice none 0 0,.slice none 0 0]) rfl) fun a I=>?_;refine go I fun a w I=>?_;cases B
  refine aH I Tryz.results18 (bB I rfl 0 rfl gN rfl (fun h=>by cases h) (aw I rfl aF)) ?_;exact⟨.slice none 0 0,[],.slice none 0 0,[],rfl,ft _ _ _ _ _ _,ft _ _ _ _ _ _,(fun k h=>by simp [Value.ownBlock] at *)⟩
 refine al I fun a I=>?_;have hL:=I;replace hL:=hL.zf (R:=ab) 2 rfl 0 rfl;replace hL:=hL.zf (R:=aa) 2 rfl 2 rfl;obtain⟨fM,c6,B⟩:=bd B;refine wg I rfl rfl rfl c1 (bP I PH rfl rfl (vH _ _ hL.dlt hL.g4 (ao.mk e.1 p a5) _ _ hL.g1 hL.g0 _ c6) fun _ w C a O U=>?_);obtain rfl:=C;have I:=eL U;refine al I fun a I=>?_;rcases cd B with⟨ed,B⟩|⟨ed,B⟩
 ·refine al I fun a I=>?_;refine qy I (br (ps:=[]) I yN kg rfl (us:=[]) trivial (ws:=[am 0,.slice none 0 0,.slice none 0 0]) rfl) fun a I=>?_;refine go I fun a w I=>?_;cases B
  refine aH I Tryz.results18 (bB I rfl 0 rfl gN rfl (fun h=>by cases h) (aw I rfl aF)) ?_;exact⟨.slice none 0 0,[],.slice none 0 0,[],rfl,ft _ _ _ _ _ _,ft _ _ _ _ _ _,(fun k h=>by simp [Value.ownBlock] at *)⟩
 refine go I fun a w I=>?_;cases B
 refine aH I Tryz.results18 (bB I rfl 0 rfl gN rfl (fun h=>by cases h) (aw I rfl aF)) ?_;exact⟨o,m,b1,a6,rfl,I.zo ⟨.inr (aD (i:=2) rfl),⟨.inr (aD (i:=3) rfl),trivial⟩⟩ 2 rfl 0 rfl,I.zo ⟨.inr (aD (i:=2) rfl),⟨.inr (aD (i:=3) rfl),trivial⟩⟩ 3 rfl 1 rfl,(I.zp 2 rfl 3 rfl (by decide))⟩
def qN:=some (true)
def lc (f g:aq) (e:Int):Option (Fl (Int) (Fl (Unit) Bool)):=cond (decide (e<(f.v.length:Int))) ((bO f.v e).bind fun b=>(bO g.v e).bind fun c=>cond (!(c.d.k==b.d.k&&c.d.t.toList==b.d.t.toList&&c.j.d1==b.j.d1&&c.j.b1==b.j.b1)) (some (.out (.out false))) (some (.go (IntKind.i64.wrap (e+1))))) (some (.out (.go ())))
def ow (b c:aq):=cond (!(b.d.k==c.d.k&&b.d.t.toList==c.d.t.toList)) (some (false)) (cond (!(b.u.toList==c.u.toList)) (some (false)) (cond (b.h != c.h) (some (false)) (cond ((b.v.length:Int) != (c.v.length:Int)) (some (false)) ((loop (fun s:Int=>lc b c s) 0).bind fun r=>Fl.el r (fun s=>qN) (fun y=>some (y))))))
theorem BO (b c:aq) (m n:Value) (G:aI cj T L m b.v) (H:aI cj T L n c.v) (y:Bool) (B:ow b c=some y):bj aR No 86 [.agg (bo b m).toArray,.agg (bo c n).toArray] L (fun v w'=>v = .bool y):=by
 refine en Tryz.func86 Tryz.ntmps86 hT fun a I=>?_;replace I:=(I.fS (aI.dn G)).fS (aI.dn H);unfold ow at B;refine kB I fun K V a w O I=>?_;refine kb I fun h W a w O I=>?_;refine al I fun a I=>?_;refine aA ?_;refine dW ?_;refine al I fun a I=>?_;refine wl rfl (ky (v:=.bool (!(b.d.k==c.d.k&&b.d.t.toList==c.d.t.toList))) I (CI I rfl rfl) rfl rfl fun a I=>?_);refine al I fun a I=>?_;rcases cd B with⟨p,B⟩|⟨p,B⟩
 ·exact fz
 refine al I fun a I=>?_;rcases cd B with⟨q,B⟩|⟨q,B⟩
 ·exact fz
 refine al I fun a I=>?_;rcases cd B with⟨r,B⟩|⟨r,B⟩
 ·exact fz
 refine al I fun a I=>?_;rcases cd B with⟨u,B⟩|⟨u,B⟩
 ·exact fz
 refine al I fun a I=>?_;refine aN (J:=fun a w=>St L No T 51 [] [] [] a w/\qN=some y) ?_ ?_
 ·refine al I fun a I=>?_;obtain⟨Z,F,hMo1⟩:=bd B;refine bH _ (fun s a w=>∃ (g:Int),g=s/\St L No T 51 [(3,pt h 0),(36,m),(37,am (b.v.length:Int)),(38,am g)] [.box h (bo c n) 51] [aT cj m b.v,aT cj n c.v] a w) F ⟨_,rfl,I.mt [0] [1,0]⟩ ?_;rintro s a w S ⟨g,rfl,I⟩ B hf1;have B:lc b c g=some S:=B;unfold lc at B;refine al I fun a I=>?_;refine aA ?_;rcases cd B with⟨x,B⟩|⟨x,B⟩
  ·refine al I fun a I=>?_;refine aA ?_;refine al I fun a I=>?_;obtain⟨e,i,B⟩:=bd B;refine wl rfl (bE (R:=cj) I Ip Dy rfl rfl 0 rfl i rfl fun M Y P z a I=>?_);obtain rfl:=z;refine kA I ym fun N X a w O I=>?_;refine go I fun a w I=>?_;refine aA ?_;refine dr [] I fun w hQ I=>?_;refine gE [0,1,2] I fun a I=>?_;obtain⟨f,l,B⟩:=bd B;obtain⟨o,E,Q,A,D,I⟩:=nw (R:=cj) I Ip Dy 2 rfl l;obtain rfl:=A;refine dq 3 I (v:=pt o E) (D rfl rfl) fun a I=>?_;refine gE [4,5] I fun a I=>?_;refine dq 6 I (v:=.bool (!(f.d.k==e.d.k&&f.d.t.toList==e.d.t.toList&&f.j.d1==e.j.d1&&f.j.b1==e.j.b1))) (PW I rfl rfl) fun a I=>?_;refine eD ?_;exact fz
  exact fz
 rintro a w ⟨I,B⟩;unfold qN at B;exact fz
def lP:=some (true)
def fP (c g:(List aq)) (b:Int):Option (Fl (Int) (Fl (Unit) Bool)):=cond (decide (b<(c.length:Int))) ((bO c b).bind fun d=>(bO g b).bind fun e=>(ow d e).bind fun f=>cond (!(f)) (some (.out (.out false))) (some (.go (IntKind.i64.wrap (b+1))))) (some (.out (.go ())))
def iH (b c:(List aq)):=cond ((b.length:Int) != (c.length:Int)) (some (false)) ((loop (fun s:Int=>fP b c s) 0).bind fun r=>Fl.el r (fun s=>lP) (fun y=>some (y)))
theorem wj (c d:(List aq)) (j k:Value) (z:aI au T L j c) (A:aI au T L k d) (y:Bool) (B:iH c d=some y):bj aR No 25 [j,k] L (fun v w'=>v = .bool y):=by
 refine en Tryz.func25 Tryz.ntmps25 hT fun a I=>?_;replace I:=(I.fS (aI.dn z)).fS (aI.dn A);unfold iH at B;refine al I fun a I=>?_;refine aA ?_;refine al I fun a I=>?_;rcases cd B with⟨o,B⟩|⟨o,B⟩
 ·exact fz
 refine al I fun a I=>?_;refine aN (J:=fun a w=>St L No T 27 [] [] [] a w/\lP=some y) ?_ ?_
 ·refine al I fun a I=>?_;obtain⟨S,x,hMo1⟩:=bd B;refine bH _ (fun s a w=>∃ (b:Int),b=s/\St L No T 27 [(1,k),(12,j),(13,am (c.length:Int)),(14,am b)] [] [aT au k d,aT au j c] a w) x ⟨_,rfl,I.mt [] [0,1]⟩ ?_;rintro s a w H ⟨b,rfl,I⟩ B hf1;have B:fP c d b=some H:=B;unfold fP at B;refine al I fun a I=>?_;refine aA ?_;rcases cd B with⟨p,B⟩|⟨p,B⟩
  ·refine al I fun a I=>?_;refine aA ?_;refine al I fun a I=>?_;obtain⟨m,e,B⟩:=bd B;refine wl rfl (bE (R:=au) I A3 wm rfl rfl 1 rfl e rfl fun D M F q a I=>?_);obtain⟨P,rfl,h⟩:=q;replace I:=I.fS h;refine kA I uy fun E K a w O I=>?_;refine go I fun a w I=>?_;refine aA ?_;refine dr [] I fun w hQ I=>?_;refine gE [0,1,2] I fun a I=>?_;obtain⟨n,f,B⟩:=bd B;obtain⟨l,u,G,r,t,I⟩:=nw (R:=au) I A3 wm 2 rfl f;obtain⟨Q,rfl,i⟩:=r;replace I:=I.fS i;refine dq 3 I (v:=pt l u) (t rfl rfl) fun a I=>?_;refine gE [4] I fun a I=>?_;obtain⟨N,g,B⟩:=bd B;refine ec 5 I TQ (BO _ _ I.dlt m n _ _ I.g2 I.g0 _ g) fun _ w C a O U=>?_;obtain rfl:=C;have I:=eL U;refine gE [6] I fun a I=>?_;refine eD ?_;exact fz
  exact fz
 rintro a w ⟨I,B⟩;unfold lP at B;exact fz
def iM (b:ByteArray):=(rU b).bind fun d=>(iW d).bind fun c=>gd (Nat.ble (b.size+c.size) 140737488355328) <| some ((b++c))
theorem mQ (b y:ByteArray) (B:iM b=some y):bj aR No 15 [aU b] L (fun v w'=>v=aU y):=by
 refine en Tryz.func15 Tryz.ntmps15 hT fun a I=>?_;unfold iM at B;refine al I fun a I=>?_;obtain⟨f,c,B⟩:=bd B;refine kE I Ny (vB _ _ I.dlt b _ c) fun w a I=>?_;obtain⟨g,d,B⟩:=bd B;refine kE I Nx (ri _ _ I.dlt f _ d) fun w a I=>?_;obtain⟨e,B⟩:=aP B;refine qy I (gq I rfl rfl (cw e)) fun a I=>?_;exact fz
def nC (e:ByteArray) (n o c:Int):=cond (decide (((e.size:Int):Int)<17)) (some (e)) ((ln e 0 (IntKind.i64.wrap ((e.size:Int)-16))).bind fun b=>(mS o (b.size:Int)).bind fun d=>(mS n 7).bind fun f=>cond (f==0) ((ln e 0 d).bind fun h=>(ln e (IntKind.i64.wrap (d+1)) e.size).bind fun k=>gd (Nat.ble (h.size+(aV ([IntKind.u8.wrap c])).size) 140737488355328) <| gd (Nat.ble ((h++(aV ([IntKind.u8.wrap c]))).size+k.size) 140737488355328) <| some (((h++(aV ([IntKind.u8.wrap c])))++k))) (cond (f==1) ((ln b 0 d).bind fun i=>(ln b (IntKind.i64.wrap (d+1)) b.size).bind fun l=>gd (Nat.ble (i.size+(aV ([IntKind.u8.wrap c])).size) 140737488355328) <| gd (Nat.ble ((i++(aV ([IntKind.u8.wrap c]))).size+l.size) 140737488355328) <| (iM ((i++(aV ([IntKind.u8.wrap c])))++l)).bind fun r=>some (r)) (cond (f==2) ((ln b 0 d).bind fun p=>(iM p).bind fun s=>some (s)) (cond (f==3) (gd (Nat.ble (b.size+(aV ([IntKind.u8.wrap c])).size) 140737488355328) <| (iM (b++(aV ([IntKind.u8.wrap c])))).bind fun t=>some (t)) (cond (f==4) ((ln e 0 d).bind fun q=>some (q)) (cond (f==5) ((ln b 0 (IntKind.i64.wrap ((IntKind.i64.wrap (Int.tdiv d 8))*8))).bind fun g=>gd (Nat.ble (g.size+(ByteArray.mk #[0,0,0,0,0,0,0]).size) 140737488355328) <| (ln b (min (b.size:Int) (IntKind.i64.wrap ((IntKind.i64.wrap ((IntKind.i64.wrap (Int.tdiv d 8))*8))+8))) b.size).bind fun m=>(mS c 4).bind fun j=>gd (Nat.ble ((g++(ByteArray.mk #[0,0,0,0,0,0,0])).size+(aV ([IntKind.u8.wrap j])).size) 140737488355328) <| gd (Nat.ble (((g++(ByteArray.mk #[0,0,0,0,0,0,0]))++(aV ([IntKind.u8.wrap j]))).size+m.size) 140737488355328) <| (iM (((g++(ByteArray.mk #[0,0,0,0,0,0,0]))++(aV ([IntKind.u8.wrap j])))++m)).bind fun u=>some (u)) (some (e))))))))
theorem wE (N:ByteArray) (f g b:Int) (y:ByteArray) (B:nC N f g b=some y):bj aR No 16 [aU N,am f,am g,am b] L (fun v w'=>v=aU y):=by
 refine en Tryz.func16 Tryz.ntmps16 hT fun a I=>?_;unfold nC at B;refine al I fun a I=>?_;refine aA ?_;refine al I fun a I=>?_;rcases cd B with⟨P,B⟩|⟨P,B⟩
 ·exact fz
 refine al I fun a I=>?_;obtain⟨i,p,B⟩:=bd B;refine qy I (jC (k1:=.i64) I Tryz.underlying9 rfl (.inr ⟨rfl,rfl⟩) (.inl ⟨_,rfl,rfl⟩) p) fun a I=>?_;refine al I fun a I=>?_;obtain⟨n,E,B⟩:=bd B;refine kF I J5 (qD _ _ I.dlt g (i.size:Int) _ E) fun w a I=>?_;refine aA ?_;refine al I fun a I=>?_;obtain⟨av,F,B⟩:=bd B;refine kF I J5 (qD _ _ I.dlt f 7 _ F) fun w a I=>?_;rcases cd B with⟨Q,B⟩|⟨Q,B⟩
 ·refine al I fun a I=>?_;refine aA ?_;refine dr [] I fun w hQ I=>?_;refine gE [0,1] I fun a I=>?_;obtain⟨j,q,B⟩:=bd B;refine dq 2 I (v:=aU j) (jC (k1:=.i64) I Tryz.underlying9 rfl (.inr ⟨rfl,rfl⟩) (.inl ⟨_,rfl,rfl⟩) q) fun a I=>?_;refine gE [3,4,8,9,10] I fun a I=>?_;obtain⟨o,r,B⟩:=bd B;refine dq 11 I (v:=aU o) (jC (k2:=.i64) I Tryz.underlying9 rfl (.inl ⟨_,rfl,rfl⟩) (.inr ⟨rfl,rfl⟩) r) fun a I=>?_;refine e1 5 (bf (ps:=[(0,.tmp 32)]) I AK Pq (zl:=[.int .u8 0]) (by kernel_rfl) rfl (us:=[[.int .u8 (IntKind.u8.wrap b)]]) ⟨rfl,trivial⟩ (ws:=[.int .u8 (IntKind.u8.wrap b)]) rfl rfl rfl rfl fun a9 a w O I=>⟨iJ (O),?_⟩);replace I:=I.lit (R:=(aO.int .u8)) (us:=[.int .u8 (IntKind.u8.wrap b)]) (xs:=[IntKind.u8.wrap b]) 0 rfl (by decide) (aJ (R:=(aO.int .u8)) (x:=IntKind.u8.wrap b) rfl) rfl rfl;refine dq 6 I (l:=[]) (v:=aU (aV ([IntKind.u8.wrap b]))) (vP I rfl Tryz.underlying61 Tryz.underlying5 Tryz.underlying9 0 rfl 0 rfl (fun _ _=>cc)) fun a I=>?_;obtain⟨S,B⟩:=aP B;refine dq 7 I (v:=aU (j++(aV ([IntKind.u8.wrap b])))) (gq I rfl rfl (cw S)) fun a I=>?_;obtain⟨V,B⟩:=aP B;refine dq 12 I (v:=aU ((j++(aV ([IntKind.u8.wrap b])))++o)) (gq I rfl rfl (cw V)) fun a I=>?_;refine gE [13] I fun a I=>?_;refine eD ?_;exact fz
 refine al I fun a I=>?_;rcases cd B with⟨W,B⟩|⟨W,B⟩
 ·refine al I fun a I=>?_;refine aA ?_;refine dr [] I fun w hQ I=>?_;refine gE [0,1] I fun a I=>?_;obtain⟨e,s,B⟩:=bd B;refine dq 2 I (v:=aU e) (jC (k1:=.i64) I Tryz.underlying9 rfl (.inr ⟨rfl,rfl⟩) (.inl ⟨_,rfl,rfl⟩) s) fun a I=>?_;refine gE [3,4,8,9,10] I fun a I=>?_;obtain⟨k,t,B⟩:=bd B;refine dq 11 I (v:=aU k) (jC (k2:=.i64) I Tryz.underlying9 rfl (.inl ⟨_,rfl,rfl⟩) (.inr ⟨rfl,rfl⟩) t) fun a I=>?_;refine e1 5 (bf (ps:=[(0,.tmp 47)]) I AK Pq (zl:=[.int .u8 0]) (by kernel_rfl) rfl (us:=[[.int .u8 (IntKind.u8.wrap b)]]) ⟨rfl,trivial⟩ (ws:=[.int .u8 (IntKind.u8.wrap b)]) rfl rfl rfl rfl fun af a w O I=>⟨iJ (O),?_⟩);replace I:=I.lit (R:=(aO.int .u8)) (us:=[.int .u8 (IntKind.u8.wrap b)]) (xs:=[IntKind.u8.wrap b]) 0 rfl (by decide) (aJ (R:=(aO.int .u8)) (x:=IntKind.u8.wrap b) rfl) rfl rfl;refine dq 6 I (l:=[]) (v:=aU (aV ([IntKind.u8.wrap b]))) (vP I rfl Tryz.underlying61 Tryz.underlying5 Tryz.underlying9 0 rfl 0 rfl (fun _ _=>cc)) fun a I=>?_;obtain⟨X,B⟩:=aP B;refine dq 7 I (v:=aU (e++(aV ([IntKind.u8.wrap b])))) (gq I rfl rfl (cw X)) fun a I=>?_;obtain⟨Y,B⟩:=aP B;refine dq 12 I (v:=aU ((e++(aV ([IntKind.u8.wrap b])))++k)) (gq I rfl rfl (cw Y)) fun a I=>?_;obtain⟨b0,G,B⟩:=bd B;refine ec 13 I K4 (mQ _ _ I.dlt ((e++(aV ([IntKind.u8.wrap b])))++k) _ G) fun _ w C a O U=>?_;obtain rfl:=C;have I:=eL U;refine gE [14] I fun a I=>?_;refine eD ?_;exact fz
 refine al I fun a I=>?_;rcases cd B with⟨Z,B⟩|⟨Z,B⟩
 ·refine al I fun a I=>?_;obtain⟨a7,u,B⟩:=bd B;refine qy I (jC (k1:=.i64) I Tryz.underlying9 rfl (.inr ⟨rfl,rfl⟩) (.inl ⟨_,rfl,rfl⟩) u) fun a I=>?_;obtain⟨b1,H,B⟩:=bd B;refine kE I K4 (mQ _ _ I.dlt a7 _ H) fun w a I=>?_;exact fz
 refine al I fun a I=>?_;rcases cd B with⟨a0,B⟩|⟨a0,B⟩
 ·refine al I fun a I=>?_;refine wl rfl (bf (ps:=[(0,.tmp 67)]) I AK Pq (zl:=[.int .u8 0]) (by kernel_rfl) rfl (us:=[[.int .u8 (IntKind.u8.wrap b)]]) ⟨rfl,trivial⟩ (ws:=[.int .u8 (IntKind.u8.wrap b)]) rfl rfl rfl rfl fun ag a w O I=>?_);replace I:=I.lit (R:=(aO.int .u8)) (us:=[.int .u8 (IntKind.u8.wrap b)]) (xs:=[IntKind.u8.wrap b]) 0 rfl (by decide) (aJ (R:=(aO.int .u8)) (x:=IntKind.u8.wrap b) rfl) rfl rfl;refine qy I (vP I rfl Tryz.underlying61 Tryz.underlying5 Tryz.underlying9 0 rfl 0 rfl (fun _ _ h=>h)) fun a I=>?_;obtain⟨a1,B⟩:=aP B;refine qy I (gq I rfl rfl (cw a1)) fun a I=>?_;obtain⟨b2,J,B⟩:=bd B;refine kE I K4 (mQ _ _ I.dlt (i++(aV ([IntKind.u8.wrap b]))) _ J) fun w a I=>?_;exact fz
 refine al I fun a I=>?_;rcases cd B with⟨a2,B⟩|⟨a2,B⟩
 ·refine al I fun a I=>?_;obtain⟨an,z,B⟩:=bd B;refine qy I (jC (k1:=.i64) I Tryz.underlying9 rfl (.inr ⟨rfl,rfl⟩) (.inl ⟨_,rfl,rfl⟩) z) fun a I=>?_;exact fz
 refine al I fun a I=>?_;rcases cd B with⟨a3,B⟩|⟨a3,B⟩
 ·refine al I fun a I=>?_;refine aA ?_;refine dr [] I fun w hQ I=>?_;refine gE [0,1] I fun a I=>?_;refine dq 2 I (v:=am (IntKind.i64.wrap (Int.tdiv n 8))) (Bx I rfl rfl (by decide)) fun a I=>?_;refine gE [3] I fun a I=>?_;obtain⟨d,A,B⟩:=bd B;refine dq 4 I (v:=aU d) (jC (k1:=.i64) I Tryz.underlying9 rfl (.inr ⟨rfl,rfl⟩) (.inl ⟨_,rfl,rfl⟩) A) fun a I=>?_;obtain⟨a4,B⟩:=aP B;refine dq 5 I (v:=aU (d++(ByteArray.mk #[0,0,0,0,0,0,0]))) (gq I rfl rfl (cw a4)) fun a I=>?_;refine gE [6,12,13,14,15] I fun a I=>?_;refine dq 16 I (v:=am (IntKind.i64.wrap (Int.tdiv n 8))) (Bx I rfl rfl (by decide)) fun a I=>?_;refine gE [17,18] I fun a I=>?_;refine dq 19 I (v:=am (min (i.size:Int) (IntKind.i64.wrap ((IntKind.i64.wrap ((IntKind.i64.wrap (Int.tdiv n 8))*8))+8)))) (JI I rfl rfl) fun a I=>?_;obtain⟨m,D,B⟩:=bd B;refine dq 20 I (v:=aU m) (jC (k2:=.i64) I Tryz.underlying9 rfl (.inl ⟨_,rfl,rfl⟩) (.inr ⟨rfl,rfl⟩) D) fun a I=>?_;obtain⟨c,K,B⟩:=bd B;refine ec 7 I J5 (qD _ _ I.dlt b 4 _ K) fun _ w C a O U=>?_;obtain rfl:=C;have I:=eL U;refine gE [8] I fun a I=>?_;refine e1 9 (bf (ps:=[(0,.tmp 87)]) I AK Pq (zl:=[.int .u8 0]) (by kernel_rfl) rfl (us:=[[.int .u8 (IntKind.u8.wrap c)]]) ⟨rfl,trivial⟩ (ws:=[.int .u8 (IntKind.u8.wrap c)]) rfl rfl rfl rfl fun ak a w O I=>⟨iJ (O),?_⟩);replace I:=I.lit (R:=(aO.int .u8)) (us:=[.int .u8 (IntKind.u8.wrap c)]) (xs:=[IntKind.u8.wrap c]) 0 rfl (by decide) (aJ (R:=(aO.int .u8)) (x:=IntKind.u8.wrap c) rfl) rfl rfl;refine dq 10 I (l:=[]) (v:=aU (aV ([IntKind.u8.wrap c]))) (vP I rfl Tryz.underlying61 Tryz.underlying5 Tryz.underlying9 0 rfl 0 rfl (fun _ _=>cc)) fun a I=>?_;obtain⟨a5,B⟩:=aP B;refine dq 11 I (v:=aU ((d++(ByteArray.mk #[0,0,0,0,0,0,0]))++(aV ([IntKind.u8.wrap c])))) (gq I rfl rfl (cw a5)) fun a I=>?_;obtain⟨a6,B⟩:=aP B;refine dq 21 I (v:=aU (((d++(ByteArray.mk #[0,0,0,0,0,0,0]))++(aV ([IntKind.u8.wrap c])))++m)) (gq I rfl rfl (cw a6)) fun a I=>?_;obtain⟨b3,M,B⟩:=bd B;refine ec 22 I K4 (mQ _ _ I.dlt (((d++(ByteArray.mk #[0,0,0,0,0,0,0]))++(aV ([IntKind.u8.wrap c])))++m) _ M) fun _ w C a O U=>?_;obtain rfl:=C;have I:=eL U;refine gE [23] I fun a I=>?_;refine eD ?_;exact fz
 exact fz
def jo (b:Bool):=some (b)
def dc:=(f8 (ao.mk 0 ([]) ([]))).bind fun c=>(bW c).bind fun b=>(gr ([])).bind fun e=>(cU e).bind fun d=>cond (((c.size:Int):Int)==48) (cond (b.2==0) ((kl (ao.mk b.1.r b.1.i b.1.s) (ao.mk 0 ([]) ([]))).bind fun f=>cond f (cond (d.2==0) (jo ((d.1.length:Int)==0)) (jo false)) (jo false)) (jo false)) (jo false)
theorem eW (hLv:fi T L) (y:Bool) (B:dc=some y):bj aR No 10 [] L (fun v w'=>v = .bool y):=by
 refine en Tryz.func10 Tryz.ntmps10 hT fun a I=>?_;replace I:=I.fact ci (fi.dn hLv);unfold dc at B;refine al I fun a I=>?_;refine qy I (br (ps:=[]) I yN kg rfl (us:=[]) trivial (ws:=[am 0,.slice none 0 0,.slice none 0 0]) rfl) fun a I=>?_;replace I:=(I.fact (aT ab (.slice none 0 0) []) (aI.nil_ _ _ _)).fact (aT aa (.slice none 0 0) []) (aI.nil_ _ _ _);obtain⟨o,h,B⟩:=bd B;refine kF I J2 (mf _ _ I.dlt I.g2 (ao.mk 0 ([]) ([])) _ _ I.g1 I.g0 _ h) fun w a I=>?_;obtain⟨d,j,B⟩:=bd B;refine kc I J3 (ie _ _ I.dlt I.g2 o _ j) fun _ w C a O U=>?_;obtain⟨F,u,G,x,he,e,f,q⟩:=C;obtain rfl:=he.symm;have I:=AC U e f q;refine kA I kg fun t A a w O I=>?_;refine go I fun a w I=>?_;replace I:=I.fact (aT au (.slice none 0 0) []) (aI.nil_ _ _ _);obtain⟨p,k,B⟩:=bd B;refine kE I PI (oY _ _ I.dlt I.g5 ([]) _ I.g0 _ k) fun w a I=>?_;obtain⟨D,l,B⟩:=bd B;refine kc I PJ (lB _ _ I.dlt I.g5 p _ l) fun _ w C a O U=>?_;obtain⟨H,z,he,g⟩:=C;obtain rfl:=he.symm;have I:=vd U g;refine al I fun a I=>?_;refine aN (J:=fun a w=>∃ (b:Bool),St L No T 39 [(0,.bool b)] [] [ci] a w/\jo b=some y) ?_ ?_
 ·refine al I fun a I=>?_;rcases cd B with⟨n,B⟩|⟨n,B⟩
  ·refine al I fun a I=>?_;rcases cd B with⟨c,B⟩|⟨c,B⟩
   ·refine al I fun a I=>?_;refine qg I c (br (ps:=[]) I yN kg rfl (us:=[]) trivial (ws:=[am 0,.slice none 0 0,.slice none 0 0]) rfl) fun a I=>?_;have hL:=I;replace hL:=hL.zf (R:=ab) 2 rfl 3 rfl;replace hL:=hL.zf (R:=aa) 2 rfl 3 rfl;obtain⟨E,m,B⟩:=bd B;refine wg I rfl rfl rfl c (bP I Nr rfl rfl (sN _ _ hL.dlt (ao.mk d.1.r d.1.i d.1.s) (ao.mk 0 ([]) ([])) _ _ _ _ hL.g1 hL.g0 hL.g7 hL.g6 _ m) fun _ w C a O U=>?_);obtain rfl:=C;have I:=eL U;exact fz
   exact fz
  exact fz
 rintro a w ⟨b,I,B⟩;unfold jo at B;exact fz
def fX (b:Bool):=some (b)
def jc (n:LN) (o:Int) (h:ByteArray):=(lE n).bind fun p=>cond (!(p)) ((dc).bind fun q=>some (q)) ((uP n).bind fun t=>(qB t 5).bind fun b=>(kN (bv.mk b.2.2.L b.2.2.s1) b.1 (ao.mk b.2.1.r b.2.1.i b.2.1.s)).bind fun j=>(f8 (ao.mk b.2.1.r b.2.1.i b.2.1.s)).bind fun d=>(gr j.1).bind fun u=>(bW d).bind fun g=>(cU u).bind fun k=>cond (g.2 != 0) (some (false)) (cond (k.2 != 0) (some (false)) ((kl (ao.mk g.1.r g.1.i g.1.s) (ao.mk b.2.1.r b.2.1.i b.2.1.s)).bind fun v=>cond (!(v)) (some (false)) ((iH k.1 j.1).bind fun x=>cond (!(x)) (some (false)) ((ln h 0 (min (h.size:Int) 8)).bind fun c=>(mS o (IntKind.i64.wrap ((IntKind.i64.wrap ((IntKind.i64.wrap ((d.size:Int)-16))-(c.size:Int)))+1))).bind fun l=>(ln d 0 l).bind fun e=>gd (Nat.ble (e.size+c.size) 140737488355328) <| (ln d (IntKind.i64.wrap (l+(c.size:Int))) d.size).bind fun f=>gd (Nat.ble ((e++c).size+f.size) 140737488355328) <| (bW ((e++c)++f)).bind fun m=>cond ((m.2==0)==(((e++c)++f).toList==d.toList)) (cond (((e++c)++f).toList==d.toList) ((dc).bind fun y=>fX y) (cond (m.2==46) ((dc).bind fun z=>fX z) (fX false))) (fX false))))))
theorem yG (hLv:fi T L) (t:LN) (h:Int) (g:ByteArray) (v1:Value) (c2:aI (aO.int .i64) T L v1 t) (y:Bool) (B:jc t h g=some y):bj aR No 5 [v1,am h,aU g] L (fun v w'=>v = .bool y):=by
 refine en Tryz.func5 Tryz.ntmps5 hT fun a I=>?_;replace I:=(I.fact ci (fi.dn hLv)).fS (aI.dn c2);unfold jc at B;refine al I fun a I=>?_;refine aA ?_;refine al I fun a I=>?_;obtain⟨d1,a4,B⟩:=bd B;refine kF I TT (vw _ _ I.dlt t _ I.g0 _ a4) fun w a I=>?_;rcases cd B with⟨b6,B⟩|⟨b6,B⟩
 ·refine al I fun a I=>?_;obtain⟨d2,a5,B⟩:=bd B;refine kE I Co (eW _ _ I.dlt I.g1 _ a5) fun w a I=>?_;exact fz
 refine al I fun a I=>?_;obtain⟨Z,a6,B⟩:=bd B;refine kc I PG (wK _ _ I.dlt t _ I.g0 _ a6) fun _ w C a O U=>?_;obtain⟨b5,p,he,c1,E,G⟩:=C;obtain rfl:=he.symm;have I:=U [.box b5 (bu Z p) 84] (kv E (fun k O=>by simp only [cS.dom,cp] at O; omega)) (AD _);replace I:=I.fS (G.sub (qo _));refine al I fun a I=>?_;obtain⟨b,a7,B⟩:=bd B;refine wl rfl (bJ I PF rfl rfl 0 rfl (wJ _ _ (I.drop 0).dlt Z 5 _ _ (I.zb 0 rfl) (I.zi 0 rfl) (aI.lent (i:=0) rfl I.g0) (ci.keep I.g2 (aj _ _) (fun k O=>.inl ((nO (i:=0) rfl k).1 O))) _ a7) fun _ w C O=>?_);obtain⟨d9,dl,ds,e0,he,H,K,M,hrow,N,e⟩:=C;obtain rfl:=he.symm;subst e;refine⟨(bu b.2.2 p),hrow,fun a I=>?_⟩;replace I:=(((I.fS (aI.back (i:=0) rfl H)).fS (aI.back (i:=0) rfl K)).fS (aI.back (i:=0) rfl M)).fS (aI.back (i:=0) rfl N);refine kA I kg fun c4 cs a w O I=>?_;refine go I fun a w I=>?_;obtain⟨n,a9,B⟩:=bd B;refine wl rfl (n9 I RL rfl rfl 1 rfl (uN _ _ (I.drop 1).dlt (bv.mk b.2.2.L b.2.2.s1) b.1 (ao.mk b.2.1.r b.2.1.i b.2.1.s) _ _ _ _ _ (I.zb 1 rfl) (I.zi 1 rfl) (aI.lent (i:=1) rfl I.g0) (aI.lent (i:=1) rfl I.g3) (aI.lent (i:=1) rfl I.g2) (aI.lent (i:=1) rfl I.g1) (ci.keep I.g6 (aj _ _) (fun k O=>.inl ((nO (i:=1) rfl k).1 O))) _ a9) fun _ w C O=>?_);obtain⟨q,j,e2,he,⟨F,D,P⟩,hrow,Q,f⟩:=C;obtain rfl:=he.symm;subst f;refine⟨(bu n.2 p),[bI q j],hrow,kv ⟨F,by decide⟩ D,AD _,fun a I=>?_⟩;replace I:=(I.fR (P.keep (aj _ _) (ij (i:=1) rfl [bI q j] _))).fS (Q.sub (ij (i:=1) rfl [bI q j] _));refine al I fun a I=>?_;obtain⟨a0,af,B⟩:=bd B;refine kF I J2 (mf _ _ I.dlt I.g8 (ao.mk b.2.1.r b.2.1.i b.2.1.s) _ _ I.g4 I.g3 _ af) fun w a I=>?_;have hL:=I;replace hL:=hL.zf (R:=au) 0 rfl 1 rfl;obtain⟨bs,ag,B⟩:=bd B;refine kF I PI (oY _ _ hL.dlt hL.g9 n.1 _ hL.g0 _ ag) fun w a I=>?_;obtain⟨o,ak,B⟩:=bd B;refine kc I J3 (ie _ _ I.dlt I.g8 a0 _ ak) fun _ w C a O U=>?_;obtain⟨e3,c9,e4,ca,he,S,V,A⟩:=C;obtain rfl:=he.symm;have I:=AC U S V A;refine kA I kg fun c5 cv a w O I=>?_;refine go I fun a w I=>?_;obtain⟨bt,an,B⟩:=bd B;refine kc I PJ (lB _ _ I.dlt I.g10 bs _ an) fun _ w C a O U=>?_;obtain⟨e5,ch,he,W⟩:=C;obtain rfl:=he.symm;have I:=vd U W;refine al I fun a I=>?_;refine aA ?_;refine dW ?_;refine al I fun a I=>?_;rcases cd B with⟨b7,B⟩|⟨b7,B⟩
 ·exact fz
 refine al I fun a I=>?_;rcases cd B with⟨u,B⟩|⟨u,B⟩
 ·exact fz
 refine al I fun a I=>?_;have hL:=I;replace hL:=hL.zf (R:=ab) 2 rfl 2 rfl;replace hL:=hL.zf (R:=aa) 2 rfl 2 rfl;obtain⟨d3,av,B⟩:=bd B;refine wg I rfl rfl rfl u (bP I Nr rfl rfl (sN _ _ hL.dlt (ao.mk o.1.r o.1.i o.1.s) (ao.mk b.2.1.r b.2.1.i b.2.1.s) _ _ _ _ hL.g1 hL.g0 hL.g9 hL.g8 _ av) fun _ w C a O U=>?_);obtain rfl:=C;have I:=eL U;refine al I fun a I=>?_;rcases cd B with⟨x,B⟩|⟨x,B⟩
 ·exact fz
 refine al I fun a I=>?_;have hL:=I;replace hL:=hL.zf (R:=au) 0 rfl 0 rfl;replace hL:=hL.zf (R:=au) 3 rfl 5 rfl;obtain⟨d4,b0,B⟩:=bd B;refine wg I rfl rfl rfl x (bP I Tr rfl rfl (wj _ _ hL.dlt bt.1 n.1 _ _ hL.g1 hL.g0 _ b0) fun _ w C a O U=>?_);obtain rfl:=C;have I:=eL U;refine al I fun a I=>?_;rcases cd B with⟨b8,B⟩|⟨b8,B⟩
 ·exact fz
 refine al I fun a I=>?_;refine qy I (JI I rfl rfl) fun a I=>?_;obtain⟨c,a1,B⟩:=bd B;refine qy I (jC (k1:=.i64) I Tryz.underlying9 rfl (.inr ⟨rfl,rfl⟩) (.inl ⟨_,rfl,rfl⟩) a1) fun a I=>?_;refine al I fun a I=>?_;obtain⟨d5,b1,B⟩:=bd B;refine kF I J5 (qD _ _ I.dlt h (IntKind.i64.wrap ((IntKind.i64.wrap ((IntKind.i64.wrap ((a0.size:Int)-16))-(c.size:Int)))+1)) _ b1) fun w a I=>?_;refine aA ?_;refine dr [] I fun w hQ I=>?_;refine gE [0,1] I fun a I=>?_;obtain⟨d,a2,B⟩:=bd B;refine dq 2 I (v:=aU d) (jC (k1:=.i64) I Tryz.underlying9 rfl (.inr ⟨rfl,rfl⟩) (.inl ⟨_,rfl,rfl⟩) a2) fun a I=>?_;refine gE [3] I fun a I=>?_;obtain⟨b9,B⟩:=aP B;refine dq 4 I (v:=aU (d++c)) (gq I rfl rfl (cw b9)) fun a I=>?_;refine gE [5,6,7,8,9] I fun a I=>?_;obtain⟨m,a3,B⟩:=bd B;refine dq 10 I (v:=aU m) (jC (k2:=.i64) I Tryz.underlying9 rfl (.inl ⟨_,rfl,rfl⟩) (.inr ⟨rfl,rfl⟩) a3) fun a I=>?_;obtain⟨bb,B⟩:=aP B;refine dq 11 I (v:=aU ((d++c)++m)) (gq I rfl rfl (cw bb)) fun a I=>?_;refine gE [12] I fun a I=>?_;refine eD ?_;refine al I fun a I=>?_;obtain⟨d6,b2,B⟩:=bd B;refine kc I J3 (ie _ _ I.dlt I.g11 ((d++c)++m) _ b2) fun _ w C a O U=>?_;obtain⟨e6,ck,e7,cl,he,X,Y,A⟩:=C;obtain rfl:=he.symm;have I:=AC U X Y A;refine kA I kg fun c6 d0 a w O I=>?_;refine go I fun a w I=>?_;refine aN (J:=fun a w=>∃ (l:Bool),St L No T 118 [(6,.bool l)] [] [ci] a w/\fX l=some y) ?_ ?_
 ·refine al I fun a I=>?_;refine qy I (IE I rfl rfl Tryz.underlying4 (.inl ⟨rfl,rfl⟩)) fun a I=>?_;refine al I fun a I=>?_;rcases cd B with⟨bi,B⟩|⟨bi,B⟩
  ·refine al I fun a I=>?_;rcases cd B with⟨bl,B⟩|⟨bl,B⟩
   ·refine al I fun a I=>?_;obtain⟨d7,b3,B⟩:=bd B;refine wg I rfl rfl rfl rfl (bP I Co rfl rfl (eW _ _ I.dlt I.g13 _ b3) fun _ w C a O U=>?_);obtain rfl:=C;have I:=eL U;exact fz
   refine al I fun a I=>?_;rcases cd B with⟨z,B⟩|⟨z,B⟩
   ·obtain⟨d8,b4,B⟩:=bd B;refine wg I rfl rfl rfl z (bP I Co rfl rfl (eW _ _ I.dlt I.g13 _ b4) fun _ w C a O U=>?_);obtain rfl:=C;have I:=eL U;exact fz
   exact fz
  exact fz
 rintro a w ⟨l,I,B⟩;unfold fX at B;exact fz
def ef (b:Bool):=some (b)
def ig (f:LN) (u:Int):=(lE f).bind fun g=>cond (!(g)) ((dc).bind fun h=>some (h)) ((uP f).bind fun j=>(qB j 4).bind fun b=>(qC (bv.mk b.2.2.L b.2.2.s1) b.1 (ao.mk b.2.1.r b.2.1.i b.2.1.s) 3).bind fun c=>(f8 (ao.mk b.2.1.r b.2.1.i b.2.1.s)).bind fun e=>(f8 (ao.mk c.1.r c.1.i c.1.s)).bind fun k=>(cU e).bind fun l=>(kN (bv.mk c.2.L c.2.s1) b.1 (ao.mk b.2.1.r b.2.1.i b.2.1.s)).bind fun m=>(gr m.1).bind fun n=>(bW n).bind fun o=>(mS u 16).bind fun d=>gd (decide (0<=d)) <| gd (ce (Int.toNat d)) <| (bW (aV (List.replicate (Int.toNat d) (0:Int)))).bind fun p=>(kl (ao.mk b.2.1.r b.2.1.i b.2.1.s) (ao.mk c.1.r c.1.i c.1.s)).bind fun q=>cond ((e.toList==k.toList)==q) (cond (l.2==5) (cond (o.2==5) (cond (p.2==8) ((dc).bind fun t=>ef t) (ef false)) (ef false)) (ef false)) (ef false))
theorem xJ (hLv:fi T L) (n:LN) (W:Int) (v1:Value) (bi:aI (aO.int .i64) T L v1 n) (y:Bool) (B:ig n W=some y):bj aR No 6 [v1,am W] L (fun v w'=>v = .bool y):=by
 refine en Tryz.func6 Tryz.ntmps6 hT fun a I=>?_;replace I:=(I.fact ci (fi.dn hLv)).fS (aI.dn bi);unfold ig at B;refine al I fun a I=>?_;refine aA ?_;refine al I fun a I=>?_;obtain⟨cv,Z,B⟩:=bd B;refine kF I TT (vw _ _ I.dlt n _ I.g0 _ Z) fun w a I=>?_;rcases cd B with⟨b1,B⟩|⟨b1,B⟩
 ·refine al I fun a I=>?_;obtain⟨d0,a0,B⟩:=bd B;refine kE I Co (eW _ _ I.dlt I.g1 _ a0) fun w a I=>?_;exact fz
 refine al I fun a I=>?_;obtain⟨X,a1,B⟩:=bd B;refine kc I PG (wK _ _ I.dlt n _ I.g0 _ a1) fun _ w C a O U=>?_;obtain⟨b0,d,he,bb,t,x⟩:=C;obtain rfl:=he.symm;have I:=U [.box b0 (bu X d) 84] (kv t (fun k O=>by simp only [cS.dom,cp] at O; omega)) (AD _);replace I:=I.fS (x.sub (qo _));refine al I fun a I=>?_;obtain⟨b,a2,B⟩:=bd B;refine wl rfl (bJ I PF rfl rfl 0 rfl (wJ _ _ (I.drop 0).dlt X 4 _ _ (I.zb 0 rfl) (I.zi 0 rfl) (aI.lent (i:=0) rfl I.g0) (ci.keep I.g2 (aj _ _) (fun k O=>.inl ((nO (i:=0) rfl k).1 O))) _ a2) fun _ w C O=>?_);obtain⟨d7,d8,d9,dl,he,z,A,D,hrow,E,e⟩:=C;obtain rfl:=he.symm;subst e;refine⟨(bu b.2.2 d),hrow,fun a I=>?_⟩;replace I:=(((I.fS (aI.back (i:=0) rfl z)).fS (aI.back (i:=0) rfl A)).fS (aI.back (i:=0) rfl D)).fS (aI.back (i:=0) rfl E);refine kA I kg fun bs ch a w O I=>?_;refine go I fun a w I=>?_;obtain⟨c,a3,B⟩:=bd B;refine wl rfl (bJ I RX rfl rfl 1 rfl (zO _ _ (I.drop 1).dlt (bv.mk b.2.2.L b.2.2.s1) b.1 (ao.mk b.2.1.r b.2.1.i b.2.1.s) 3 _ _ _ _ _ (I.zb 1 rfl) (I.zi 1 rfl) (aI.lent (i:=1) rfl I.g0) (aI.lent (i:=1) rfl I.g3) (aI.lent (i:=1) rfl I.g2) (aI.lent (i:=1) rfl I.g1) (ci.keep I.g6 (aj _ _) (fun k O=>.inl ((nO (i:=1) rfl k).1 O))) _ a3) fun _ w C O=>?_);obtain⟨ds,e0,e2,he,F,G,hrow,H,f⟩:=C;obtain rfl:=he.symm;subst f;refine⟨(bu c.2 d),hrow,fun a I=>?_⟩;replace I:=((I.fS (aI.back (i:=1) rfl F)).fS (aI.back (i:=1) rfl G)).fS (aI.back (i:=1) rfl H);refine ka I kg fun bt ck a w O I=>?_;refine go I fun a w I=>?_;refine aA ?_;refine dr [] I fun w hQ I=>?_;refine gE [0,2] I fun a I=>?_;obtain⟨b7,a4,B⟩:=bd B;refine ec 1 I J2 (mf _ _ I.dlt I.g9 (ao.mk b.2.1.r b.2.1.i b.2.1.s) _ _ I.g5 I.g4 _ a4) fun _ w C a O U=>?_;obtain rfl:=C;have I:=eL U;obtain⟨d1,a5,B⟩:=bd B;refine ec 3 I J2 (mf _ _ I.dlt I.g9 (ao.mk c.1.r c.1.i c.1.s) _ _ I.g2 I.g1 _ a5) fun _ w C a O U=>?_;obtain rfl:=C;have I:=eL U;refine gE [4,5] I fun a I=>?_;refine eD ?_;refine al I fun a I=>?_;obtain⟨d2,a6,B⟩:=bd B;refine kc I PJ (lB _ _ I.dlt I.g9 b7 _ a6) fun _ w C a O U=>?_;obtain⟨e3,c3,he,K⟩:=C;obtain rfl:=he.symm;have I:=vd U K;refine al I fun a I=>?_;obtain⟨Y,a7,B⟩:=bd B;refine wl rfl (n9 I RL rfl rfl 3 rfl (uN _ _ (I.drop 3).dlt (bv.mk c.2.L c.2.s1) b.1 (ao.mk b.2.1.r b.2.1.i b.2.1.s) _ _ _ _ _ (I.zb 3 rfl) (I.zi 3 rfl) (aI.lent (i:=3) rfl I.g1) (aI.lent (i:=3) rfl I.g7) (aI.lent (i:=3) rfl I.g6) (aI.lent (i:=3) rfl I.g5) (ci.keep I.g10 (aj _ _) (fun k O=>.inl ((nO (i:=3) rfl k).1 O))) _ a7) fun _ w C O=>?_);obtain⟨m,j,e4,he,⟨u,q,M⟩,hrow,N,g⟩:=C;obtain rfl:=he.symm;subst g;refine⟨(bu Y.2 d),[bI m j],hrow,kv ⟨u,by decide⟩ q,AD _,fun a I=>?_⟩;replace I:=(I.fR (M.keep (aj _ _) (ij (i:=3) rfl [bI m j] _))).fS (N.sub (ij (i:=3) rfl [bI m j] _));have hL:=I;replace hL:=hL.zf (R:=au) 0 rfl 1 rfl;obtain⟨b8,a9,B⟩:=bd B;refine kE I PI (oY _ _ hL.dlt hL.g13 Y.1 _ hL.g0 _ a9) fun w a I=>?_;obtain⟨d3,af,B⟩:=bd B;refine kc I J3 (ie _ _ I.dlt I.g12 b8 _ af) fun _ w C a O U=>?_;obtain⟨e5,c4,e6,c5,he,P,Q,p⟩:=C;obtain rfl:=he.symm;have I:=AC U P Q p;refine kA I kg fun c1 cl a w O I=>?_;refine go I fun a w I=>?_;obtain⟨b9,ag,B⟩:=bd B;refine kE I J5 (qD _ _ I.dlt W 16 _ ag) fun w a I=>?_;obtain⟨b2,B⟩:=aP B;obtain⟨b3,B⟩:=aP B;refine wl rfl (P4 (R:=(aO.int .u8)) (z0:=(0:Int)) I AK Pq (by decide) rfl rfl b2 b3 rfl rfl fun e7 c6 a w O I=>?_);refine qy I (vP I rfl Tryz.underlying61 Tryz.underlying5 Tryz.underlying9 0 rfl 0 rfl (fun _ _ h=>h)) fun a I=>?_;obtain⟨d4,ak,B⟩:=bd B;refine kc I J3 (ie _ _ I.dlt I.g15 (aV (List.replicate (Int.toNat b9) (0:Int))) _ ak) fun _ w C a O U=>?_;obtain⟨ea,c9,ed,ca,he,S,V,p⟩:=C;obtain rfl:=he.symm;have I:=AC U S V p;refine kA I kg fun c2 cs a w O I=>?_;refine go I fun a w I=>?_;refine aN (J:=fun a w=>∃ (l:Bool),St L No T 80 [(4,.bool l)] [] [ci] a w/\ef l=some y) ?_ ?_
 ·refine al I fun a I=>?_;obtain⟨d5,an,B⟩:=bd B;refine kE I Nr (sN _ _ I.dlt (ao.mk b.2.1.r b.2.1.i b.2.1.s) (ao.mk c.1.r c.1.i c.1.s) _ _ _ _ I.g13 I.g12 I.g10 I.g9 _ an) fun w a I=>?_;refine qy I (IE I rfl rfl Tryz.underlying4 (.inl ⟨rfl,rfl⟩)) fun a I=>?_;refine al I fun a I=>?_;rcases cd B with⟨b4,B⟩|⟨b4,B⟩
  ·refine al I fun a I=>?_;rcases cd B with⟨b5,B⟩|⟨b5,B⟩
   ·refine al I fun a I=>?_;rcases cd B with⟨b6,B⟩|⟨b6,B⟩
    ·refine al I fun a I=>?_;rcases cd B with⟨o,B⟩|⟨o,B⟩
     ·obtain⟨d6,av,B⟩:=bd B;refine wg I rfl rfl rfl o (bP I Co rfl rfl (eW _ _ I.dlt I.g17 _ av) fun _ w C a O U=>?_);obtain rfl:=C;have I:=eL U;exact fz
     exact fz
    exact fz
   exact fz
  exact fz
 rintro a w ⟨l,I,B⟩;unfold ef at B;exact fz
def gR:=(dc).bind fun b=>some (b)
def eg (n g:ByteArray) (h j:ByteArray) (k l:ByteArray) (f:LY) (d:Int):Option (Fl (LY×Int) (Fl (Unit) Bool)):=cond (decide (d<(([g,h,n,j,k,l]).length:Int))) ((bO f d).bind fun e=>(bW e).bind fun b=>(eY e).bind fun c=>(kl (ao.mk b.1.r b.1.i b.1.s) (ao.mk c.1.r c.1.i c.1.s)).bind fun m=>cond (!(m)) (some (.out (.out false))) (cond (b.2 != c.2) (some (.out (.out false))) (some (.go (f,IntKind.i64.wrap (d+1)))))) (some (.out (.go ())))
def gS (h:ao) (q:LN) (j:ByteArray) (e f g:Int):=(uP q).bind fun n=>(qB n 5).bind fun b=>(f8 (ao.mk b.2.1.r b.2.1.i b.2.1.s)).bind fun c=>(f8 h).bind fun d=>(fK (ao.mk b.2.1.r b.2.1.i b.2.1.s)).bind fun o=>cond (!(c.toList==o.toList)) (some (false)) ((fK h).bind fun p=>cond (!(d.toList==p.toList)) (some (false)) ((iM j).bind fun k=>(nC c e f g).bind fun l=>(nC c (IntKind.i64.wrap (Int.tdiv e 7)) (IntKind.i64.wrap (Int.tdiv f 3)) g).bind fun m=>(loop (fun s:LY×Int=>eg j c d k l m s.1 s.2) ([c,d,j,k,l,m],0)).bind fun r=>Fl.el r (fun s=>gR) (fun y=>some (y))))
def eh (c:ao) (b:Int):Option (Fl (Int) (Fl (Unit) Bool)):=cond (decide (b<(c.s.length:Int))) ((bO c.s b).bind fun d=>cond (decide ((60:Int)<(d.v.length:Int))) ((dc).bind fun e=>some (.out (.out e))) (some (.go (IntKind.i64.wrap (b+1))))) (some (.out (.go ())))
def jZ (b:ao) (e:LN) (d:ByteArray) (c f g:Int):=cond (decide ((40:Int)<(b.i.length:Int))) ((dc).bind fun h=>some (h)) (cond (decide ((40:Int)<(b.s.length:Int))) ((dc).bind fun j=>some (j)) (cond (decide ((3000:Int)<(d.size:Int))) ((dc).bind fun k=>some (k)) ((lE e).bind fun l=>cond (!(l)) ((dc).bind fun m=>some (m)) ((loop (fun s:Int=>eh b s) 0).bind fun r=>Fl.el r (fun s=>gS b e d c f g) (fun y=>some (y))))))
theorem xK (hLv:fi T L) (b:ao) (o:LN) (c:ByteArray) (e f g:Int) (K H M:Value) (d1:aI ab T L K b.i) (d2:aI aa T L H b.s) (d3:aI (aO.int .i64) T L M o) (y:Bool) (B:jZ b o c e f g=some y):bj aR No 3 [.agg (bp b K H).toArray,M,aU c,am e,am f,am g] L (fun v w'=>v = .bool y):=by
 refine en Tryz.func3 Tryz.ntmps3 hT fun a I=>?_;replace I:=(((I.fact ci (fi.dn hLv)).fS (aI.dn d1)).fS (aI.dn d2)).fS (aI.dn d3);unfold jZ at B;refine kB I fun p e7 a w O I=>?_;refine al I fun a I=>?_;refine aA ?_;refine dW ?_;refine al I fun a I=>?_;rcases cd B with⟨c3,B⟩|⟨c3,B⟩
 ·refine al I fun a I=>?_;obtain⟨f4,b9,B⟩:=bd B;refine kE I Co (eW _ _ I.dlt I.g3 _ b9) fun w a I=>?_;exact fz
 refine al I fun a I=>?_;rcases cd B with⟨c4,B⟩|⟨c4,B⟩
 ·refine al I fun a I=>?_;obtain⟨f5,bb,B⟩:=bd B;refine kE I Co (eW _ _ I.dlt I.g3 _ bb) fun w a I=>?_;exact fz
 refine al I fun a I=>?_;rcases cd B with⟨N,B⟩|⟨N,B⟩
 ·refine al I fun a I=>?_;obtain⟨f6,bi,B⟩:=bd B;refine kE I Co (eW _ _ I.dlt I.g3 _ bi) fun w a I=>?_;exact fz
 refine al I fun a I=>?_;obtain⟨fd,bl,B⟩:=bd B;refine wg I rfl rfl rfl N (bP I TT rfl rfl (vw _ _ I.dlt o _ I.g0 _ bl) fun _ w C a O U=>?_);obtain rfl:=C;have I:=eL U;refine al I fun a I=>?_;rcases cd B with⟨c5,B⟩|⟨c5,B⟩
 ·refine al I fun a I=>?_;obtain⟨fl,bs,B⟩:=bd B;refine kE I Co (eW _ _ I.dlt I.g3 _ bs) fun w a I=>?_;exact fz
 refine al I fun a I=>?_;refine aN (J:=fun a w=>St L No T 123 [(1,M),(2,aU c),(3,am e),(4,am f),(5,am g),(6,pt p 0)] [.box p (bp b K H) 25] [aT (aO.int .i64) M o,aT ab K b.i,aT aa H b.s,ci] a w/\gS b o c e f g=some y) ?_ ?_
 ·refine al I fun a I=>?_;obtain⟨r1,a4,hMo1⟩:=bd B;refine bH _ (fun s a w=>∃ (u:Int),u=s/\St L No T 123 [(1,M),(2,aU c),(3,am e),(4,am f),(5,am g),(6,pt p 0),(47,H),(48,am (b.s.length:Int)),(49,am u)] [.box p (bp b K H) 25] [aT (aO.int .i64) M o,aT aa H b.s,aT ab K b.i,ci] a w) a4 ⟨_,rfl,I.mt [0] [0,1,2,3]⟩ ?_;rintro s a w f1 ⟨u,rfl,I⟩ B hf1;have B:eh b u=some f1:=B;unfold eh at B;refine al I fun a I=>?_;refine aA ?_;rcases cd B with⟨c6,B⟩|⟨c6,B⟩
  ·refine al I fun a I=>?_;refine aA ?_;refine al I fun a I=>?_;obtain⟨e6,a9,B⟩:=bd B;refine wl rfl (bE (R:=aa) I qQ oy rfl rfl 1 rfl a9 rfl fun d4 eo ds c9 a I=>?_);obtain⟨fn,rfl,bt⟩:=c9;replace I:=I.fS bt;refine kA I f0 fun d5 ea a w O I=>?_;refine go I fun a w I=>?_;rcases cd B with⟨ca,B⟩|⟨ca,B⟩
   ·refine al I fun a I=>?_;obtain⟨f3,b8,B⟩:=bd B;refine kE I Co (eW _ _ I.dlt I.g5 _ b8) fun w a I=>?_;exact fz
   exact fz
  exact fz
 rintro a w ⟨I,B⟩;unfold gS at B;refine al I fun a I=>?_;obtain⟨a5,b4,B⟩:=bd B;refine kc I PG (wK _ _ I.dlt o _ I.g0 _ b4) fun _ w C a O U=>?_;obtain⟨c1,a6,he,d0,S,V⟩:=C;obtain rfl:=he.symm;have I:=U [.box c1 (bu a5 a6) 84] (kv S (fun k O=>by simp only [cS.dom,cp] at O; omega)) (AD _);replace I:=I.fS (V.sub (qo _));obtain⟨n,b5,B⟩:=bd B;refine wl rfl (bJ I PF rfl rfl 0 rfl (wJ _ _ (I.drop 0).dlt a5 5 _ _ (I.zb 0 rfl) (I.zi 0 rfl) (aI.lent (i:=0) rfl I.g0) (ci.keep I.g4 (aj _ _) (fun k O=>.inl ((nO (i:=0) rfl k).1 O))) _ b5) fun _ w C O=>?_);obtain⟨fr,fs,fM,g9,he,W,X,Y,hrow,Z,z⟩:=C;obtain rfl:=he.symm;subst z;refine⟨(bu n.2.2 a6),hrow,fun a I=>?_⟩;replace I:=(((I.fS (aI.back (i:=0) rfl W)).fS (aI.back (i:=0) rfl X)).fS (aI.back (i:=0) rfl Y)).fS (aI.back (i:=0) rfl Z);refine kA I kg fun d6 ed a w O I=>?_;refine go I fun a w I=>?_;refine aA ?_;refine dr [] I fun w hQ I=>?_;refine gE [0,2] I fun a I=>?_;obtain⟨d,ag,B⟩:=bd B;refine ec 1 I J2 (mf _ _ I.dlt I.g8 (ao.mk n.2.1.r n.2.1.i n.2.1.s) _ _ I.g2 I.g1 _ ag) fun _ w C a O U=>?_;obtain rfl:=C;have I:=eL U;obtain⟨h,ak,B⟩:=bd B;refine ec 3 I J2 (mf _ _ I.dlt I.g8 b _ _ I.g6 I.g7 _ ak) fun _ w C a O U=>?_;obtain rfl:=C;have I:=eL U;refine gE [4,5] I fun a I=>?_;refine eD ?_;refine al I fun a I=>?_;refine aA ?_;refine dW ?_;refine al I fun a I=>?_;obtain⟨ez,b6,B⟩:=bd B;refine kF I PH (vH _ _ I.dlt I.g8 (ao.mk n.2.1.r n.2.1.i n.2.1.s) _ _ I.g2 I.g1 _ b6) fun w a I=>?_;rcases cd B with⟨P,B⟩|⟨P,B⟩
 ·exact fz
 refine al I fun a I=>?_;obtain⟨f2,b7,B⟩:=bd B;refine wg I rfl rfl rfl P (bP I PH rfl rfl (vH _ _ I.dlt I.g8 b _ _ I.g6 I.g7 _ b7) fun _ w C a O U=>?_);obtain rfl:=C;have I:=eL U;refine al I fun a I=>?_;rcases cd B with⟨ch,B⟩|⟨ch,B⟩
 ·exact fz
 refine al I fun a I=>?_;refine aN (J:=fun a w=>St L No T 123 [] [] [ci] a w/\gR=some y) ?_ ?_
 ·refine al I fun a I=>?_;obtain⟨j,an,B⟩:=bd B;refine kF I K4 (mQ _ _ I.dlt c _ an) fun w a I=>?_;obtain⟨l,av,B⟩:=bd B;refine kF I Rq (wE _ _ I.dlt d e f g _ av) fun w a I=>?_;refine qy I (Bx I rfl rfl (by decide)) fun a I=>?_;refine al I fun a I=>?_;refine qy I (Bx I rfl rfl (by decide)) fun a I=>?_;refine al I fun a I=>?_;obtain⟨m,b0,B⟩:=bd B;refine kE I Rq (wE _ _ I.dlt d (IntKind.i64.wrap (Int.tdiv e 7)) (IntKind.i64.wrap (Int.tdiv f 3)) g _ b0) fun w a I=>?_;refine wl rfl (bf (ps:=[(0,.tmp 79),(1,.tmp 80),(2,.tmp 81),(3,.tmp 83),(4,.tmp 88),(5,.tmp 95)]) I BG QM (zl:=[aU cr,aU cr,aU cr,aU cr,aU cr,aU cr]) (by kernel_rfl) rfl (us:=[[aU d],[aU h],[aU c],[aU j],[aU l],[aU m]]) ⟨rfl,⟨rfl,⟨rfl,⟨rfl,⟨rfl,⟨rfl,trivial⟩⟩⟩⟩⟩⟩ (ws:=[aU d,aU h,aU c,aU j,aU l,aU m]) rfl rfl rfl rfl fun d7 a w O I=>?_);replace I:=I.lit (R:=aO.str) (us:=[aU d,aU h,aU c,aU j,aU l,aU m]) (xs:=[d,h,c,j,l,m]) 0 rfl (by decide) ((aJ (R:=aO.str) (x:=d) rfl).append ((aJ (R:=aO.str) (x:=h) rfl).append ((aJ (R:=aO.str) (x:=c) rfl).append ((aJ (R:=aO.str) (x:=j) rfl).append ((aJ (R:=aO.str) (x:=l) rfl).append (aJ (R:=aO.str) (x:=m) rfl)))))) rfl rfl;refine al I fun a I=>?_;obtain⟨r1,a4,hMo1⟩:=bd B;refine bH _ (fun s a w=>∃ (q:LY) (t:Int) (G:Value) (A:LV),(q,t)=s/\St L No T 123 [(96,G),(97,am (([d,h,c,j,l,m]).length:Int)),(98,am t)] [.own G 9 aO.str.size A] [ap aO.str A q,ci] a w) a4 ⟨_,_,_,_,rfl,I.mt [0] [0,9]⟩ ?_;rintro s a w f1 ⟨q,t,G,A,rfl,I⟩ B hf1;have B:eg c d h j l m q t=some f1:=B;unfold eg at B;refine al I fun a I=>?_;refine aA ?_;rcases cd B with⟨ck,B⟩|⟨ck,B⟩
  ·refine al I fun a I=>?_;refine aA ?_;refine al I fun a I=>?_;obtain⟨D,a7,B⟩:=bd B;refine wl rfl (fo (R:=aO.str) I Kz M9 rfl rfl 0 rfl 0 rfl a7 rfl fun d8 eq er e0 cl cs cv a I=>?_);obtain rfl:=cl;refine qy I (cK (k:=0) I M9 0 rfl cs cv rfl id (us:=[aU D]) rfl rfl (fun _=>rfl)) fun a I=>?_;refine al I fun a I=>?_;obtain⟨E,b1,B⟩:=bd B;refine kc I J3 (ie _ _ I.dlt I.g1 D _ b1) fun _ w C a O U=>?_;obtain⟨gb,e2,gi,e3,he,a0,a1,Q⟩:=C;obtain rfl:=he.symm;have I:=AC U a0 a1 Q;refine kA I kg fun d9 ei a w O I=>?_;refine go I fun a w I=>?_;obtain⟨F,b2,B⟩:=bd B;refine kc I Tq (AW _ _ I.dlt I.g3 D _ b2) fun _ w C a O U=>?_;obtain⟨gs,e4,gu,e5,he,a2,a3,Q⟩:=C;obtain rfl:=he.symm;have I:=AC U a2 a3 Q;refine kA I kg fun dl el a w O I=>?_;refine go I fun a w I=>?_;refine dW ?_;refine al I fun a I=>?_;have hL:=I;replace hL:=hL.zf (R:=ab) 4 rfl 3 rfl;replace hL:=hL.zf (R:=aa) 4 rfl 3 rfl;replace hL:=hL.zf (R:=ab) 1 rfl 3 rfl;replace hL:=hL.zf (R:=aa) 1 rfl 3 rfl;obtain⟨ex,b3,B⟩:=bd B;refine kE I Nr (sN _ _ hL.dlt (ao.mk E.1.r E.1.i E.1.s) (ao.mk F.1.r F.1.i F.1.s) _ _ _ _ hL.g3 hL.g2 hL.g1 hL.g0 _ b3) fun w a I=>?_;exact fz
  exact fz
 rintro a w ⟨I,B⟩;unfold gR at B;refine al I fun a I=>?_;obtain⟨ew,af,B⟩:=bd B;refine kE I Co (eW _ _ I.dlt I.g0 _ af) fun w a I=>?_;exact fz
end
end
section
open Go.Lib hiding intOf
variable {bad:Bool} {s:ByteArray} {y:List Int}
theorem qh (l:List Int):(aV l).toList=l.map fun n=>UInt8.ofNat n.toNat:=by unfold aV; rw [ByteArray.toList_eq]
theorem cg (l:List Int):(aV l).size=l.length:=by rw [<- Dw,qh,oz]
theorem AF {t:ByteArray} (h:s.toList=t.toList):s=t:=by
 rw [ByteArray.toList_eq,ByteArray.toList_eq] at h;exact ByteArray.ext (HG.1 h)
theorem me {l:List Int} {a b:Nat} (h1:a<=b) (h2:b<=l.length):ln (aV l) (a:Int) (b:Int)=some (aV ((l.take b).drop a)):=by
 unfold ln;rw [if_pos ⟨by omega,by omega,by rw [cg]; omega⟩];congr 1;apply AF;rw [qh,ByteArray.toList_eq,ByteArray.data_extract,Array.toList_extract];unfold aV;simp only [List.extract,sC];rw [List.drop_take,List.map_take,List.map_drop]
def Bh (l:List Int):Prop:=∀ x∈l,0<=x/\x<256
theorem jl {l:List Int} (h:Bh l):cy (aV l)=l:=by
 unfold cy;rw [qh,AA]
 conv=>rhs; rw [<- List.map_id l]
 refine HE fun x hx=>?_;obtain⟨h1,h2⟩:=h x hx;show ((UInt8.ofNat x.toNat).toNat:Int)=x;rw [UInt8.toNat_ofNat'];omega
theorem lS (s:ByteArray):aV (cy s)=s:=by
 apply AF;rw [qh];unfold cy;rw [AA]
 conv=>rhs; rw [<- List.map_id s.toList]
 refine HE fun x hx=>?_;show UInt8.ofNat ((x.toNat:Int)).toNat=x;simp
theorem uF (s:ByteArray):Bh (cy s):=by
 intro x hx;unfold cy at hx;obtain⟨c,_,rfl⟩:=kC.1 hx;have h:c.toNat<256:=c.toNat_lt;exact⟨by omega,by omega⟩
theorem mE (n:Int):Bh (eI n):=by
 intro x hx;unfold eI at hx;obtain⟨c,hc,rfl⟩:=kC.1 hx;have:c<256:=by
  unfold O8 at hc;simp only [dX,fu,or_false] at hc;rcases hc with rfl | rfl | rfl | rfl | rfl | rfl | rfl | rfl <;> exact zE _ _
 exact⟨by omega,by omega⟩
theorem uR {x:List Int} (n:Int) (hn:n=x.length):cq ⟨aV (x++y),bad⟩ n=some (aV x,⟨aV y,bad⟩):=by
 subst hn;have hs:(aV (x++y)).size=x.length+y.length:=by rw [cg,bk]
 unfold cq;dsimp only;rw [decide_eq_false (by omega),cond_false,decide_eq_false (by rw [hs]; omega),cond_false];rw [show ln (aV (x++y)) 0 (x.length:Int)=some (aV x) from by
  have:=me (l:=x++y) (a:=0) (b:=x.length) (bY _) (by rw [bk]; omega);rw [Ga rfl,yh] at this;exact this,ad]
 rw [show ln (aV (x++y)) (x.length:Int) ((aV (x++y)).size:Int)=some (aV y) from by
  have:=me (l:=x++y) (a:=x.length) (b:=(x++y).length) (by rw [bk]; omega) (cm _);rw [fW,JO rfl] at this;rw [cg];exact this,ad]
theorem Mb {a b:Nat} (ha:a<72057594037927936) (hb:b<256):sj .or .u64 (sR .u64 (a:Int) 8) (IntKind.u64.wrap (b:Int))=((a*256+b:Nat):Int):=by
 have e1:sR .u64 (a:Int) 8=((a*256:Nat):Int):=by
  unfold sR;rw [show (2:Int) ^ (min ((8:Int)).toNat (IntKind.u64.bits))=256 by decide,show (a:Int)*256=((a*256:Nat):Int) by omega,tH (by omega)]
 rw [e1,tH (by omega)];unfold sj;show IntKind.u64.wrap ((BitVec.ofInt 64 ((a*256:Nat):Int) ||| BitVec.ofInt 64 (b:Int)).toNat:Int)=_;have e2:(BitVec.ofInt 64 ((a*256:Nat):Int) ||| BitVec.ofInt 64 (b:Int)).toNat=a*256+b:=by
  rw [JK,JK,BitVec.toNat_or,JM,JM,y9 (by omega),y9 (by omega)];have:=Nat.shiftLeft_add_eq_or_of_lt (b:=b) (i:=8) (by omega) a;rw [Nat.shiftLeft_eq] at this;rw [<- this]
 rw [e2,tH (by omega)]
theorem zF (N i:Nat):N / 256 ^ i=N / 256 ^ (i+1)*256+hb N i:=by
 unfold hb;rw [Be,<- Nat.div_div_eq_div_mul];omega
theorem FX {x:Nat}:kf .u64 (x:Int) 63=((x / 9223372036854775808:Nat):Int):=by
 unfold kf;rw [show (2:Int) ^ (min ((63:Int)).toNat (IntKind.u64.bits))=9223372036854775808 by decide,M6 _ (by omega)];rfl
theorem kU {n:Int} (hn:ve n):be ⟨aV (eI n++y),bad⟩=some (n,⟨aV y,bad⟩):=by
 obtain⟨h1,h2⟩:=hn;obtain⟨N,rfl⟩:∃ N:Nat,n=N:=⟨n.toNat,by omega⟩;unfold be;rw [uR (x:=eI N) 8 rfl,ad];dsimp only;rw [show ce (aV (eI (N:Int))).size=true from dk (by rw [cg,bT]; omega)];simp only [gd,cond_true];rw [show loop (fun s:Int×Int=>bZ (aV (eI (N:Int)),⟨aV y,bad⟩) s.1 s.2) (0,0)=some ((N:Int),aV y,bad) from
  mK (B:=fun s:Int×Int=>bZ (aV (eI (N:Int)),⟨aV y,bad⟩) s.1 s.2) (fun k=>(((N / 256 ^ (8-k):Nat):Int),(k:Int))) 8 (by
   have:N / 256 ^ 8=0:=Bb (by omega);show ((0:Int),(0:Int))=(((N / 256 ^ 8:Nat):Int),((0:Nat):Int));rw [this]; rfl) (fun k O=>by
   dsimp only;unfold bZ;dsimp only;rw [jl (mE _)];have hg:(eI (N:Int))[k]? = some ((hb N (7-k):Nat):Int):=by
    unfold eI;rw [sf,sC,yM N O]; rfl
   have hlt:N / 256 ^ (8-k)<72057594037927936:=by
    have h3:256 ^ 1<=256 ^ (8-k):=ux (by omega) (by omega);have h4:N / 256 ^ (8-k)<=N / 256 ^ 1:=Gb h3 (by omega);have h5:N / 256 ^ 1<72057594037927936:=by rw [Nat.pow_one]; omega
    omega
   rw [show ((eI (N:Int)).length:Int)=((8:Nat):Int) from rfl,dlt O,cond_true,bn,hg,ad,Mb hlt (zE _ _),cJ (by omega)];have:=zF N (7-k);rw [show 7-k+1=8-k by omega] at this;rw [<- this,show 8-(k+1)=7-k by omega]) (by
   dsimp only;unfold bZ;dsimp only;rw [jl (mE _),show ((eI (N:Int)).length:Int)=((8:Nat):Int) from rfl,bN,cond_false];rw [show 8-8=0 from rfl,DD,Bc]),ad]
 unfold dm;rw [FX,show N / 9223372036854775808=0 from Bb (by omega)];rw [show ((((0:Nat):Int))==1)=false from rfl,cond_false,lU (by omega) (by omega)]
theorem B4 (hs:s.size<9223372036854775808):cI ⟨aV (nv s++y),bad⟩=some (s,⟨aV y,bad⟩):=by
 unfold cI nv;rw [fq,kU ⟨by omega,by omega⟩,ad];dsimp only;rw [uR (x:=cy s) _ (by rw [cP]),ad,lS]
theorem C3 {k:ah} (O:ve k.k) (hs:k.t.size<9223372036854775808):cF ⟨aV (lV k++y),bad⟩=some (k,⟨aV y,bad⟩):=by
 unfold cF lV;rw [fq,kU O,ad];dsimp only;rw [B4 hs,ad]
theorem N5 {b:Bool}:dB ⟨aV (eI (if b=true then 1 else 0)++y),false⟩=some (b,⟨aV y,false⟩):=by
 unfold dB dQ;cases b
 ·rw [show (if false=true then (1:Int) else 0)=0 from rfl,kU ⟨by omega,by omega⟩,ad]; rfl
 ·rw [show (if true=true then (1:Int) else 0)=1 from rfl,kU ⟨by omega,by omega⟩,ad]; rfl
theorem wY {α:Type} {W:α->List Int} {xs:List α} {F:List α->Int->ByteArray->Bool->Option (Fl ((List α)×Int×ByteArray×Bool) ((List α)×ByteArray×Bool))} (hn:xs.length<=1000000)
  (hF:∀ (k:Nat) (x:α) (z:List Int),xs[k]? = some x->F (xs.take k) ((xs.length-k:Nat):Int) (aV (W x++z)) false=some (.go (xs.take (k+1),((xs.length-(k+1):Nat):Int),aV z,false))) (hE:∀ o r b,F o 0 r b=some (.out (o,r,b))) :
  loop (fun s:(List α)×Int×ByteArray×Bool=>F s.1 s.2.1 s.2.2.1 s.2.2.2) (([]:List α),(xs.length:Int),aV (xs.flatMap W++y),false)=some (xs,aV y,false):=by
 refine ej (xs:=xs) (fun k=>(xs.take k,((xs.length-k:Nat):Int),aV ((xs.drop k).flatMap W++y),false)) (by simp) (fun k x hx=>?_) ?_
 ·dsimp only;obtain⟨O,e⟩:=cu.1 hx;rw [Hw O,e,wd,fq,hF k x _ hx]
 ·dsimp only;rw [xh,Hx,List.flatMap_nil,qU,fW];exact hE _ _ _
theorem Bw (h:s.size<=1073741824):s.size<9223372036854775808:=by omega
structure HN (x:bc):Prop where
 w:QJ x
 text:x.d.t.size<=1073741824
 value:x.u.size<=1073741824
structure Bj (r:ay):Prop where
 w:Pw r
 text:r.d.t.size<=1073741824
 value:r.u.size<=1073741824
 texts:∀ k∈r.v,k.t.size<=1073741824
theorem SK {x:bc} (h:HN x):dh ⟨aV (wo x++y),bad⟩=some (x,⟨aV y,bad⟩):=by
 unfold dh wo;rw [fq,fq,C3 h.w.key (Bw h.text),ad];dsimp only;rw [B4 (Bw h.value),ad];dsimp only;rw [kU h.w.chg,ad]
theorem w7 {n k:Nat} (O:k<n) (hn:n<=1000000):decide ((0:Int)<((n-k:Nat):Int))=true/\IntKind.i64.wrap (((n-k:Nat):Int)-1)=((n-(k+1):Nat):Int) :=
 ⟨decide_eq_true (by omega),by rw [lU (by omega) (by omega)]; omega⟩
theorem N6 {xs:List ah} (h:∀ k∈xs,ve k.k/\k.t.size<=1073741824) (hn:xs.length<=1000000):kd ⟨aV (eI xs.length++(xs.flatMap lV++y)),false⟩=some (xs,⟨aV y,false⟩):=by
 unfold kd;rw [kU ⟨by omega,by omega⟩,ad];dsimp only;rw [wY (W:=lV) (xs:=xs) (F:=fU) hn (fun k x z hx=>by
  have O:=bh hx;obtain⟨s1,s2⟩:=w7 O hn;obtain⟨h1,h2⟩:=h x (aD hx);unfold fU;rw [s1,cond_true,fv,cond_true,C3 h1 (Bw h2),ad,dk (by simp; omega)];simp only [gd,cond_true];rw [s2,bX hx]) (fun o r b=>rfl),ad]
 rfl
theorem Qi {xs:List bc} (h:∀ x∈xs,HN x) (hn:xs.length<=1000000):gM ⟨aV (eI xs.length++(xs.flatMap wo++y)),false⟩=some (xs,⟨aV y,false⟩):=by
 unfold gM;rw [kU ⟨by omega,by omega⟩,ad];dsimp only;rw [wY (W:=wo) (xs:=xs) (F:=eH) hn (fun k x z hx=>by
  have O:=bh hx;obtain⟨s1,s2⟩:=w7 O hn;unfold eH;rw [s1,cond_true,fv,cond_true,SK (h x (aD hx)),ad,dk (by simp; omega)];simp only [gd,cond_true];rw [s2,bX hx]) (fun o r b=>rfl),ad]
 rfl
theorem Qk {r:ay} (h:Bj r):cV ⟨aV (lp r++y),false⟩=some (r,⟨aV y,false⟩):=by
 have hw:=h.w;unfold cV lp;simp only [fq];rw [C3 hw.key (Bw h.text),ad];dsimp only;rw [B4 (Bw h.value),ad];dsimp only;rw [N6 (fun k O=>⟨hw.reads k O,h.texts k O⟩) hw.few,ad];dsimp only;rw [kU hw.chg,ad];dsimp only;rw [kU hw.ver,ad];dsimp only;rw [kU hw.cost,ad];dsimp only;rw [N5,ad]
theorem N7 {xs:List ay} (h:∀ x∈xs,Bj x) (hn:xs.length<=1000000):fV ⟨aV (eI xs.length++(xs.flatMap lp++y)),false⟩=some (xs,⟨aV y,false⟩):=by
 unfold fV;rw [kU ⟨by omega,by omega⟩,ad];dsimp only;rw [wY (W:=lp) (xs:=xs) (F:=dV) hn (fun k x z hx=>by
  have O:=bh hx;obtain⟨s1,s2⟩:=w7 O hn;unfold dV;rw [s1,cond_true,fv,cond_true,Qk (h x (aD hx)),ad,dk (by simp; omega)];simp only [gd,cond_true];rw [s2,bX hx]) (fun o r b=>rfl),ad]
 rfl
noncomputable def i8 (o:List Int):ByteArray:=aV o++aV (o9 (BV (aV o)))
theorem vn (h:s.size<=140000000000000):ve (BV s).d1/\0<=(BV s).b1/\(BV s).b1<18446744073709551616:=by
 have hlt:=(dY c0 s.toList).isLt;refine⟨⟨?_,?_⟩,?_,?_⟩
 ·show (0:Int)<=(s.size:Int); omega
 ·show ((s.size:Int))<_; omega
 ·show (0:Int)<=((dY c0 s.toList).toNat:Int); omega
 ·show ((dY c0 s.toList).toNat:Int)<_; omega
theorem uZ (d:df):(o9 d).length=16:=rfl
theorem eZ (a b:List Int):aV a++aV b=aV (a++b):=by
 apply AF;rw [qh,Az,ByteArray.toList_eq,ByteArray.data_append,Array.toList_append];rfl
theorem wZ (o:List Int):i8 o=aV (o++o9 (BV (aV o))):=eZ _ _
theorem tG (o:List Int):(i8 o).size=o.length+16:=by rw [wZ,cg,bk,uZ]
theorem Jt {o:List Int} (h:o.length<=140000000000000):gt ⟨o⟩=some (i8 o,⟨o⟩):=by
 have hs:(aV o).size<=140000000000000:=by rw [cg]; omega
 obtain⟨d1,d2,d3⟩:=vn hs;unfold gt;dsimp only;rw [Fs hs,ad,uJ d1 ⟨d2,d3⟩,ad,show Nat.ble ((aV o).size+(aV (o9 (BV (aV o)))).size) 140737488355328=true from sw (by rw [cg,cg,uZ]; omega)];rfl
theorem zR {o:List Int} (h:o.length<=140000000000000):fm (i8 o)=some (⟨aV o,false⟩,0):=by
 have hs:(aV o).size<=140000000000000:=by rw [cg]; omega
 obtain⟨d1,d2,d3⟩:=vn hs;have hz:=tG o;have hsub:ln (i8 o) 0 (o.length:Int)=some (aV o):=by
  have:=me (l:=o++o9 (BV (aV o))) (a:=0) (b:=o.length) (bY _) (by rw [bk]; omega);rw [Ga rfl,yh] at this;rw [wZ]; exact this
 have hsub2:ln (i8 o) (o.length:Int) ((i8 o).size:Int)=some (aV (o9 (BV (aV o)))):=by
  have:=me (l:=o++o9 (BV (aV o))) (a:=o.length) (b:=(o++o9 (BV (aV o))).length) (by rw [bk]; omega) (cm _);rw [fW,JO rfl] at this;rw [wZ,cg]; exact this
 unfold fm;rw [show IntKind.i64.wrap (((i8 o).size:Int)-16)=(o.length:Int) by rw [hz,lU (by omega) (by omega)]; omega];rw [decide_eq_false (by omega),cond_false,hsub,ad,hsub2,ad,Fs hs,ad,uJ d1 ⟨d2,d3⟩,ad,beq_self_eq_true,dJ,cond_false];rfl
end
section
open Go.Lib hiding intOf
structure cD (l:List Int) (at_:Int):Prop where
 low:0<=at_
 high:at_<=l.length
 len:l.length<=400
theorem eE {l:List Int} {i:Int} (h:cD l i) {n:Int} (h1:1<=n) (h2:n<=1000000000):Ok (cz ⟨l,i⟩ n) fun r=>0<=r.1/\r.1<n/\cD r.2.L r.2.s1:=by
 unfold cz;refine ar (fun h3=>ae ⟨by omega,by omega,h⟩) (fun h3=>?_);have h3:i<l.length:=by simpa using h3
 have:=h.low; have:=h.high; have:=h.len;dsimp only;rw [show IntKind.i64.wrap (i+1)=i+1 from lU (by omega) (by omega),lU (by omega) (by omega)];refine zk (by simpa using h.low) (by simpa using h3) fun v _ _=>?_;obtain⟨m,rfl⟩:∃ m:Nat,n=m:=⟨n.toNat,by omega⟩;obtain⟨r,hr,e⟩:=FG v (m:=m) (by omega) (by omega);exact aG e (ae ⟨by simp,by simp; omega,⟨by simp; omega,by simp; omega,h.len⟩⟩)
theorem Ol {l:List Int} {i:Int} (h:cD l i) {ws:List ByteArray} (h1:1<=ws.length) (h2:ws.length<=1000):Ok (uK ⟨l,i⟩ ws) fun r=>r.1∈ws/\cD r.2.L r.2.s1:=by
 unfold uK;refine ai (eE h (by omega) (by omega)) fun r hr=>zk hr.1 hr.2.1 fun v _ hv=>ae ⟨hv,hr.2.2⟩
end
section
open Go.Lib hiding intOf
def ZZ (rs:List Bool):Nat->Nat
 | 0=>0
 | a+1=>if rs[a]? = some true then ZZ rs a else a+1
def Kb (rs:List Bool):Nat->Nat->Nat
 | 0,b=>b
 | f+1,b=>if rs[b]? = some true then Kb rs f (b+1) else b
theorem FE (rs:List Bool) (a:Nat):ZZ rs (a+1)=if rs[a]? = some true then ZZ rs a else a+1:=rfl
theorem GJ (rs:List Bool) (f b:Nat):Kb rs (f+1) b=if rs[b]? = some true then Kb rs f (b+1) else b:=rfl
theorem EF (rs:List Bool):∀ a,ZZ rs a<=a
 | 0=>cm _
 | a+1=>by
  have:=EF rs a;unfold ZZ;split <;> omega
theorem Lp (rs:List Bool):∀ f b,b<=Kb rs f b/\Kb rs f b<=b+f
 | 0,b=>⟨cm _,cm _⟩
 | f+1,b=>by
  have:=Lp rs f (b+1);unfold Kb;split <;> omega
def blk (rs:List Bool) (n:Nat):Nat×Nat:=if rs[n]? = some true then (ZZ rs n,Kb rs (rs.length-(n+1)) (n+1)) else (n,n+1)
theorem KR {rs:List Bool} {n:Nat} (h:n<rs.length):(blk rs n).1<=n/\n<(blk rs n).2/\(blk rs n).2<=rs.length:=by
 have h1:=EF rs n;have h2:=Lp rs (rs.length-(n+1)) (n+1);unfold blk;split <;> simp only [] <;> omega
theorem AG {rs:List Bool} {n:Nat} (h:rs[n]? = some false):blk rs n=(n,n+1):=by simp [blk,h]
def bS (l:List aX):List Bool:=l.map (·.o)
theorem sd {l:List aX} {n:Nat} (h:n<l.length):(bS l)[n]? = some l[n].o:=by simp [bS,h]
theorem EO {l:List aX} {n:Nat} (h:n<l.length) (hl:l.length<=1000000):pg l n=some (((blk (bS l) n).1:Int),((blk (bS l) n).2:Int)):=by
 unfold pg;rw [show decide ((n:Int)<0)=false by simp,show decide (((l.length:Int):Int)<=(n:Int))=false by simp; omega];simp only [cond_false,ad];have hr:=sd h;cases hb:l[n].o with
 | false =>
  rw [hb] at hr;have h1:loop (fun s:Int=>gW l n s) (n:Int)=some (n:Int):=pD (by
   unfold gW; rw [bq h]; simp only [ad,hb,cond_false])
  have h2:loop (fun s:Int=>gV l n s) ((n:Int)+1)=some ((n:Int)+1):=pD (by
   unfold gV; rw [bq h]; simp only [ad,hb,cond_false])
  rw [h1];unfold mX mW;rw [ad,lU (by omega) (by omega),h2,AG hr];rfl
 | true =>
  rw [hb] at hr;have h1:loop (fun s:Int=>gW l n s) (n:Int)=some ((ZZ (bS l) n:Nat):Int):=by
   refine BZ (I:=fun k s=>∃ a:Nat,a+k=n/\s=(a:Int)/\ZZ (bS l) a=ZZ (bS l) n) _ n ?_ ?_ ⟨n,rfl,rfl,rfl⟩
   ·rintro k _ O ⟨a,ha,rfl,e⟩;unfold gW;obtain⟨c,rfl⟩:∃ c,a=c+1:=⟨a-1,by omega⟩;have hc:c<l.length:=by omega
    rw [bq h,show decide ((0:Int)<((c+1:Nat):Int))=true by simp <;> omega,lU (by omega) (by omega),show (((c+1:Nat):Int)-1)=(c:Int) by omega,bq hc];simp only [cond_true,ad,hb];have hr2:=sd hc;rw [FE,hr2] at e;cases hb2:l[c].o with
    | true=>rw [hb2,if_pos rfl] at e; exact .inl ⟨_,rfl,c,by omega,rfl,e⟩
    | false=>rw [hb2,if_neg (by simp)] at e; right; rw [<- e]; rfl
   ·rintro _ ⟨a,ha,rfl,e⟩;obtain rfl:a=0:=by omega
    unfold gW;rw [bq h,<- e];simp only [ad,hb,cond_true];rfl
  have h2:loop (fun s:Int=>gV l n s) ((n+1:Nat):Int)=some ((Kb (bS l) ((bS l).length-(n+1)) (n+1):Nat):Int):=by
   have hlen:(bS l).length=l.length:=by simp [bS]
   rw [hlen];refine BZ (I:=fun k s=>∃ a:Nat,a=n+1+k/\a<=l.length/\s=(a:Int)/\Kb (bS l) (l.length-a) a=Kb (bS l) (l.length-(n+1)) (n+1)) _ (l.length-(n+1)) ?_ ?_ ⟨n+1,rfl,h,rfl,rfl⟩
   ·rintro k _ O ⟨a,ha,hal,rfl,e⟩;unfold gV;have hc:a<l.length:=by omega
    rw [bq h,show decide ((a:Int)<(l.length:Int))=true by simp; omega,bq hc,lU (by omega) (by omega)];simp only [cond_true,ad,hb];have hr2:=sd hc;rw [show l.length-a=(l.length-(a+1))+1 by omega] at e;rw [GJ,hr2] at e;cases hb2:l[a].o with
    | true=>rw [hb2,if_pos rfl] at e; exact .inl ⟨_,rfl,a+1,by omega,by omega,by simp,e⟩
    | false=>rw [hb2,if_neg (by simp)] at e; right; rw [<- e]; rfl
   ·rintro _ ⟨a,ha,hal,rfl,e⟩;obtain rfl:a=l.length:=by omega
    unfold gV;rw [xh] at e;rw [bq h,<- e];simp [Kb,hb]
  rw [h1];simp only [ad];unfold mX mW;rw [lU (by omega) (by omega),show ((n:Int)+1)=((n+1:Nat):Int) by omega,h2];simp [blk,hr]
structure Gf (ring:Bool) (k:Nat) (b:Int) (a:fZ):Prop where
 low:0<=a.N
 cell:a.t1=true->a.N<4
 rule:a.t1=false->a.N<b
 pick:a.c1=true->ring=false/\0<k
 low2:0<=a.u1
 cell2:a.t1=true->a.u1<4
 rule2:a.t1=false->a.u1<b
 none:a.c1=false->a.u1=0
structure HP (b:Int) (r:aX):Prop where
 asks:r.g.length<=3
 each:∀ k a,r.g[k]? = some a->Gf r.o k b a
 ring:r.o=true->r.p=5/\0<=r.C/\r.C<=16
 plain:r.o=false->1<=r.p/\r.p<=4/\0<=r.C/\r.C<=5
def Ge (rs:List Bool) (i:Nat):Nat:=if rs[i]? = some true then (blk rs i).2 else i
structure bM (l:List aX):Prop where
 low:1<=l.length
 high:l.length<=8
 each:∀ i r,l[i]? = some r->HP (Ge (bS l) i) r
def HK (ring:Bool) (b k:Int) (ks:List fZ):Fl (Int×List Int×Int×List fZ) (List Int×Int×List fZ)->Prop
 | .go s=>s.1=k-1/\cD s.2.1 s.2.2.1/\∃ a,Gf ring ks.length b a/\s.2.2.2=ks++[a]
 | .out _=>False
section
variable {ring:Bool} {b k:Int} {ks:List fZ} {cell:Bool} {most n:Int} {l:List Int} {i:Int}
theorem SD {pick:Bool} {e:Int} (ha:Gf ring ks.length b ⟨cell,pick,n,e⟩) (hd:cD l i) (O:1<=k/\k<=3) (hl:ks.length<=3):Ok (ml k ks cell n l i pick e) (HK ring b k ks):=by
 unfold ml rh;exact bC (dk (by simp; omega)) (ae ⟨lU (by omega) (by omega),hd,_,ha,rfl⟩)
theorem SE {g:Bool} (hg:g=true->ring=false/\0<ks.length) (hn:0<=n/\n<most) (hc:cell=true->most=4) (hr:cell=false->most=b) (hm:1<=most/\most<=8) (hd:cD l i) (O:1<=k/\k<=3) (hl:ks.length<=3) :
  Ok (ki k ks cell most n g l i) (HK ring b k ks):=by
 unfold ki;refine ar (fun e=>ai (eE hd (by omega) (by omega)) fun r hr2=>SD ⟨hn.1,fun h=>?_,fun h=>?_,fun _=>hg e,hr2.1,fun h=>?_,fun h=>?_,fun h=>by cases h⟩ hr2.2.2 O hl)
  (fun e=>SD ⟨hn.1,fun h=>?_,fun h=>?_,fun h=>(by cases h),by simp,fun h=>(by simp),fun h=>?_,fun h=>rfl⟩ hd O hl)
 all_goals first
  | (have:=hc h; simp only []; omega)
  | (have:=hr h; simp only []; omega)
theorem SF (hn:0<=n/\n<most) (hc:cell=true->most=4) (hr:cell=false->most=b) (hm:1<=most/\most<=8) (hd:cD l i) (O:1<=k/\k<=3) (hl:ks.length<=3) :
  Ok (mm ring k ks cell most l i n) (HK ring b k ks):=by
 unfold mm;refine ar (fun e=>ar (fun e2=>ai (eE hd (by omega) (by omega)) fun r hr2=>SE (fun _=>⟨by simpa using e,by simpa using e2⟩) hn hc hr hm hr2.2.2 O hl) (fun e2=>?_)) (fun e=>?_)
 all_goals exact SE (fun h=>by cases h) hn hc hr hm hd O hl
theorem SG (hc:cell=true->most=4) (hr:cell=false->most=b) (hm:1<=most/\most<=8) (hd:cD l i) (O:1<=k/\k<=3) (hl:ks.length<=3) :
  Ok (mo ring k ks l i cell most) (HK ring b k ks):=by
 unfold mo;refine ai (eE hd (by omega) (by omega)) fun r h1=>?_;have h8:∀ {g:Bool} {l2:List Int} {i2:Int},cD l2 i2->Ok (mn ring k ks cell most r g l2 i2) (HK ring b k ks):=fun {g l2 i2} h2=>by
  unfold mn;refine ar (fun _=>ai (eE h2 (by omega) (by omega)) fun q h3=>?_) (fun _=>SF ⟨h1.1,h1.2.1⟩ hc hr hm h2 O hl);have:=h3.1; have:=h3.2.1;rw [show IntKind.i64.wrap (most-1)=most-1 from lU (by omega) (by omega),lU (by omega) (by omega)];exact SF ⟨by omega,by omega⟩ hc hr hm h3.2.2 O hl
 refine ar (fun _=>ai (eE h1.2.2 (by omega) (by omega)) fun q h3=>h8 h3.2.2) (fun _=>h8 h1.2.2)
theorem SH (hb:0<=b/\b<=8) (hd:cD l i) (O:1<=k/\k<=3) (hl:ks.length<=3):Ok (kR b ring k l i ks) (HK ring b k ks):=by
 unfold kR;refine ar (fun _=>ai (eE hd (by omega) (by omega)) fun r h1=>?_) (fun e=>by simp at e; omega);have h10:∀ {c:Bool},(c=false->1<=b)->Ok (kO b ring k ks r.2.L r.2.s1 c) (HK ring b k ks):=fun {c} h=>by
  unfold kO;exact ar (fun e=>by subst e; exact SG (fun _=>rfl) (fun h=>by cases h) ⟨by omega,by omega⟩ h1.2.2 O hl) (fun e=>by subst e; exact SG (fun h=>by cases h) (fun _=>rfl) ⟨h rfl,hb.2⟩ h1.2.2 O hl)
 exact ar (fun _=>h10 fun h=>by cases h) (fun _=>h10 fun h=>by simp at h; omega)
end
def Pu (l:List aX) (n:Nat) (ring:Bool) (b:Int):Fl (List aX×Int×List Int×Int) (List aX×List Int×Int)->Prop
 | .go s=>(∃ r,HP b r/\r.o=ring/\s.1=l.set n r)/\s.2.1=n+1/\cD s.2.2.1 s.2.2.2
 | .out _=>False
theorem Pf {l:List aX} {n:Nat} (h:n<l.length) (hl:l.length<=8) {b:Int} (hb:0<=b/\b<=8) {ring:Bool} {d:List Int} {i:Int} (hd:cD d i) {f c:Int}
  (h5:ring=true->f=5/\0<=c/\c<=16) (h6:ring=false->1<=f/\f<=4/\0<=c/\c<=5):Ok (kP l n b ring d i f c) (Pu l n ring b):=by
 unfold kP;refine ai (eE hd (by omega) (by omega)) fun r h1=>?_;refine bV (fun k s=>s.1=r.1-k/\s.2.2.2.length=k/\cD s.2.1 s.2.2.1/\∀ j a,s.2.2.2[j]? = some a->Gf ring j b a) (fun q=>q.2.2.length<=3/\cD q.1 q.2.1/\∀ j a,q.2.2[j]? = some a->Gf ring j b a) r.1.toNat
  ⟨by simp,rfl,h1.2.2,fun j a e=>by simp at e⟩ (fun k s O hI=>?_) (fun q hq=>?_)
 ·obtain⟨e1,e2,e3,e4⟩:=hI;have:=h1.1; have:=h1.2.1;by_cases hz:(0:Int)<s.1
  ·refine (SH hb e3 ⟨by omega,by omega⟩ (by omega)).mono fun y hy=>?_;cases y with
   | out q=>exact hy.elim
   | go s2 =>
    obtain⟨g1,g2,a,g3,g4⟩:=hy;refine⟨by omega,by omega,by rw [g4]; simp; omega,g2,fun j x hx=>?_⟩;rw [g4] at hx;by_cases hj:j<s.2.2.2.length
    ·rw [se hj] at hx; exact e4 j x hx
    ·rw [ua (by omega)] at hx;obtain rfl:j=s.2.2.2.length:=by
      rcases gD s.2.2.2.length j with h | h
      ·rw [E8 (by simp; omega)] at hx; cases hx
      ·omega
     simp at hx; subst hx; exact g3
  ·unfold kR;rw [show decide ((0:Int)<s.1)=false by simpa using hz];exact ae ⟨by simp only []; omega,e3,e4⟩
 ·unfold oe rf;refine zk (by omega) (by omega) fun v _ _=>ae ⟨⟨⟨ring,q.2.2,f,c⟩,⟨hq.1,hq.2.2,h5,h6⟩,rfl,by simp⟩,lU (by omega) (by omega),hq.2.1⟩
theorem SI {l:List aX} {n:Nat} (h:n<l.length) (hl:l.length<=8) {d:List Int} {i:Int} (hd:cD d i) (l0:List aX) (h0:l0.length=l.length):Ok (kS l0 l n d i) (Pu l n l[n].o (Ge (bS l) n)):=by
 unfold kS;rw [show decide ((n:Int)<(l0.length:Int))=true by simp; omega,EO h (by omega)];simp only [cond_true,ad];rw [bq h];simp only [ad];have hb:=KR (rs:=bS l) (n:=n) (by simpa [bS] using h);have hlen:(bS l).length=l.length:=by simp [bS]
 have h14:∀ {b:Int},0<=b/\b<=8->Ok (kQ l n d i b) (Pu l n l[n].o b):=fun {b} hb=>by
  unfold kQ;rw [bq h,ad];refine ai (eE hd (by omega) (by omega)) fun r h1=>ai (eE h1.2.2 (by omega) (by omega)) fun q h2=>?_;have:=h1.1; have:=h1.2.1; have:=h2.1; have:=h2.2.1;rw [lU (by omega) (by omega)];unfold pE;refine ar (fun e=>ai (eE h2.2.2 (by omega) (by omega)) fun p h3=>zk h3.1 (by simpa using h3.2.1) fun v _ hv=>?_) (fun e=>?_)
  ·refine Pf h hl hb h3.2.2 (fun _=>⟨rfl,?_⟩) (fun e2=>by rw [e] at e2; cases e2);simp only [dX,fu,or_false] at hv;omega
  ·exact Pf h hl hb h2.2.2 (fun e2=>by rw [e] at e2; cases e2) (fun _=>⟨by omega,by omega,by omega,by omega⟩)
 have hr:=sd h;unfold Ge;rw [hr];cases e:l[n].o with
 | true=>rw [e] at h14; simp only [dJ,cond_false,if_true]; exact h14 ⟨by omega,by omega⟩
 | false=>rw [e] at h14 hr; rw [AG hr]; simp only [fv,cond_true]; exact h14 ⟨by omega,by omega⟩
theorem Ku {l:List aX} {n:Nat} {r:aX} (h:n<l.length) (e:r.o=l[n].o):bS (l.set n r)=bS l:=by
 unfold bS;rw [List.map_set,e];apply List.ext_getElem (by simp);intro j h1 h2;by_cases hj:n=j
 ·subst hj; simp
 ·simp [hj]
theorem MB {d:List Int} {i:Int} (hd:cD d i):Ok (tu ⟨d,i⟩) fun y=>bM y.1/\cD y.2.L y.2.s1:=by
 unfold tu;refine ai (eE hd (by omega) (by omega)) fun r h1=>?_;have:=h1.1; have:=h1.2.1;rw [lU (by omega) (by omega)];refine bV (fun k s=>s.1.length=k/\s.2.1=2+r.1-k/\cD s.2.2.1 s.2.2.2) (fun q=>2<=q.1.length/\q.1.length<=8/\cD q.2.1 q.2.2) (2+r.1).toNat ⟨rfl,by simp,h1.2.2⟩ (fun k s O hI=>?_) (fun q hq=>?_)
 ·obtain⟨e1,e2,e3⟩:=hI;unfold pF;refine ar (fun e=>ai (eE e3 (by omega) (by omega)) fun q h2=>bC (dk (by simp; omega)) (ae ?_)) (fun e=>ae ?_)
  ·have e:(0:Int)<s.2.1:=by simpa using e
   exact⟨by omega,by simp [e1],by dsimp only; rw [lU (by omega) (by omega)]; omega,h2.2.2⟩
  ·have e:¬ (0:Int)<s.2.1:=by simpa using e
   exact⟨by dsimp only; omega,by dsimp only; omega,e3⟩
 ·obtain⟨q1,q2,q3⟩:=hq;unfold mT;refine bV (fun k s=>s.1.length=q.1.length/\s.2.1=k/\cD s.2.2.1 s.2.2.2/\bS s.1=bS q.1/\∀ j r,j<k->s.1[j]? = some r->HP (Ge (bS q.1) j) r) (fun p=>bM p.1/\cD p.2.1 p.2.2) q.1.length ⟨rfl,rfl,q3,rfl,fun j r h=>by omega⟩ (fun k s O hI=>?_) (fun p hp=>?_)
  ·obtain⟨e1,e2,e3,e4,e5⟩:=hI;by_cases hz:k<q.1.length
   ·have hz1:k<s.1.length:=by omega
    rw [e2];refine (SI hz1 (by omega) e3 q.1 e1.symm).mono fun y hy=>?_;cases y with
    | out q=>exact hy.elim
    | go s2 =>
     obtain⟨⟨x,g1,g2,g3⟩,g4,g5⟩:=hy;refine⟨hz,by rw [g3]; simpa using e1,by rw [g4]; simp,g5,by rw [g3,Ku hz1 g2]; exact e4,fun j r hj hr=>?_⟩;rw [g3] at hr;by_cases hjk:k=j
     ·subst hjk;rw [E9 hz1] at hr;injection hr with hr; subst hr;rw [e4] at g1; exact g1
     ·rw [List.getElem?_set_ne hjk] at hr;exact e5 j r (by omega) hr
   ·unfold kS;rw [show decide ((s.2.1:Int)<(q.1.length:Int))=false by simp; omega];refine ae ⟨⟨by simp only []; omega,by simp only []; omega,fun j r hr=>?_⟩,e3⟩;rw [e4];exact e5 j r (by have:=(cu.1 hr).1; dsimp only at this; omega) hr
  ·unfold od;exact ae hp
def H6 (rs:List Bool) (i:Nat) (cell:Bool) (n:Int):Bool:=decide (0<=n)&&cond cell (decide (n<=15)) (decide (n<(Ge rs i:Int)))
theorem C9 {l:List aX} {i:Nat} (h:i<l.length) (hl:l.length<=1000000) (x:fZ) (n:Int):s3 l (i:Int) x n=some (H6 (bS l) i x.t1 n):=by
 unfold s3 H6;cases x.t1 with
 | true =>
  rw [cond_true,cond_true];cases decide (0<=n) <;> rfl
 | false =>
  rw [cond_false,cond_false,EO h hl,ad];dsimp only;have hr:=sd h;rw [bq h,ad];unfold Ge;rw [hr];cases hg:l[i].o with
  | true =>
   rw [if_pos rfl];unfold nG nF;cases decide (0<=n) <;> rfl
  | false =>
   rw [hg] at hr;rw [if_neg (by simp),AG hr];unfold nG nF;cases decide (0<=n) <;> rfl
def PB (rs:List Bool) (i:Nat) (ring first:Bool) (a:fZ):Bool:=H6 rs i a.t1 a.N&&cond a.c1 (!ring && !first&&H6 rs i a.t1 a.u1) ((a.u1:Int)==0)
theorem yJ {ρ:Type} {B:Int->Option (Fl Int ρ)} (n:Nat) (p:Nat->Bool) {y r:ρ} (hgo:∀ k,k<n->p k=false->B (k:Int)=some (.go ((k+1:Nat):Int))) (hy:∀ k,k<n->p k=true->B (k:Int)=some (.out y)) (hn:B (n:Int)=some (.out r)):loop B 0=some (if (List.range n).any p then y else r):=by
 have hx:∀ (k x:Nat),(List.range n)[k]? = some x->x=k/\k<n:=fun k x h=>by
  have O:=bh h;simp only [BC] at O;rw [List.getElem?_range O] at h;exact⟨(cC h).symm,O⟩
 refine pC (xs:=List.range n) p (fun k=>(k:Int)) rfl (fun k x h hp=>?_) (fun k x h hp=>?_) (by simpa using hn)
 ·obtain⟨rfl,O⟩:=hx k x h;exact hgo _ O hp
 ·obtain⟨rfl,O⟩:=hx k x h;exact hy _ O hp
def JW (rs:List Bool) (i:Nat) (r:aX) (k:Nat):Bool:=match r.g[k]? with
 | some a=>!PB rs i r.o (((k:Nat):Int)==0) a
 | none=>false
def Em (rs:List Bool) (i:Nat) (r:aX):Bool:=!((List.range r.g.length).any (JW rs i r))
def Jr (rs:List Bool) (i:Nat) (r:aX) (low high most:Int):Bool:=!decide ((6:Int)<(r.g.length:Int)) && !decide (r.p<low) && !decide (high<r.p) && !decide (r.C<0) && !decide (most<r.C)&&Em rs i r
def Jq (rs:List Bool) (i:Nat) (r:aX):Bool:=cond r.o (Jr rs i r 5 5 65535) (Jr rs i r 1 4 999)
def Th (l:List aX):Prop:=l.length<=1000/\∀ r∈l,r.g.length<=1000
theorem Mq {l:List aX} {i:Nat} (h:i<l.length) (hl:Th l):loop (fun s:Int=>gX l (i:Int) l[i] s) 0=some (cond (Em (bS l) i l[i]) (Fl.go ()) (Fl.out false)):=by
 have U:=hl.2 _ (iK h);have hB:=hl.1;have hstep:∀ k,(O:k<l[i].g.length)->gX l (i:Int) l[i] (k:Int)=some (cond (JW (bS l) i l[i] k) (.out (.out false)) (.go ((k+1:Nat):Int))):=fun k O=>by
  unfold JW;rw [cH O];dsimp only;unfold gX PB fB;rw [dlt O,cond_true,bq O,ad,C9 h (by omega),C9 h (by omega),cJ (by omega)];simp only [ad,bne];generalize (((k:Nat):Int)==0)=f;generalize ((l[i].g[k].u1:Int)==0)=z;generalize H6 (bS l) i l[i].g[k].t1 l[i].g[k].N=m1;generalize H6 (bS l) i l[i].g[k].t1 l[i].g[k].u1=m2;generalize l[i].g[k].c1=pk;generalize l[i].o=rg;cases pk <;> cases rg <;> cases f <;> cases m1 <;> cases m2 <;> cases z <;> rfl
 have e:=yJ (B:=fun s:Int=>gX l (i:Int) l[i] s) l[i].g.length (JW (bS l) i l[i]) (y:=Fl.out false) (r:=Fl.go ()) (fun k O hp=>by rw [hstep k O,hp]; rfl) (fun k O hp=>by rw [hstep k O,hp]; rfl) (by unfold gX; rw [bN]; rfl);rw [e];unfold Em;cases (List.range l[i].g.length).any (JW (bS l) i l[i]) <;> rfl
def JX (l:List aX) (k:Nat):Bool:=match l[k]? with
 | some r=>!Jq (bS l) k r
 | none=>false
def F5 (l:List aX):Bool:=decide ((l.length:Int)<=24) && !((List.range l.length).any (JX l))
theorem Ks {l:List aX} (hl:Th l):rS l=some (F5 l):=by
 have hB:=hl.1;unfold rS F5;have hstep:∀ k,(O:k<l.length)->ju l (k:Int)=some (cond (JX l k) (.out (.out false)) (.go ((k+1:Nat):Int))):=fun k O=>by
  have hj:jt (k:Int) l[k]=some (cond ((cond l[k].o (!decide (l[k].p<5) && !decide (5<l[k].p) && !decide (l[k].C<0) && !decide (65535<l[k].C)) (!decide (l[k].p<1) && !decide (4<l[k].p) && !decide (l[k].C<0) && !decide (999<l[k].C)))) (.go ((k+1:Nat):Int)) (.out (.out false))):=by
   unfold jt ek pK;rw [cJ (by omega)];cases hrg:l[k].o
   ·cases decide (l[k].p<1) <;> cases decide (4<l[k].p) <;> cases decide (l[k].C<0) <;> cases decide (999<l[k].C) <;> rfl
   ·by_cases h5:l[k].p=5
    ·rw [show ((l[k].p:Int) != 5)=false by simp [h5],decide_eq_false (show ¬ l[k].p<5 by omega),decide_eq_false (show ¬ 5<l[k].p by omega)];cases decide (l[k].C<0) <;> cases decide (65535<l[k].C) <;> rfl
    ·rw [show ((l[k].p:Int) != 5)=true by simp [h5]];rcases (show l[k].p<5∨5<l[k].p by omega) with h | h
     ·rw [decide_eq_true h]; rfl
     ·rw [decide_eq_true h]; simp
  unfold JX;rw [cH O];dsimp only;unfold ju Jq Jr;rw [dlt O,cond_true,bq O,ad,Mq O hl,ad];have hel:∀ z:Bool,(cond z (Fl.go ()) (Fl.out false):Fl Unit Bool).el (fun s=>jt (k:Int) l[k]) (fun y=>some (.out (.out y)))=cond z (jt (k:Int) l[k]) (some (.out (.out false))):=fun z=>by cases z <;> rfl
  rw [hel,hj];generalize Em (bS l) k l[k]=z;generalize decide ((6:Int)<(l[k].g.length:Int))=d6;cases l[k].o
  ·simp only [cond_false];generalize decide (l[k].p<1)=d1;generalize decide (4<l[k].p)=d2;generalize decide (l[k].C<0)=d3;generalize decide (999<l[k].C)=d4;cases z <;> cases d6 <;> cases d1 <;> cases d2 <;> cases d3 <;> cases d4 <;> rfl
  ·simp only [cond_true];generalize decide (l[k].p<5)=d1;generalize decide (5<l[k].p)=d2;generalize decide (l[k].C<0)=d3;generalize decide (65535<l[k].C)=d4;cases z <;> cases d6 <;> cases d1 <;> cases d2 <;> cases d3 <;> cases d4 <;> rfl
 rw [yJ (B:=fun s:Int=>ju l s) l.length (JX l) (y:=Fl.out false) (r:=Fl.go ()) (fun k O hp=>by rw [hstep k O,hp]; rfl) (fun k O hp=>by rw [hstep k O,hp]; rfl) (by unfold ju; rw [bN]; rfl)];unfold pJ;cases (List.range l.length).any (JX l) <;> simp [Fl.el]
theorem H5 {l:List aX} (h:bM l):F5 l=true:=by
 unfold F5;have h8:=h.high;rw [decide_eq_true (by omega),Av,tI,BB];intro i hi;have hi:=vS.1 hi;unfold JX;have hg:=cH hi;rw [hg];dsimp only;have C:=h.each i l[i] hg;have ha:Em (bS l) i l[i]=true:=by
  unfold Em;rw [tI,BB];intro k O;have O:=vS.1 O;unfold JW;have hka:=cH O;rw [hka];dsimp only;have U:=C.each k _ hka;generalize l[i].g[k]=a at U;unfold PB H6;have hn:=U.low;have he:=U.low2;rw [decide_eq_true hn,decide_eq_true he,Av,Av];have c1:cond a.t1 (decide (a.N<=15)) (decide (a.N<(Ge (bS l) i:Int)))=true:=by
   cases hc:a.t1
   ·exact decide_eq_true (U.rule hc)
   ·have:=U.cell hc;exact decide_eq_true (by omega)
  have c2:cond a.t1 (decide (a.u1<=15)) (decide (a.u1<(Ge (bS l) i:Int)))=true:=by
   cases hc:a.t1
   ·exact decide_eq_true (U.rule2 hc)
   ·have:=U.cell2 hc;exact decide_eq_true (by omega)
  rw [c1,c2,Av];cases hp:a.c1
  ·rw [U.none hp]; simp
  ·obtain⟨p1,p2⟩:=U.pick hp;rw [p1,show (((k:Nat):Int)==0)=false by simp; omega]; simp
 have hb:Jq (bS l) i l[i]=true:=by
  have hl:=C.asks;unfold Jq Jr;rw [ha,decide_eq_false (show ¬ (6:Int)<(l[i].g.length:Int) by omega)];cases hr:l[i].o
  ·obtain⟨q1,q2,q3,q4⟩:=C.plain hr;rw [cond_false,decide_eq_false (show ¬ l[i].p<1 by omega),decide_eq_false (show ¬ 4<l[i].p by omega),decide_eq_false (show ¬ l[i].C<0 by omega),decide_eq_false (show ¬ 999<l[i].C by omega)]; rfl
  ·obtain⟨q1,q2,q3⟩:=C.ring hr;rw [cond_true,decide_eq_false (show ¬ l[i].p<5 by omega),decide_eq_false (show ¬ 5<l[i].p by omega),decide_eq_false (show ¬ l[i].C<0 by omega),decide_eq_false (show ¬ 65535<l[i].C by omega)]; rfl
 rw [hb]; decide
theorem bM.bnd {l:List aX} (h:bM l):Th l:=⟨by have:=h.high; omega,fun r hr=>by
 obtain⟨i,hi⟩:=nP.1 hr;have:=(h.each i r hi).asks; omega⟩
theorem H7 (n:Int) {m:Int} (hm:0<m) (hm2:m<=1000000000):Ok (mS n m) fun r=>0<=r/\r<m:=by
 obtain⟨k,rfl⟩:∃ k:Nat,m=k:=⟨m.toNat,by omega⟩;obtain⟨r,hr,e⟩:=FG n (m:=k) (by omega) (by omega);exact⟨_,e,by omega,by omega⟩
end
section
open Go.Lib hiding intOf
def jk (s:ByteArray):Int:=if ta s.toList<0 then 0 else if 65535<ta s.toList then 0 else ta s.toList
theorem Hf (s:ByteArray):ph s=some (jk s):=by
 unfold ph jk;rw [Le,ad];by_cases h1:ta s.toList<0
 ·simp [h1]
 ·by_cases h2:65535<ta s.toList
  ·simp [h1,h2]
  ·simp [h1,h2]
theorem ku (s:ByteArray):0<=jk s/\jk s<=65535:=by
 unfold jk;split
 ·omega
 ·split <;> omega
theorem Aq {n:Nat} (h:n<65536):jk (db n)=n:=by
 unfold jk;rw [tg,pB,Cy (by omega),if_neg (by omega),if_neg (by omega)]
theorem xC:∀ {l:List Int},(∀ x∈l,0<=x/\x<=65535)->0<=l.sum/\l.sum<=65535*l.length
 | [],_=>by simp
 | a::l,h=>by
  have h1:=xC (l:=l) fun x hx=>h x (yl _ hx);have h2:=h a xk;simp only [List.sum_cons,ip];omega
def wz (r:aX) (ls:List ByteArray):Int :=
 let s:=r.C+(ls.map jk).sum
 if r.p=1 then s.tmod 1000 else if r.p=2 then (s.tdiv 2).tmod 1000 else if r.p=3 then (ls.map jk).foldl max r.C else if r.p=4 then s.tmod 2 else (ls.map jk).foldl (fun a b=>sj .or .i64 a b) r.C
theorem Oe {α:Type} {l:List α} {k:Nat} (h:k<l.length):l.take (k+1)=l.take k++[l[k]]:=by rw [List.take_add_one,cH h]; rfl
theorem Ln {r:aX} {ls:List ByteArray} (hc:0<=r.C/\r.C<=65535) (hl:ls.length<=1000):rT r ls=some (wz r ls):=by
 have hb:∀ x∈ls.map jk,0<=x/\x<=65535:=fun x hx=>by
  obtain⟨s,_,rfl⟩:=kC.1 hx;exact ku s
 have h1:loop (fun s:Int×Int×Int×Int=>kX ls s.1 s.2.1 s.2.2.1 s.2.2.2) (r.C,r.C,r.C,0)=some (r.C+(ls.map jk).sum,(ls.map jk).foldl max r.C,(ls.map jk).foldl (fun a b=>sj .or .i64 a b) r.C):=by
  refine BZ (I:=fun k s=>s=(r.C+((ls.take k).map jk).sum,((ls.take k).map jk).foldl max r.C,((ls.take k).map jk).foldl (fun a b=>sj .or .i64 a b) r.C,(k:Int))) _ ls.length ?_ ?_ (by simp)
  ·rintro k _ O rfl;left;refine⟨_,?_,rfl⟩;unfold kX;have hs:=xC (l:=(ls.take k).map jk) fun x hx=>by
    obtain⟨s,_,rfl⟩:=kC.1 hx;exact ku s
   have hlen:((ls.take k).map jk).length<=1000:=by rw [oz,eS]; omega
   have hx:=ku ls[k];dsimp only;rw [dlt O,cond_true,bq O,ad,Hf,ad,lU (by omega) (by omega),lU (by omega) (by omega),Oe O];simp only [Az,yk,HF,List.sum_append,List.foldl_append,Hz,List.foldl_nil,List.sum_cons,List.sum_nil,Int.add_zero,Int.natCast_add,Int.natCast_one,Int.add_assoc]
  ·rintro _ rfl;unfold kX;rw [bN];simp
 have hs:=xC hb;rw [oz] at hs;unfold rT mY wz;rw [h1,ad];simp only [];by_cases f1:r.p=1
 ·simp [f1]
 ·by_cases f2:r.p=2
  ·have ht:0<=(r.C+(ls.map jk).sum).tdiv 2/\(r.C+(ls.map jk).sum).tdiv 2<=r.C+(ls.map jk).sum:=by
    rw [Int.tdiv_eq_ediv_of_nonneg (by omega)]; omega
   simp only [f2];rw [lU (by omega) (by omega)];simp
  ·by_cases f3:r.p=3
   ·simp [f3]
   ·by_cases f4:r.p=4
    ·simp [f4]
    ·have hb:∀ n:Int,r.p≠n->(r.p==n)=false:=fun n h=>by simpa using h
     rw [hb 1 f1,hb 2 f2,hb 3 f3,hb 4 f4];simp [f1,f2,f3,f4]
theorem Sv {a b:Nat} (ha:a<65536) (hb:b<65536):sj .or .i64 (a:Int) (b:Int)=((a ||| b:Nat):Int)/\a ||| b<65536:=by
 have h:=Nat.or_lt_two_pow (n:=16) ha hb;refine⟨?_,h⟩;unfold sj;simp only [show IntKind.i64.bits=64 from rfl];rw [BitVec.toNat_or,BitVec.toNat_ofInt,BitVec.toNat_ofInt,show ((a:Int) % ((2 ^ IntKind.i64.bits:Nat):Int)).toNat=a by rw [show IntKind.i64.bits=64 from rfl]; omega,show ((b:Int) % ((2 ^ IntKind.i64.bits:Nat):Int)).toNat=b by rw [show IntKind.i64.bits=64 from rfl]; omega];exact lU (by omega) (by omega)
theorem Fx:∀ (l:List Nat) (a:Nat),(∀ x∈l,x<=65535)->a<65536->(l.map fun x:Nat=>(x:Int)).foldl (fun a b=>sj .or .i64 a b) (a:Int)=((l.foldl (· ||| ·) a:Nat):Int)/\l.foldl (· ||| ·) a<65536
 | [],a,_,ha=>⟨rfl,ha⟩
 | x::l,a,h,ha=>by
  have hx:=h x xk;obtain⟨h1,h2⟩:=Sv ha (show x<65536 by omega);simp only [yk,Hz,h1];exact Fx l _ (fun y hy=>h y (yl _ hy)) h2
theorem yD {l:List aX} {n:Nat} {r:aX} (C:bM l) (h:l[n]? = some r) {ls:List ByteArray} (hl:ls.length<=3):∃ m:Nat,wz r ls=m/\m<65536:=by
 have hb:∀ x∈ls.map jk,0<=x/\x<=65535:=fun x hx=>by
  obtain⟨s,_,rfl⟩:=kC.1 hx;exact ku s
 have hs:=xC hb;rw [oz] at hs;have hr:=C.each n r h;unfold wz;dsimp only;cases hg:r.o with
 | false =>
  obtain⟨h1,h2,h3,h4⟩:=hr.plain hg;have key:∀ z:Int,0<=z->z<65536->∃ m:Nat,z=m/\m<65536:=fun z h1 h2=>⟨z.toNat,by omega,by omega⟩;by_cases f1:r.p=1
  ·rw [if_pos f1];refine key _ (E3 _ (by omega)) ?_;have:=E2 (r.C+(ls.map jk).sum) (b:=1000) (by omega);omega
  ·rw [if_neg f1];by_cases f2:r.p=2
   ·rw [if_pos f2];have ht:0<=(r.C+(ls.map jk).sum).tdiv 2:=by rw [Int.tdiv_eq_ediv_of_nonneg (by omega)]; omega
    refine key _ (E3 _ ht) ?_;have:=E2 ((r.C+(ls.map jk).sum).tdiv 2) (b:=1000) (by omega);omega
   ·rw [if_neg f2];by_cases f3:r.p=3
    ·rw [if_pos f3];have hm:∀ (xs:List Int) (c:Int),(∀ x∈xs,0<=x/\x<=65535)->0<=c->c<=65535->0<=xs.foldl max c/\xs.foldl max c<=65535:=by
      intro xs
      induction xs with
      | nil=>intro c _ h1 h2; exact⟨h1,h2⟩
      | cons x xs ih =>
       intro c hx h1 h2;have:=hx x xk;exact ih _ (fun y hy=>hx y (yl _ hy)) (by omega) (by omega)
     have:=hm (ls.map jk) r.C hb (by omega) (by omega);exact key _ this.1 (by omega)
    ·rw [if_neg f3,if_pos (by omega)];refine key _ (E3 _ (by omega)) ?_;have:=E2 (r.C+(ls.map jk).sum) (b:=2) (by omega);omega
 | true =>
  obtain⟨h1,h2,h3⟩:=hr.ring hg;rw [if_neg (by omega),if_neg (by omega),if_neg (by omega),if_neg (by omega)];obtain⟨c,hc⟩:∃ c:Nat,r.C=c:=⟨r.C.toNat,by omega⟩;have e:ls.map jk=(ls.map fun s=>(jk s).toNat).map fun x:Nat=>(x:Int):=by
   rw [AA];refine HE fun s _=>?_;have:=ku s;simp only [Function.comp];omega
  rw [e,hc];have:=Fx (ls.map fun s=>(jk s).toNat) c (fun x hx=>by
   obtain⟨s,_,rfl⟩:=kC.1 hx;have:=ku s;omega) (by omega)
  exact⟨_,this.1,this.2⟩
end
section
open Go.Lib hiding intOf
variable {l:List ay} {r:ay}
def KL (l:List ah):Prop:=l.Pairwise fun a b=>dC a b<0
structure Bi (l m:List ah):Prop where
 asc:KL m
 mem:∀ x,x∈m↔x∈l
 len:m.length<=l.length
def KO (l:List ay):Prop:=Rm l.length/\∀ r∈l,Rm r.v.length
def IH (l:List ay):Prop:=l.Pairwise fun a b=>dC a.d b.d<0
def sm (l:List ay) (r:ay):List ay:=(l.filter fun x=>decide (dC x.d r.d<0))++r::(l.filter fun x=>decide (0<dC x.d r.d))
theorem AO (a:ah):jK a a=true:=oa.2 rfl
theorem EA (a b:ah):jK a b=jK b a:=by
 by_cases h:a=b
 ·rw [h]
 ·rw [BX.2 h,BX.2 fun e=>h e.symm]
def T3:ay:=⟨⟨0,⟨#[]⟩⟩,⟨#[]⟩,[],0,0,0,false⟩
def cR (l:List ay) (k:ah):ay×Bool:=match l.find? (fun r=>jK r.d k) with | some r=>(r,true) | none=>(T3,false)
theorem I6 {α:Type} {p:α->Bool} {l:List α} {k:Nat} {x:α} (h1:l[k]? = some x) (h2:p x=true) (h3:∀ j z,j<k->l[j]? = some z->p z=false):l.find? p=some x:=by
 obtain⟨h,e⟩:=cu.1 h1;have:l=l.take k++x::l.drop (k+1):=by rw [<- e]; simp
 rw [this,List.find?_append,List.find?_cons_of_pos h2];have:(l.take k).find? p=none:=by
  rw [Hy];intro z hz;obtain⟨j,hj⟩:=nP.1 hz;rw [ub] at hj;split at hj
  ·rename_i hjk;rw [h3 j z hjk hj]; simp
  ·cases hj
 rw [this]; rfl
theorem mC (a b:ah):kV a b=some (dC a b):=by
 unfold kV dC sU;by_cases h1:a.k<b.k
 ·simp [h1]
 ·by_cases h2:b.k<a.k <;> simp [h1,h2]
theorem s8 (h:Rm r.v.length):iY r=some r:=by
 unfold iY Rm at *;rw [show ce (([]:List ah).length+r.v.length)=true from dk (by simp; omega)]; rfl
theorem EQ (h:IH l) (hl:Rm l.length) (hr:Rm r.v.length):nH l r=some (sm l r):=by
 unfold Rm at hl;have hpl:∀ i,((l.take i).filter fun x=>decide (dC x.d r.d<0)).length+((l.take i).filter fun x=>decide (0<dC x.d r.d)).length<=l.length:=fun i=>by
  have h1:∀ m:List ay,(m.filter fun x=>decide (dC x.d r.d<0)).length+(m.filter fun x=>decide (0<dC x.d r.d)).length<=m.length:=by
   intro m
   induction m with
   | nil=>simp
   | cons y m ih =>
    by_cases a:dC y.d r.d<0
    ·rw [E4 (by simpa using a),yi (by simp; omega)]; simp only [ip]; omega
    ·by_cases b:0<dC y.d r.d
     ·rw [yi (by simpa using a),E4 (by simpa using b)]; simp only [ip]; omega
     ·rw [yi (by simpa using a),yi (by simpa using b)]; simp only [ip]; omega
  have:=h1 (l.take i);rw [eS] at this; omega
 have key:Ok (nH l r) fun y=>y=sm l r:=by
  unfold nH;refine bV (fun n t=>n<=l.length/\t.2.2=(n:Int)/\((t.1=l.take n/\t.2.1=false/\∀ x∈l.take n,dC x.d r.d<0)∨(t.1=sm (l.take n) r/\t.2.1=true/\∃ x∈l.take n,¬ dC x.d r.d<0)))
   (fun t=>(t.1=l/\t.2=false/\∀ x∈l,dC x.d r.d<0)∨(t.1=sm l r/\t.2=true)) l.length ⟨bY _,rfl,.inl ⟨rfl,rfl,by simp⟩⟩ (fun n t hn hI=>?_) (fun t ht=>?_)
  ·obtain⟨out,put,i⟩:=t;obtain⟨_,h1,h2⟩:=hI;dsimp only at h1 h2;subst h1;unfold sM;dsimp only;by_cases hi:n<l.length
   ·have hx:l[n]? = some l[n]:=cH hi;obtain⟨x,hxe⟩:∃ x,x=l[n]:=⟨_,rfl⟩;rw [<- hxe] at hx;rw [dlt hi,cond_true,bn,hx,ad,mC,ad];have tk:=bX hx;have hle:=hpl n;rcases h2 with⟨rfl,rfl,h3⟩|⟨rfl,rfl,y,hy,h3⟩
    ·have e0:((l.take n).filter fun x=>decide (dC x.d r.d<0))=l.take n:=E5.2 fun x hx=>by simpa using h3 x hx
     have e1:((l.take n).filter fun x=>decide (0<dC x.d r.d))=[]:=JP.2 fun x hx=>by have:=h3 x hx; simp; omega
     rcases ti x.d r.d with hc | hc | hc
     ·rw [hc];unfold j6 j5 j4;rw [show ce ((l.take n).length+[x].length)=true from dk (by simp; omega),cJ (by omega)];refine ae ⟨hi,hi,rfl,.inl ⟨tk.symm,rfl,fun z hz=>?_⟩⟩;rw [tk] at hz;rcases dw.1 hz with hz | hz
      ·exact h3 z hz
      ·simp only [dX,fu,or_false] at hz; subst hz; omega
     ·rw [hc];unfold j6 j5 j4;rw [s8 hr,cJ (by omega)];simp only [ad];rw [show ce ((l.take n).length+[r].length)=true from dk (by simp; omega)];refine ae ⟨hi,hi,rfl,.inr ⟨?_,rfl,x,by rw [tk]; simp,by omega⟩⟩;unfold sm;rw [tk,t8,t8,e0,e1];simp [hc]
     ·rw [hc];unfold j6 j5 j4;rw [s8 hr,cJ (by omega)];simp only [ad];rw [show ce ((l.take n).length+[r].length)=true from dk (by simp; omega),show ce ((l.take n++[r]).length+[x].length)=true from dk (by simp; omega)];refine ae ⟨hi,hi,rfl,.inr ⟨?_,rfl,x,by rw [tk]; simp,by omega⟩⟩;unfold sm;rw [tk,t8,t8,e0,e1];simp [hc]
    ·have hyx:dC y.d x.d<0:=by
      obtain⟨j,hj⟩:=nP.1 hy;rw [ub] at hj;split at hj
      ·rename_i hjn;obtain⟨q1,q2⟩:=cu.1 hj;have:=gC.1 h j n q1 hi hjn;rw [q2,<- hxe] at this; exact this
      ·cases hj
     have hc:0<dC x.d r.d:=by
      rw [rM];exact xW (b:=y.d) h3 hyx
     have hc1:dC x.d r.d=1:=by rcases ti x.d r.d with h | h | h <;> omega
     rw [hc1];unfold j6 j5 j4;rw [cJ (by omega),show ce ((sm (l.take n) r).length+[x].length)=true from dk (by unfold sm; simp only [bk,ip,sg]; omega)];refine ae ⟨hi,hi,rfl,.inr ⟨?_,rfl,y,by rw [tk]; exact oA _ hy,h3⟩⟩;unfold sm;rw [tk,t8,t8];simp [hc1]
   ·have hn2:n=l.length:=by omega
    rw [hn2,bN,cond_false];rw [hn2,fW] at h2;refine ae ?_;rcases h2 with⟨a,b,c⟩|⟨a,b,c⟩
    ·exact .inl ⟨a,b,c⟩
    ·exact .inr ⟨a,b⟩
  ·obtain⟨out,put⟩:=t;dsimp only at ht;unfold pN pM;rcases ht with⟨rfl,rfl,h3⟩|⟨rfl,rfl⟩
   ·rw [s8 hr];simp only [fv,cond_true,ad];rw [show ce (out.length+[r].length)=true from dk (by simp; omega)];refine ae ?_;unfold sm;rw [E5.2 fun x hx=>by simpa using h3 x hx,JP.2 fun x hx=>by have:=h3 x hx; simp; omega]
   ·exact ae rfl
 obtain⟨y,e,rfl⟩:=key;exact e
theorem Ed {l:List ah} (h:Rm l.length):jq l l=some true:=by
 unfold Rm at h;unfold jq;rw [show ((l.length:Int) != (l.length:Int))=false by simp,cond_false];refine gG (ej (xs:=l) (fun i=>(i:Int)) rfl (r:=.go ()) (fun i x hx=>?_) ?_) rfl
 ·unfold eN;rw [gO hx,cond_true,bn,hx,ad,ad,cJ (by have:=bh hx; omega)];show cond (!jK x x) _ _=_;rw [AO]; rfl
 ·unfold eN;rw [bN]; rfl
theorem Mm {x:ay} (h:x∈sm l r):x∈l∨x=r:=by
 unfold sm at h;rcases dw.1 h with h | h
 ·exact .inl (oB.1 h).1
 ·rcases dX.1 h with h | h
  ·exact .inr h
  ·exact .inl (oB.1 h).1
theorem G1 (h:IH l) (r:ay):IH (sm l r):=by
 unfold IH sm;rw [uw];refine⟨JN _ h,vT.2 ⟨fun x hx=>?_,JN _ h⟩,fun x hx y hy=>?_⟩
 ·have:=(oB.1 hx).2;simp only [decide_eq_true_eq] at this;exact rM.1 this
 ·have h1:=(oB.1 hx).2;simp only [decide_eq_true_eq] at h1;rcases dX.1 hy with rfl | hy
  ·exact h1
  ·have h2:=(oB.1 hy).2;simp only [decide_eq_true_eq] at h2;exact tj h1 (rM.1 h2)
theorem vJ (hl:KO l) (k:ah):c8 l k=some (cR l k):=by
 have h1:=hl.1;unfold Rm at h1;unfold c8;have key:=qA (B:=fun t:Int=>kk l k t) (xs:=l) (fun r=>jK r.d k) (fun i=>(i:Int)) (s0:=0) rfl (y:=fun i x=>Fl.out (x,true)) (n:=Fl.go ()) (fun i x hx hp=>by
   unfold kk;rw [gO hx,cond_true,bn,hx,ad,cJ (by have:=bh hx; omega)];show cond (jK x.d k) _ _=_;rw [hp]; rfl) (fun i x hx hp=>by
   unfold kk;rw [gO hx,cond_true,bn,hx,ad];show cond (jK x.d k) _ _=_;rw [hp,s8 (hl.2 x (aD hx))]; rfl) (by
   unfold kk;rw [bN]; rfl)
 unfold cR;rcases key with⟨i,x,h1,h2,h3,h4⟩|⟨h1,h2⟩
 ·rw [h4,I6 (p:=fun r=>jK r.d k) h1 h2 h3]; rfl
 ·rw [h2,show l.find? (fun r=>jK r.d k)=none from Hy.2 fun x hx=>by rw [h1 x hx]; simp]; rfl
theorem AX {l:List ah} (hl:Rm l.length) (k:ah):qF l k=some (l.any fun x=>jK k x):=by
 unfold Rm at hl;unfold qF;refine gG (pC (xs:=l) (fun x=>jK k x) (fun i=>(i:Int)) rfl (y:=Fl.out true) (n:=Fl.go ()) (fun i x hx hp=>?_) (fun i x hx hp=>?_) ?_) ?_
 ·unfold nE;rw [gO hx,cond_true,bn,hx,ad,cJ (by have:=bh hx; omega)];show cond (jK x k) _ _=_;rw [EA,hp]; rfl
 ·unfold nE;rw [gO hx,cond_true,bn,hx,ad];show cond (jK x k) _ _=_;rw [EA,hp]; rfl
 ·unfold nE;rw [bN]; rfl
 ·cases l.any fun x=>jK k x <;> rfl
theorem NN {out:List ah} (h:KL out) {i:Nat} {k:ah} (h1:∀ y∈out.take i,dC y k<0) (h2:∀ y∈out.drop i,dC k y<0):KL (out.take i++[k]++out.drop i):=by
 unfold KL at *;rw [fq,uw];refine⟨h.sublist (List.take_sublist _ _),vT.2 ⟨fun y hy=>h2 y hy,h.sublist (List.drop_sublist _ _)⟩,fun a ha b hb=>?_⟩;rcases dX.1 hb with rfl | hb
 ·exact h1 a ha
 ·exact tj (h1 a ha) (h2 b hb)
theorem NO {out:List ah} {i:Nat} {k x:ah}:x∈out.take i++[k]++out.drop i↔x∈out∨x=k:=by
 conv=>rhs; rw [<- qV i out]
 simp only [dw,dX,fu,or_false];constructor
 ·rintro ((h | h) | h)
  ·exact .inl (.inl h)
  ·exact .inr h
  ·exact .inl (.inr h)
 ·rintro ((h | h) | h)
  ·exact .inl (.inl h)
  ·exact .inr h
  ·exact .inl (.inr h)
theorem yd {l:List ah} (hl:Rm l.length):∃ m,lG l=some m/\Bi l m:=by
 unfold Rm at hl;have key:Ok (lG l) fun m=>Bi l m:=by
  unfold lG;refine bV (fun n s=>s.2=(n:Int)/\n<=l.length/\Bi (l.take n) s.1) (fun r=>Bi l r) l.length ⟨rfl,bY _,sD,fun x=>by simp,by simp⟩ (fun n s hn hI=>?_) (fun r hr=>ae hr);obtain⟨out,g⟩:=s;obtain⟨h1,h2,h3⟩:=hI;dsimp only at h1 h3;subst h1;have hol:=h3.len;rw [eS] at hol;unfold oK;dsimp only;by_cases hi:n<l.length
  ·have hx:l[n]? = some l[n]:=cH hi;obtain⟨k,O⟩:∃ k,k=l[n]:=⟨_,rfl⟩;rw [<- O] at hx;rw [dlt hi,cond_true,bn,hx,ad];have stay:k∈out->Bi (l.take (n+1)) out:=fun hm=>⟨h3.asc,fun x=>by
    rw [bX hx,dw,h3.mem];constructor
    ·exact .inl
    ·rintro (h | h)
     ·exact h
     ·simp only [dX,fu,or_false] at h;subst h; exact (h3.mem _).1 hm,by rw [eS]; omega⟩
   have put:∀ i:Nat,i<=out.length->(∀ y∈out.take i,dC y k<0)->(∀ y∈out.drop i,dC k y<0)->Bi (l.take (n+1)) (out.take i++[k]++out.drop i):=fun i hio q1 q2=>⟨NN h3.asc q1 q2,fun x=>by
    rw [NO,bX hx,dw,h3.mem];simp,by simp only [bk,eS,mO,ip,sg]; omega⟩
   have j3:∀ i:Nat,i<=out.length->(∀ y∈out.take i,dC y k<0)->(∀ y∈out.drop i,dC k y<0)->Ok (ga out (n:Int) k (i:Int) true) fun r=>match r with
     | .go s'=>n<l.length/\s'.2=((n+1:Nat):Int)/\n+1<=l.length/\Bi (l.take (n+1)) s'.1
     | .out r=>Bi l r:=fun i hio q1 q2=>by
    unfold ga jO;rw [cond_true,uW hio,ad,Ak hio,ad,cJ (by omega)];have r1:ce (([]:List ah).length+(out.take i).length)=true:=dk (by simp; omega);have r2:ce ((([]:List ah)++out.take i).length+[k].length)=true:=dk (by simp; omega);have r3:ce (((([]:List ah)++out.take i)++[k]).length+(out.drop i).length)=true:=dk (by simp; omega);rw [r1,r2,r3];simp only [gd,cond_true,qU];exact ae ⟨hi,rfl,hi,put i hio q1 q2⟩
   have inner:=qA (B:=fun t:Int=>ix out k t) (xs:=out) (fun y=>!decide (dC y k<0)) (fun i=>(i:Int)) (s0:=0) rfl (y:=fun i _=>(i:Int)) (n:=(out.length:Int)) (fun i y hy hp=>by
     unfold ix;simp only [Bool.not_eq_false'] at hp;rw [gO hy,cond_true,bn,hy,ad,mC,ad,hp,cond_true,cJ (by have:=bh hy; omega)]) (fun i y hy hp=>by
     unfold ix;simp only [tI] at hp;rw [gO hy,cond_true,bn,hy,ad,mC,ad,hp,cond_false]) (by
     unfold ix;rw [bN]; rfl)
   rcases inner with⟨i,y,a1,a2,a3,a4⟩|⟨a1,a2⟩
   ·rw [a4,ad];have hio:=bh a1;have hge:¬ dC y k<0:=by simpa using a2
    have hb:∀ z∈out.take i,dC z k<0:=fun z hz=>by
     obtain⟨j,hj⟩:=nP.1 hz;rw [ub] at hj;split at hj
     ·rename_i hji;simpa using a3 j z hji hj
     ·cases hj
    unfold lZ;rw [show ((i:Int)==(out.length:Int))=false from by simp; omega,cond_false,bn,a1,ad];show Ok (ga out (n:Int) k (i:Int) (!jK y k)) _;cases hq:jK y k
    ·rw [fv];refine (j3 i (by omega) hb fun z hz=>?_).mono fun y hy=>by cases y <;> exact hy
     have hyk:dC k y<0:=by
      rcases zK y k with h | h | h
      ·exact absurd h hge
      ·exact absurd h (BX.1 hq)
      ·exact h
     obtain⟨j,hj⟩:=nP.1 hz;rw [xi] at hj;obtain⟨q1,q2⟩:=cu.1 hj;obtain⟨q3,q4⟩:=cu.1 a1;by_cases hj0:j=0
     ·subst hj0;rw [qi,a1] at hj;injection hj with hj;rw [<- hj]; exact hyk
     ·have:=gC.1 h3.asc i (i+j) q3 q1 (by omega);rw [q4,q2] at this;exact tj hyk this
    ·unfold ga jO;rw [dJ,cond_false,cJ (by omega)];exact ae ⟨hi,rfl,hi,stay (by rw [<- oa.1 hq]; exact aD a1)⟩
   ·rw [a2,ad];unfold lZ;rw [beq_self_eq_true,cond_true];refine (j3 out.length (cm _) (fun z hz=>?_) (fun z hz=>by rw [Hx] at hz; cases hz)).mono fun y hy=>by cases y <;> exact hy
    rw [fW] at hz;simpa using a1 z hz
  ·rw [NE hi,cond_false];have:n=l.length:=by omega
   subst this;rw [fW] at h3;exact ae h3
 obtain⟨m,e,h⟩:=key;exact⟨m,e,h⟩
end
end Go.Proofs.YtcpplgcgcbihoaaGreatDoor
