/- Texts of the proof, joined (2). -/
import Derived.Test.YtcpplgcgcbihoaaGreatDoorB1
import Derived.Test.YtcpplgcgcbihoaaGreatDoorB0
import Derived.Shelf.SlSortCmp.NoneTotal
import Derived.Lib.RowBridge
set_option linter.unusedVariables false
set_option linter.unusedSimpArgs false
set_option linter.unusedSectionVars false
namespace Go.Proofs.YtcpplgcgcbihoaaGreatDoor
open Go.RowKit
section
set_option maxRecDepth 100000
set_option maxHeartbeats 4000000
variable (T:Nat->Prop) (L:World) (hT:TW T L)
include hT
noncomputable section
def iY (b:ay):=gd (ce (([]:List ah).length+b.v.length)) <| some ((ay.mk b.d b.u (([]:List ah)++b.v) b.x b.c b.h b.w))
theorem oM (b:ay) (h:Value) (g:aI ac T L h b.v) (y:ay) (B:iY b=some y):bj aR No 120 [.agg (bA b h).toArray] L (fun v w'=>∃ (f:Value) (dG:bK),v = .agg (bA y f).toArray/\kJ ac T L w' [aE f dG] 30 f dG y.v):=by
 refine en Tryz.func120 Tryz.ntmps120 hT fun a I=>?_;replace I:=I.fS (aI.dn g);unfold iY at B;refine kB I fun j l a w O I=>?_;refine ka I f0 fun k m a w O I=>?_;refine al I fun a I=>?_;replace I:=I.zn ac 30 (by decide);obtain⟨d,B⟩:=aP B;refine wl rfl (bR (R:=ac) (xs:=([]:List ah)) (ys:=b.v) I lr (by decide) (by decide) rfl rfl 0 rfl 0 rfl 1 rfl d rfl fun e c a w O I=>?_);refine go I fun a w I=>?_;cases B
 refine aH I rfl (rC 1 I) ?_;exact⟨e,c,rfl,I.zo ⟨.inr (aD (i:=0) rfl),trivial⟩ 0 rfl 0 rfl⟩
def rn (b:LR):=some (b)
def og (e c:LR) (b:Int):Option (Fl (LR×Int) (LR)):=cond (decide (b<(e.length:Int))) ((bO e b).bind fun f=>(iY f).bind fun d=>gd (ce (c.length+([d]).length)) <| some (.go ((c++([d])),IntKind.i64.wrap (b+1)))) (some (.out c))
def tx (b:LR):=(loop (fun s:LR×Int=>og b s.1 s.2) (([]:List ay),0)).bind fun r=>rn r
theorem FL (g:LR) (q:Value) (E:aI aa T L q g) (y:LR) (B:tx g=some y):bj aR No 149 [q] L (fun v w'=>∃ (A:Value) (dG:bK),v=A/\kJ aa T L w' [aK A dG] 33 A dG y):=by
 refine en Tryz.func149 Tryz.ntmps149 hT fun a I=>?_;replace I:=I.fS (aI.dn E);unfold tx at B;refine al I fun a I=>?_;refine aN (J:=fun a w=>∃ (j:LR) (f:Value) (d:LV),St L No T 19 [(3,f)] [aK f d] [ap aa d j] a w/\rn j=some y) ?_ ?_
 ·refine al I fun a I=>?_;replace I:=I.zn aa 33 (by decide);obtain⟨X,D,hMo1⟩:=bd B;refine bH _ (fun s a w=>∃ (c:LR) (e:Int) (k:Value) (h:LV),(c,e)=s/\St L No T 19 [(3,k),(6,q),(7,am (g.length:Int)),(8,am e)] [aK k h] [ap aa h c,aT aa q g] a w) D ⟨_,_,_,_,rfl,I.mt [0] [0,1]⟩ ?_;rintro s a w P ⟨c,e,k,h,rfl,I⟩ B hf1;have B:og g c e=some P:=B;unfold og at B;refine al I fun a I=>?_;refine aA ?_;rcases cd B with⟨t,B⟩|⟨t,B⟩
  ·refine al I fun a I=>?_;refine aA ?_;refine al I fun a I=>?_;obtain⟨r,n,B⟩:=bd B;refine wl rfl (bE (R:=aa) I qQ oy rfl rfl 1 rfl n rfl fun F S K u a I=>?_);obtain⟨V,rfl,p⟩:=u;replace I:=I.fS p;refine kA I f0 fun G Q a w O I=>?_;refine go I fun a w I=>?_;obtain⟨b,o,B⟩:=bd B;refine kc I IV (oM _ _ I.dlt r _ I.g0 _ o) fun _ w C a O U=>?_;obtain⟨l,M,he,m⟩:=C;obtain rfl:=he.symm;have I:=vd U m;refine wl rfl (bf (ps:=[(0,.tmp 14)]) I tL f0 (zl:=[am 0,aU cr,aU cr,.slice none 0 0,am 0,am 0,am 0,.bool false]) (by kernel_rfl) rfl (us:=[(bA b l)]) ⟨rfl,trivial⟩ (ws:=(bA b l)) rfl rfl rfl rfl fun H a w O I=>?_);replace I:=I.zf (R:=ac) 1 rfl 0 rfl;replace I:=(I.lit (R:=aa) (us:=(bA b l)) (xs:=[b]) 0 rfl (by decide) (aJ (R:=aa) (x:=b) (⟨_,rfl,I.g0⟩)) rfl rfl).zf (R:=aa) 0 rfl 0 rfl;obtain⟨z,B⟩:=aP B;refine wl rfl (bR (R:=aa) (xs:=c) (ys:=[b]) I tL (by decide) (by decide) rfl rfl 1 rfl 6 rfl 0 rfl z rfl fun W N a w O I=>?_);exact fz
  exact fz
 rintro a w ⟨j,f,d,I,B⟩;unfold rn at B;refine al I fun a I=>?_;cases B
 refine aH I rfl (aw I rfl aF) ?_;exact⟨f,d,rfl,I.zo ⟨.inr (aD (i:=0) rfl),trivial⟩ 0 rfl 0 rfl⟩
def gw (b:ao):=gd (ce (([]:List bc).length+b.i.length)) <| (tx b.s).bind fun c=>some ((ao.mk b.r (([]:List bc)++b.i) c))
theorem fE (b:ao) (p q:Value) (n:aI ab T L p b.i) (o:aI aa T L q b.s) (y:ao) (B:gw b=some y):bj aR No 95 [.agg (bp b p q).toArray] L (fun v w'=>∃ (d:Value) (sG:bK) (e:Value) (Bm:bK),v = .agg (bp y d e).toArray/\kJ ab T L w' [aZ d sG,aK e Bm] 91 d sG y.i/\kJ aa T L w' [aZ d sG,aK e Bm] 33 e Bm y.s/\(∀ k,d.ownBlock=some k->e.ownBlock≠some k)):=by
 refine en Tryz.func95 Tryz.ntmps95 hT fun a I=>?_;replace I:=(I.fS (aI.dn n)).fS (aI.dn o);unfold gw at B;refine kB I fun r u a w O I=>?_;refine ka I kg fun t x a w O I=>?_;refine al I fun a I=>?_;replace I:=I.zn ab 91 (by decide);obtain⟨j,B⟩:=aP B;refine wl rfl (bR (R:=ab) (xs:=([]:List bc)) (ys:=b.i) I CC (by decide) (by decide) rfl rfl 0 rfl 0 rfl 2 rfl j rfl fun l g a w O I=>?_);refine go I fun a w I=>?_;obtain⟨z,f,B⟩:=bd B;refine kc I Ro (FL _ _ I.dlt b.s _ I.g2 _ f) fun _ w C a O U=>?_;obtain⟨m,h,he,c⟩:=C;obtain rfl:=he.symm;have I:=vd U c;refine go I fun a w I=>?_;cases B
 refine aH I rfl (rC 2 I) ?_;exact⟨l,g,m,h,rfl,I.zo ⟨.inr (aD (i:=1) rfl),⟨.inr (aD (i:=0) rfl),trivial⟩⟩ 1 rfl 1 rfl,I.zo ⟨.inr (aD (i:=1) rfl),⟨.inr (aD (i:=0) rfl),trivial⟩⟩ 0 rfl 0 rfl,(I.zp 1 rfl 0 rfl (by decide))⟩
def je (b:Int):=some (b)
def jf (c:ByteArray) (d b:Int):Option (Fl (Int×Int) (Fl (Int) Int)):=cond (decide (b<(c.size:Int))) ((bO c.toList b).bind fun e=>cond (decide (((e.toNat:Int):Int)<48)) (some (.out (.out (-1)))) ((bO c.toList b).bind fun f=>cond (decide ((57:Int)<(f.toNat:Int))) (some (.out (.out (-1)))) ((bO c.toList b).bind fun g=>some (.go (IntKind.i64.wrap ((IntKind.i64.wrap (10*d))+(IntKind.i64.wrap (IntKind.u8.wrap ((g.toNat:Int)-48)))),IntKind.i64.wrap (b+1)))))) (some (.out (.go d)))
def dM (c:ByteArray) (b:Bool):=cond b (some ((-1))) ((loop (fun s:Int×Int=>jf c s.1 s.2) (0,0)).bind fun r=>Fl.el r (fun s=>je s) (fun y=>some (y)))
def mp (b:ByteArray):=cond (b.toList==cr.toList) (dM b true) (cond (decide ((9:Int)<(b.size:Int))) (dM b true) ((bO b.toList 0).bind fun c=>cond (((c.toNat:Int):Int)==48) (dM b (!(b.toList==(ByteArray.mk #[48]).toList))) (dM b false)))
theorem vY (b:ByteArray) (y:Int) (B:mp b=some y):bj aR No 192 [aU b] L (fun v w'=>v=am y):=by
 refine en Tryz.func192 Tryz.ntmps192 hT fun a I=>?_;unfold mp at B;refine al I fun a I=>?_;refine aA ?_;refine aN (J:=fun a w=>∃ (e:Bool),St L No T 46 [(0,aU b),(20,.bool e)] [] [] a w/\dM b e=some y) ?_ ?_
 ·refine al I fun a I=>?_;rcases cd B with⟨m,B⟩|⟨m,B⟩
  ·exact fz
  refine al I fun a I=>?_;rcases cd B with⟨g,B⟩|⟨g,B⟩
  ·exact fz
  refine al I fun a I=>?_;obtain⟨x,l,B⟩:=bd B;refine qg I g (vR I Tryz.underlying9 rfl rfl l) fun a I=>?_;exact fz
 rintro a w ⟨e,I,B⟩;unfold dM at B;rcases cd B with⟨n,B⟩|⟨n,B⟩
 ·exact fz
 refine al I fun a I=>?_;refine aN (J:=fun a w=>∃ (f:Int),St L No T 46 [(3,am f)] [] [] a w/\je f=some y) ?_ ?_
 ·refine al I fun a I=>?_;obtain⟨A,q,hMo1⟩:=bd B;refine bH _ (fun s a w=>∃ (d c:Int),(d,c)=s/\St L No T 46 [(0,aU b),(3,am d),(4,am c)] [] [] a w) q ⟨_,_,rfl,I.mt [] []⟩ ?_;rintro s a w z ⟨d,c,rfl,I⟩ B hf1;have B:jf b d c=some z:=B;unfold jf at B;refine aA ?_;refine al I fun a I=>?_;rcases cd B with⟨o,B⟩|⟨o,B⟩
  ·refine al I fun a I=>?_;refine aA ?_;refine al I fun a I=>?_;refine aA ?_;refine dW ?_;refine al I fun a I=>?_;obtain⟨r,i,B⟩:=bd B;refine qy I (vR I Tryz.underlying9 rfl rfl i) fun a I=>?_;refine al I fun a I=>?_;rcases cd B with⟨h,B⟩|⟨h,B⟩
   ·exact fz
   refine al I fun a I=>?_;obtain⟨t,j,B⟩:=bd B;refine qg I h (vR I Tryz.underlying9 rfl rfl j) fun a I=>?_;refine al I fun a I=>?_;rcases cd B with⟨p,B⟩|⟨p,B⟩
   ·exact fz
   refine al I fun a I=>?_;obtain⟨u,k,B⟩:=bd B;refine qy I (vR I Tryz.underlying9 rfl rfl k) fun a I=>?_;refine al I fun a I=>?_;exact fin
  exact fz
 rintro a w ⟨f,I,B⟩;unfold je at B;exact fz
def jN (c:Int) (b:Bool):=cond b (some (c)) (some ((-1)))
def j2 (c:ah):=(mp c.t).bind fun b=>cond (decide ((30:Int)<=c.k)) (cond (decide (c.k<=32)) (jN b (decide (b<=99))) (jN b false)) (jN b false)
theorem pH (c:ah) (y:Int) (B:j2 c=some y):bj aR No 150 [.agg (bm c).toArray] L (fun v w'=>v=am y):=by
 refine en Tryz.func150 Tryz.ntmps150 hT fun a I=>?_;unfold j2 at B;refine kB I fun f g a w O I=>?_;refine al I fun a I=>?_;refine aA ?_;refine al I fun a I=>?_;obtain⟨d,e,B⟩:=bd B;refine kF I OR (vY _ _ I.dlt c.t _ e) fun w a I=>?_;refine aN (J:=fun a w=>∃ (b:Bool),St L No T 20 [(3,am d),(18,.bool b)] [] [] a w/\jN d b=some y) ?_ ?_
 ·exact fz
 rintro a w ⟨b,I,B⟩;unfold jN at B;exact fz
def fA (b:Bool):=some (b)
def gU (b:ah) (c:Bool):=cond c ((j2 b).bind fun d=>some (decide ((0:Int)<=d))) (cond (decide ((1:Int)<=b.k)) (cond (decide (b.k<=22)) (cond (decide (((b.t.size:Int):Int)<=1073741824)) (cond (b.t.toList==cr.toList) (fA true) (cond (b.k != 1) (fA (b.k != 21)) (fA false))) (fA false)) (fA false)) (fA false))
def cY (b:ah):=cond (decide ((30:Int)<=b.k)) (gU b (decide (b.k<=32))) (gU b false)
theorem kj (b:ah) (y:Bool) (B:cY b=some y):bj aR No 96 [.agg (bm b).toArray] L (fun v w'=>v = .bool y):=by
 refine en Tryz.func96 Tryz.ntmps96 hT fun a I=>?_;unfold cY at B;refine kB I fun e h a w O I=>?_;refine al I fun a I=>?_;refine aA ?_;refine aN (J:=fun a w=>∃ (d:Bool),St L No T 43 [(1,pt e 0),(10,.bool d)] [.box e (bm b) 30] [] a w/\gU b d=some y) ?_ ?_
 ·exact fz
 rintro a w ⟨d,I,B⟩;unfold gU at B;rcases cd B with⟨g,B⟩|⟨g,B⟩
 ·refine al I fun a I=>?_;obtain⟨i,f,B⟩:=bd B;refine kE I IZ (pH _ _ I.dlt b _ f) fun w a I=>?_;exact fz
 refine al I fun a I=>?_;refine aN (J:=fun a w=>∃ (c:Bool),St L No T 43 [(2,.bool c)] [] [] a w/\fA c=some y) ?_ ?_
 ·exact fz
 rintro a w ⟨c,I,B⟩;unfold fA at B;exact fz
def kW (b:Bool):=some (b)
def cO (b:ah):=cond (b.k==1) (kW true) (cond (b.k==2) (kW true) (kW (b.k==30)))
theorem dN (c:ah) (y:Bool) (B:cO c=some y):bj aR No 97 [.agg (bm c).toArray] L (fun v w'=>v = .bool y):=by
 refine en Tryz.func97 Tryz.ntmps97 hT fun a I=>?_;unfold cO at B;refine kB I fun d e a w O I=>?_;refine al I fun a I=>?_;refine aN (J:=fun a w=>∃ (b:Bool),St L No T 16 [(2,.bool b)] [] [] a w/\kW b=some y) ?_ ?_
 ·exact fz
 rintro a w ⟨b,I,B⟩;unfold kW at B;exact fz
def kV (b c:ah):=cond (decide (b.k<c.k)) (some ((-1))) (cond (decide (c.k<b.k)) (some (1)) ((sU b.t c.t).bind fun d=>some (d)))
theorem mU (hLv:fi T L) (b c:ah) (y:Int) (B:kV b c=some y):bj aR No 99 [.agg (bm b).toArray,.agg (bm c).toArray] L (fun v w'=>v=am y):=by
 refine en Tryz.func99 Tryz.ntmps99 hT fun a I=>?_;replace I:=I.fact ci (fi.dn hLv);unfold kV at B;refine kB I fun g i a w O I=>?_;refine kb I fun h j a w O I=>?_;refine al I fun a I=>?_;refine aA ?_;refine al I fun a I=>?_;rcases cd B with⟨e,B⟩|⟨e,B⟩
 ·exact fz
 refine al I fun a I=>?_;rcases cd B with⟨f,B⟩|⟨f,B⟩
 ·exact fz
 refine al I fun a I=>?_;obtain⟨k,d,B⟩:=bd B;refine kE I Gt (rH _ _ I.dlt I.g0 b.t c.t _ d) fun w a I=>?_;exact fz
def iv (b:Bool):=some (b)
def sK (b:Int):=cond (b==7) (iv true) (cond (b==14) (iv true) (cond (b==17) (iv true) (iv (b==18))))
theorem C5 (c:Int) (y:Bool) (B:sK c=some y):bj aR No 187 [am c] L (fun v w'=>v = .bool y):=by
 refine en Tryz.func187 Tryz.ntmps187 hT fun a I=>?_;unfold sK at B;refine al I fun a I=>?_;refine aN (J:=fun a w=>∃ (b:Bool),St L No T 17 [(2,.bool b)] [] [] a w/\iv b=some y) ?_ ?_
 ·exact fz
 rintro a w ⟨b,I,B⟩;unfold iv at B;exact fz
def iw (b:Bool):=some (b)
def cX (b:ah):=cond (b.k==32) (iw true) (cond (decide ((1:Int)<=b.k)) (cond (decide (b.k<=22)) ((sK b.k).bind fun c=>iw c) (iw false)) (iw false))
theorem du (d:ah) (y:Bool) (B:cX d=some y):bj aR No 143 [.agg (bm d).toArray] L (fun v w'=>v = .bool y):=by
 refine en Tryz.func143 Tryz.ntmps143 hT fun a I=>?_;unfold cX at B;refine kB I fun h i a w O I=>?_;refine al I fun a I=>?_;refine aN (J:=fun a w=>∃ (b:Bool),St L No T 21 [(2,.bool b)] [] [] a w/\iw b=some y) ?_ ?_
 ·refine al I fun a I=>?_;rcases cd B with⟨f,B⟩|⟨f,B⟩
  ·exact fz
  refine al I fun a I=>?_;rcases cd B with⟨g,B⟩|⟨g,B⟩
  ·refine al I fun a I=>?_;rcases cd B with⟨c,B⟩|⟨c,B⟩
   ·refine al I fun a I=>?_;obtain⟨j,e,B⟩:=bd B;refine wg I rfl rfl rfl c (bP I RG rfl rfl (C5 _ _ I.dlt d.k _ e) fun _ w C a O U=>?_);obtain rfl:=C;have I:=eL U;exact fz
   exact fz
  exact fz
 rintro a w ⟨b,I,B⟩;unfold iw at B;exact fz
def cQ (b:Bool):=some (b)
def kY (b:ay):=(cY b.d).bind fun e=>cond e ((cO b.d).bind fun f=>cond (!(f)) (cond (decide (((b.u.size:Int):Int)<=1073741824)) (cond (decide ((b.v.length:Int)<=4000)) (cond (decide ((0:Int)<=b.x)) (cond (decide (b.x<=b.c)) (cond (decide (b.c<=1073741824)) (cond (decide ((1:Int)<=b.h)) (cond (decide (b.h<=1073741824)) (cond (!(b.w)) (cQ true) ((cX b.d).bind fun g=>cQ g)) (cQ false)) (cQ false)) (cQ false)) (cQ false)) (cQ false)) (cQ false)) (cQ false)) (cQ false)) (cQ false)
def fC (c:ay) (b:Int):Option (Fl (Int) (Fl (Unit) Bool)):=cond (decide (b<(c.v.length:Int))) ((bO c.v b).bind fun d=>(cY d).bind fun e=>cond (!(e)) (some (.out (.out false))) (some (.go (IntKind.i64.wrap (b+1))))) (some (.out (.go ())))
def m4 (b:ay):=(loop (fun s:Int=>fC b s) 0).bind fun r=>Fl.el r (fun s=>kY b) (fun y=>some (y))
theorem D3 (b:ay) (g:Value) (G:aI ac T L g b.v) (y:Bool) (B:m4 b=some y):bj aR No 169 [.agg (bA b g).toArray] L (fun v w'=>v = .bool y):=by
 refine en Tryz.func169 Tryz.ntmps169 hT fun a I=>?_;replace I:=I.fS (aI.dn G);unfold m4 at B;refine kB I fun c P a w O I=>?_;refine al I fun a I=>?_;refine aN (J:=fun a w=>St L No T 74 [(1,pt c 0)] [.box c (bA b g) 33] [aT ac g b.v] a w/\kY b=some y) ?_ ?_
 ·refine al I fun a I=>?_;obtain⟨Z,F,hMo1⟩:=bd B;refine bH _ (fun s a w=>∃ (e:Int),e=s/\St L No T 74 [(1,pt c 0),(6,g),(7,am (b.v.length:Int)),(8,am e)] [.box c (bA b g) 33] [aT ac g b.v] a w) F ⟨_,rfl,I.mt [0] [0]⟩ ?_;rintro s a w N ⟨e,rfl,I⟩ B hf1;have B:fC b e=some N:=B;unfold fC at B;refine al I fun a I=>?_;refine aA ?_;rcases cd B with⟨p,B⟩|⟨p,B⟩
  ·refine al I fun a I=>?_;refine aA ?_;refine al I fun a I=>?_;obtain⟨o,j,B⟩:=bd B;refine wl rfl (bE (R:=ac) I qR iQ rfl rfl 0 rfl j rfl fun H S M q a I=>?_);obtain rfl:=q;refine kA I iS fun K Q a w O I=>?_;refine go I fun a w I=>?_;obtain⟨Y,n,B⟩:=bd B;refine kE I HY (kj _ _ I.dlt o _ n) fun w a I=>?_;exact fz
  exact fz
 rintro a w ⟨I,B⟩;unfold kY at B;refine aN (J:=fun a w=>∃ (f:Bool),St L No T 74 [(2,.bool f)] [] [] a w/\cQ f=some y) ?_ ?_
 ·refine al I fun a I=>?_;obtain⟨V,k,B⟩:=bd B;refine kF I HY (kj _ _ I.dlt b.d _ k) fun w a I=>?_;rcases cd B with⟨h,B⟩|⟨h,B⟩
  ·refine al I fun a I=>?_;obtain⟨W,l,B⟩:=bd B;refine wg I rfl rfl rfl h (bP I AH rfl rfl (dN _ _ I.dlt b.d _ l) fun _ w C a O U=>?_);obtain rfl:=C;have I:=eL U;refine al I fun a I=>?_;rcases cd B with⟨r,B⟩|⟨r,B⟩
   ·refine al I fun a I=>?_;rcases cd B with⟨t,B⟩|⟨t,B⟩
    ·refine al I fun a I=>?_;rcases cd B with⟨u,B⟩|⟨u,B⟩
     ·refine al I fun a I=>?_;rcases cd B with⟨x,B⟩|⟨x,B⟩
      ·refine al I fun a I=>?_;rcases cd B with⟨z,B⟩|⟨z,B⟩
       ·refine al I fun a I=>?_;rcases cd B with⟨A,B⟩|⟨A,B⟩
        ·refine al I fun a I=>?_;rcases cd B with⟨D,B⟩|⟨D,B⟩
         ·refine al I fun a I=>?_;rcases cd B with⟨E,B⟩|⟨E,B⟩
          ·refine al I fun a I=>?_;rcases cd B with⟨i,B⟩|⟨i,B⟩
           ·exact fz
           refine al I fun a I=>?_;obtain⟨X,m,B⟩:=bd B;refine wg I rfl rfl rfl i (bP I uG rfl rfl (du _ _ I.dlt b.d _ m) fun _ w C a O U=>?_);obtain rfl:=C;have I:=eL U;exact fz
          exact fz
         exact fz
        exact fz
       exact fz
      exact fz
     exact fz
    exact fz
   exact fz
  exact fz
 rintro a w ⟨f,I,B⟩;unfold cQ at B;exact fz
def o4 (b:LR):=some (decide ((b.length:Int)<=4000))
def em (b:Int) (c:Bool):Option (Fl (Int) (Fl (Unit) Bool)):=cond c (some (.out (.out false))) (some (.go (IntKind.i64.wrap (b+1))))
def dD (e:LR) (b:Int):=cond (decide (b<(e.length:Int))) ((bO e b).bind fun c=>(m4 c).bind fun g=>cond (!(g)) (em b true) (cond (decide ((0:Int)<b)) ((bO e (IntKind.i64.wrap (b-1))).bind fun f=>(kV f.d c.d).bind fun h=>em b (decide ((0:Int)<=h))) (em b false))) (some (.out (.go ())))
def iy (b:LR):=(loop (fun s:Int=>dD b s) 0).bind fun r=>Fl.el r (fun s=>o4 b) (fun y=>some (y))
theorem zW (hLv:fi T L) (b:LR) (e:Value) (F:aI aa T L e b) (y:Bool) (B:iy b=some y):bj aR No 111 [e] L (fun v w'=>v = .bool y):=by
 refine en Tryz.func111 Tryz.ntmps111 hT fun a I=>?_;replace I:=(I.fact ci (fi.dn hLv)).fS (aI.dn F);unfold iy at B;refine al I fun a I=>?_;refine aN (J:=fun a w=>St L No T 35 [(0,e)] [] [aT aa e b,ci] a w/\o4 b=some y) ?_ ?_
 ·refine al I fun a I=>?_;obtain⟨X,E,hMo1⟩:=bd B;refine bH _ (fun s a w=>∃ (c:Int),c=s/\St L No T 35 [(0,e),(5,e),(6,am (b.length:Int)),(7,am c)] [] [aT aa e b,ci] a w) E ⟨_,rfl,I.mt [] [0,1]⟩ ?_;rintro s a w D ⟨c,rfl,I⟩ B hf1;have B:dD b c=some D:=B;unfold dD at B;refine al I fun a I=>?_;refine aA ?_;rcases cd B with⟨r,B⟩|⟨r,B⟩
  ·refine al I fun a I=>?_;refine aA ?_;refine al I fun a I=>?_;obtain⟨h,j,B⟩:=bd B;refine wl rfl (bE (R:=aa) I qQ oy rfl rfl 0 rfl j rfl fun G P K t a I=>?_);obtain⟨V,rfl,n⟩:=t;replace I:=I.fS n;refine kA I f0 fun H N a w O I=>?_;refine go I fun a w I=>?_;refine aN (J:=fun a w=>∃ (f:Bool),St L No T 35 [(0,e),(5,e),(6,am (b.length:Int)),(7,am c),(30,.bool f)] [] [aT aa e b,ci] a w/\em c f=some D) ?_ ?_
   ·refine dr [] I fun w hQ I=>?_;refine gE [0] I fun a I=>?_;obtain⟨Q,l,B⟩:=bd B;refine ec 1 I Rs (D3 _ _ I.dlt h _ I.g0 _ l) fun _ w C a O U=>?_;obtain rfl:=C;have I:=eL U;refine gE [2,3] I fun a I=>?_;rcases cd B with⟨u,B⟩|⟨u,B⟩
    ·refine gE [4,5,6,7,8,9,10,11,12,13,14,15,16,17,18] I fun a I=>?_;refine eD ?_;exact fin
    refine gE [4,5,6] I fun a I=>?_;rcases cd B with⟨g,B⟩|⟨g,B⟩
    ·refine gE [7,8,9] I fun a I=>?_;obtain⟨q,k,B⟩:=bd B;obtain⟨p,A,M,x,z,I⟩:=nw (R:=aa) I qQ oy 2 rfl k;obtain⟨W,rfl,o⟩:=x;replace I:=I.fS o;refine dg 10 I g (v:=pt p A) (z rfl rfl) fun a I=>?_;refine gE [11,12,13,14] I fun a I=>?_;obtain⟨S,m,B⟩:=bd B;refine ey (i:=15) rfl (by kernel_rfl) I rfl rfl rfl g (bP I HZ rfl rfl (mU _ _ I.dlt I.g5 q.d h.d _ m) fun _ w C a O U=>⟨iJ (O),?_⟩);obtain rfl:=C;have I:=eL U;refine gE [16,17,18] I fun a I=>?_;refine eD ?_;exact fin
    refine gE [7,8,9,10,11,12,13,14,15,16,17,18] I fun a I=>?_;refine eD ?_;exact fin
   rintro a w ⟨f,I,B⟩;unfold em at B;exact fz
  exact fz
 rintro a w ⟨I,B⟩;unfold o4 at B;exact fz
def jw (b:Bool):=some (b)
def k6 (b:ao):=cond (decide ((0:Int)<=b.r)) (cond (decide (b.r<=1073741824)) (cond (decide ((b.i.length:Int)<=64)) ((iy b.s).bind fun c=>jw c) (jw false)) (jw false)) (jw false)
def fF (d:ao) (b:Int):Option (Fl (Int) (Fl (Unit) Bool)):=cond (decide (b<(d.s.length:Int))) ((bO d.s b).bind fun e=>cond (decide (d.r<e.c)) (some (.out (.out false))) (some (.go (IntKind.i64.wrap (b+1))))) (some (.out (.go ())))
def k7 (b:ao):=(loop (fun s:Int=>fF b s) 0).bind fun r=>Fl.el r (fun s=>k6 b) (fun y=>some (y))
def cZ (b:Int) (c:Bool):Option (Fl (Int) (Fl (Unit) Bool)):=cond c (some (.out (.out false))) (some (.go (IntKind.i64.wrap (b+1))))
def fG (e:ao) (b:Int):=cond (decide (b<(e.i.length:Int))) ((bO e.i b).bind fun c=>(cY c.d).bind fun g=>cond (!(g)) (cZ b true) ((cO c.d).bind fun h=>cond (!(h)) (cZ b true) (cond (decide ((0:Int)<b)) ((bO e.i (IntKind.i64.wrap (b-1))).bind fun f=>(kV f.d c.d).bind fun j=>cond (decide ((0:Int)<=j)) (cZ b true) (cond (decide ((1073741824:Int)<(c.u.size:Int))) (cZ b true) (cond (decide (c.x<0)) (cZ b true) (cZ b (decide (e.r<c.x)))))) (cond (decide ((1073741824:Int)<(c.u.size:Int))) (cZ b true) (cond (decide (c.x<0)) (cZ b true) (cZ b (decide (e.r<c.x)))))))) (some (.out (.go ())))
def ge (b:ao):=(loop (fun s:Int=>fG b s) 0).bind fun r=>Fl.el r (fun s=>k7 b) (fun y=>some (y))
theorem rr (hLv:fi T L) (b:ao) (e g:Value) (a3:aI ab T L e b.i) (a4:aI aa T L g b.s) (y:Bool) (B:ge b=some y):bj aR No 32 [.agg (bp b e g).toArray] L (fun v w'=>v = .bool y):=by
 refine en Tryz.func32 Tryz.ntmps32 hT fun a I=>?_;replace I:=((I.fact ci (fi.dn hLv)).fS (aI.dn a3)).fS (aI.dn a4);unfold ge at B;refine kB I fun c av a w O I=>?_;refine al I fun a I=>?_;refine aN (J:=fun a w=>St L No T 93 [(1,pt c 0)] [.box c (bp b e g) 25] [aT ab e b.i,aT aa g b.s,ci] a w/\k7 b=some y) ?_ ?_
 ·refine al I fun a I=>?_;obtain⟨r1,p,hMo1⟩:=bd B;refine bH _ (fun s a w=>∃ (f:Int),f=s/\St L No T 93 [(1,pt c 0),(8,e),(9,am (b.i.length:Int)),(10,am f)] [.box c (bp b e g) 25] [aT ab e b.i,aT aa g b.s,ci] a w) p ⟨_,rfl,I.mt [0] [1,0,2]⟩ ?_;rintro s a w q ⟨f,rfl,I⟩ B hf1;have B:fG b f=some q:=B;unfold fG at B;refine al I fun a I=>?_;refine aA ?_;rcases cd B with⟨H,B⟩|⟨H,B⟩
  ·refine al I fun a I=>?_;refine aA ?_;refine al I fun a I=>?_;obtain⟨j,t,B⟩:=bd B;refine wl rfl (bE (R:=ab) I Dp BS rfl rfl 0 rfl t rfl fun a5 b2 af K a I=>?_);obtain rfl:=K;refine kA I vU fun a6 b0 a w O I=>?_;refine go I fun a w I=>?_;refine aN (J:=fun a w=>∃ (l:Bool),St L No T 93 [(1,pt c 0),(8,e),(9,am (b.i.length:Int)),(10,am f),(59,.bool l)] [.box c (bp b e g) 25] [aT ab e b.i,aT aa g b.s,ci] a w/\cZ f l=some q) ?_ ?_
   ·refine dr [] I fun w hQ I=>?_;refine gE [0,1] I fun a I=>?_;obtain⟨b6,z,B⟩:=bd B;refine ec 2 I HY (kj _ _ I.dlt j.d _ z) fun _ w C a O U=>?_;obtain rfl:=C;have I:=eL U;refine gE [3,4] I fun a I=>?_;rcases cd B with⟨n,B⟩|⟨n,B⟩
    ·refine gE [5,6,7,8,9,10,11,12,13,14,15,16,17,18,19,20,21,22,23,24,25,26,27,28,29,30,31,32,33,34,35,36,37,38,39,40,41,42,43,44] I fun a I=>?_;refine eD ?_;exact fin
    refine gE [5,6] I fun a I=>?_;obtain⟨b7,A,B⟩:=bd B;refine ey (i:=7) rfl (by kernel_rfl) I rfl rfl rfl n (bP I AH rfl rfl (dN _ _ I.dlt j.d _ A) fun _ w C a O U=>⟨iJ (O),?_⟩);obtain rfl:=C;have I:=eL U;refine gE [8,9,10] I fun a I=>?_;rcases cd B with⟨M,B⟩|⟨M,B⟩
    ·refine gE [11,12,13,14,15,16,17,18,19,20,21,22,23,24,25,26,27,28,29,30,31,32,33,34,35,36,37,38,39,40,41,42,43,44] I fun a I=>?_;refine eD ?_;exact fin
    refine gE [11,12,13] I fun a I=>?_;rcases cd B with⟨m,B⟩|⟨m,B⟩
    ·refine gE [14,15,16,17] I fun a I=>?_;obtain⟨G,u,B⟩:=bd B;obtain⟨F,a2,ag,N,P,I⟩:=nw (R:=ab) I Dp BS 1 rfl u;obtain rfl:=N;refine dg 18 I m (v:=pt F a2) (P rfl rfl) fun a I=>?_;refine gE [19,20,21,22] I fun a I=>?_;obtain⟨b8,D,B⟩:=bd B;refine ey (i:=23) rfl (by kernel_rfl) I rfl rfl rfl m (bP I HZ rfl rfl (mU _ _ I.dlt I.g4 G.d j.d _ D) fun _ w C a O U=>⟨iJ (O),?_⟩);obtain rfl:=C;have I:=eL U;refine gE [24,25,26,27] I fun a I=>?_;rcases cd B with⟨Q,B⟩|⟨Q,B⟩
     ·refine gE [28,29,30,31,32,33,34,35,36,37,38,39,40,41,42,43,44] I fun a I=>?_;refine eD ?_;exact fin
     refine gE [28,29,30,31,32,33] I fun a I=>?_;rcases cd B with⟨S,B⟩|⟨S,B⟩
     ·refine gE [34,35,36,37,38,39,40,41,42,43,44] I fun a I=>?_;refine eD ?_;exact fin
     refine gE [34,35,36,37,38] I fun a I=>?_;rcases cd B with⟨V,B⟩|⟨V,B⟩
     ·refine gE [39,40,41,42,43,44] I fun a I=>?_;refine eD ?_;exact fin
     refine gE [39,40,41,42,43,44] I fun a I=>?_;refine eD ?_;exact fin
    refine gE [14,15,16,17,18,19,20,21,22,23,24,25,26,27,28,29,30,31,32,33] I fun a I=>?_;rcases cd B with⟨W,B⟩|⟨W,B⟩
    ·refine gE [34,35,36,37,38,39,40,41,42,43,44] I fun a I=>?_;refine eD ?_;exact fin
    refine gE [34,35,36,37,38] I fun a I=>?_;rcases cd B with⟨X,B⟩|⟨X,B⟩
    ·refine gE [39,40,41,42,43,44] I fun a I=>?_;refine eD ?_;exact fin
    refine gE [39,40,41,42,43,44] I fun a I=>?_;refine eD ?_;exact fin
   rintro a w ⟨l,I,B⟩;unfold cZ at B;exact fz
  exact fz
 rintro a w ⟨I,B⟩;unfold k7 at B;refine aN (J:=fun a w=>St L No T 93 [(1,pt c 0)] [.box c (bp b e g) 25] [aT ab e b.i,aT aa g b.s,ci] a w/\k6 b=some y) ?_ ?_
 ·refine al I fun a I=>?_;obtain⟨r1,p,hMo1⟩:=bd B;refine bH _ (fun s a w=>∃ (h:Int),h=s/\St L No T 93 [(1,pt c 0),(62,g),(63,am (b.s.length:Int)),(64,am h)] [.box c (bp b e g) 25] [aT aa g b.s,aT ab e b.i,ci] a w) p ⟨_,rfl,I.mt [0] [1,0,2]⟩ ?_;rintro s a w q ⟨h,rfl,I⟩ B hf1;have B:fF b h=some q:=B;unfold fF at B;refine al I fun a I=>?_;refine aA ?_;rcases cd B with⟨Y,B⟩|⟨Y,B⟩
  ·refine al I fun a I=>?_;refine aA ?_;refine al I fun a I=>?_;obtain⟨an,r,B⟩:=bd B;refine wl rfl (bE (R:=aa) I qQ oy rfl rfl 0 rfl r rfl fun a7 b3 ak Z a I=>?_);obtain⟨b9,rfl,E⟩:=Z;replace I:=I.fS E;refine kA I f0 fun a9 b1 a w O I=>?_;exact fz
  exact fz
 rintro a w ⟨I,B⟩;unfold k6 at B;refine aN (J:=fun a w=>∃ (k:Bool),St L No T 93 [(2,.bool k)] [] [ci] a w/\jw k=some y) ?_ ?_
 ·refine al I fun a I=>?_;rcases cd B with⟨a0,B⟩|⟨a0,B⟩
  ·refine al I fun a I=>?_;rcases cd B with⟨a1,B⟩|⟨a1,B⟩
   ·refine al I fun a I=>?_;rcases cd B with⟨o,B⟩|⟨o,B⟩
    ·refine al I fun a I=>?_;obtain⟨b5,x,B⟩:=bd B;refine wg I rfl rfl rfl o (bP I Q3 rfl rfl (zW _ _ I.dlt I.g2 b.s _ I.g1 _ x) fun _ w C a O U=>?_);obtain rfl:=C;have I:=eL U;exact fz
    exact fz
   exact fz
  exact fz
 rintro a w ⟨k,I,B⟩;unfold jw at B;exact fz
def un (b:ah):=some ((bc.mk b cr 0))
def i7 (e:ao) (f:ah) (c:Int):Option (Fl (Int) (Fl (Unit) bc)):=cond (decide (c<(e.i.length:Int))) ((bO e.i c).bind fun b=>cond (b.d.k==f.k&&b.d.t.toList==f.t.toList) (some (.out (.out b))) (some (.go (IntKind.i64.wrap (c+1))))) (some (.out (.go ())))
def qJ (c:ao) (b:ah):=(loop (fun s:Int=>i7 c b s) 0).bind fun r=>Fl.el r (fun s=>un b) (fun y=>some (y))
theorem zX (c:ao) (b:ah) (l u:Value) (q:aI ab T L l c.i) (r:aI aa T L u c.s) (y:bc) (B:qJ c b=some y):bj aR No 151 [.agg (bp c l u).toArray,.agg (bm b).toArray] L (fun v w'=>v = .agg (qs y).toArray):=by
 refine en Tryz.func151 Tryz.ntmps151 hT fun a I=>?_;replace I:=(I.fS (aI.dn q)).fS (aI.dn r);unfold qJ at B;refine kB I fun x F a w O I=>?_;refine kb I fun e G a w O I=>?_;refine ka I vU fun f H a w O I=>?_;refine al I fun a I=>?_;refine aN (J:=fun a w=>St L No T 22 [(3,pt e 0),(4,pt f 0)] [.box e (bm b) 30,.box f [am 0,aU cr,aU cr,am 0] 91] [] a w/\un b=some y) ?_ ?_
 ·refine al I fun a I=>?_;obtain⟨N,p,hMo1⟩:=bd B;refine bH _ (fun s a w=>∃ (g:Int),g=s/\St L No T 22 [(3,pt e 0),(4,pt f 0),(8,l),(9,am (c.i.length:Int)),(10,am g)] [.box e (bm b) 30,.box f [am 0,aU cr,aU cr,am 0] 91] [aT ab l c.i] a w) p ⟨_,rfl,I.mt [1,0] [1]⟩ ?_;rintro s a w E ⟨g,rfl,I⟩ B hf1;have B:i7 c b g=some E:=B;unfold i7 at B;refine al I fun a I=>?_;refine aA ?_;rcases cd B with⟨m,B⟩|⟨m,B⟩
  ·refine al I fun a I=>?_;refine aA ?_;refine al I fun a I=>?_;obtain⟨h,j,B⟩:=bd B;refine wl rfl (bE (R:=ab) I Dp BS rfl rfl 0 rfl j rfl fun z M D n a I=>?_);obtain rfl:=n;refine kA I vU fun A K a w O I=>?_;refine go I fun a w I=>?_;refine wl rfl (ky (v:=.bool (h.d.k==b.k&&h.d.t.toList==b.t.toList)) I (H2 I rfl rfl) rfl rfl fun a I=>?_);refine al I fun a I=>?_;rcases cd B with⟨o,B⟩|⟨o,B⟩
   ·refine go I fun a w I=>?_;cases B
    have hr:=hf1 _ rfl;subst hr;replace hMo1:=mP hMo1;have B:=hMo1;cases B
    refine aH I rfl (rC 2 I) ?_;exact rfl
   exact fz
  exact fz
 rintro a w ⟨I,B⟩;unfold un at B;refine al I fun a I=>?_;refine qy I (br (ps:=[(0,.tmp 20)]) I Mj vU rfl (us:=[(bm b)]) ⟨rfl,trivial⟩ (ws:=[am b.k,aU b.t,aU cr,am 0]) rfl) fun a I=>?_;refine go I fun a w I=>?_;cases B
 refine aH I rfl (rC 1 I) ?_;exact rfl
def pj (c:ao) (d:ah):=(qJ c d).bind fun b=>some (b.u)
theorem tT (b:ao) (c:ah) (g h:Value) (e:aI ab T L g b.i) (f:aI aa T L h b.s) (y:ByteArray) (B:pj b c=some y):bj aR No 98 [.agg (bp b g h).toArray,.agg (bm c).toArray] L (fun v w'=>v=aU y):=by
 refine en Tryz.func98 Tryz.ntmps98 hT fun a I=>?_;replace I:=(I.fS (aI.dn e)).fS (aI.dn f);unfold pj at B;refine kB I fun j l a w O I=>?_;refine kb I fun k m a w O I=>?_;refine al I fun a I=>?_;obtain⟨n,d,B⟩:=bd B;refine kE I ON (zX _ _ I.dlt b c _ _ I.g1 I.g0 _ d) fun w a I=>?_;refine qy I (Hp I rfl Tryz.underlying91 rfl rfl M9 rfl rfl (fun _=>rfl)) fun a I=>?_;exact fz
def m6 (b c:ao) (e:Bool) (d:LI):Option (ao×Int):=cond (!(e)) (some ((b,0))) (cond (decide ((64:Int)<(d.length:Int))) (some ((b,45))) (cond (decide ((1073741824:Int)<(IntKind.i64.wrap (c.r+1)))) (some ((b,3))) (some (((ao.mk (IntKind.i64.wrap (c.r+1)) d c.s),0)))))
def kZ (c:Int) (b:Bool) (d:LI):Option (Fl (Bool×Int×LI) (Bool×LI)):=some (.go (b,IntKind.i64.wrap (c+1),d))
def gY (b:Int) (c:LI):=kZ b true c
def gZ (f:ao) (e:Int) (b:fw) (c:LI) (g:Bool):=cond (!(g)) (gd (ce (c.length+([(bc.mk b.d b.u (IntKind.i64.wrap (f.r+1)))]).length)) <| gY e (c++([(bc.mk b.d b.u (IntKind.i64.wrap (f.r+1)))]))) (gY e c)
def hH (b:Int) (c:LI) (d:Bool):Option (Fl (LI×Bool×Int) (LI×Bool)):=some (.go (c,d,IntKind.i64.wrap (b+1)))
def hJ (d:Int) (c:bc) (f:Int) (b:LI) (e:Bool):=cond (f != 0) (gd (ce (b.length+([c]).length)) <| hH d (b++([c])) e) (hH d b e)
def hR (g:ao) (b:fw) (c:LI) (j:Bool) (f:Int) (e:bc) (h:Int) (i:Bool):=cond i (gd (ce (c.length+([(bc.mk b.d b.u (IntKind.i64.wrap (g.r+1)))]).length)) <| hJ f e h (c++([(bc.mk b.d b.u (IntKind.i64.wrap (g.r+1)))])) true) (hJ f e h c j)
def jv (j:ao) (i:LI) (e:fw) (g:LI) (c:Bool) (b:Int):=cond (decide (b<(i.length:Int))) ((bO i b).bind fun f=>(kV f.d e.d).bind fun h=>cond (decide ((0:Int)<=h)) (hR j e g c b f h (!(c))) (hR j e g c b f h false)) (some (.out (g,c)))
def pO (i g:ao) (f:Bool) (c:Int) (e:LI) (b:fw) (h:Bool):=cond (!(h)) (kZ c f e) ((pj i b.d).bind fun j=>cond (j.toList==b.u.toList) (kZ c f e) ((loop (fun s:LI×Bool×Int=>jv g e b s.1 s.2.1 s.2.2) (([]:List bc),false,0)).bind fun r=>gZ g c b r.1 r.2))
def oN (c:fw) (f:LC) (g:Bool) (b:Int):Option (Fl (Bool×Int) (Bool)):=cond (decide (b<(f.length:Int))) ((bO f b).bind fun e=>cond g (some (.go (!(e.d.k==c.d.k&&e.d.t.toList==c.d.t.toList),IntKind.i64.wrap (b+1)))) (some (.go (false,IntKind.i64.wrap (b+1))))) (some (.out g))
def oO (c:LC) (h i:ao) (d:Bool) (b:Int) (f:LI):=cond (decide (b<(c.length:Int))) ((bO c b).bind fun e=>(uV c (IntKind.i64.wrap (b+1)) c.length).bind fun g=>(loop (fun s:Bool×Int=>oN e g s.1 s.2) (true,0)).bind fun r=>pO h i d b f e r) (some (.out (d,f)))
def l3 (d:LC) (b:ao):=(gw b).bind fun c=>(loop (fun s:Bool×Int×LI=>oO d b c s.1 s.2.1 s.2.2) (false,0,c.i)).bind fun r=>m6 b c r.1 r.2
def l6 (c:LC) (e:ao) (b:Int):Option (Fl (Int) (Fl (Unit) (ao×Int))):=cond (decide (b<(c.length:Int))) ((bO c b).bind fun d=>cond (decide ((1073741824:Int)<(d.u.size:Int))) (some (.out (.out (e,3)))) (some (.go (IntKind.i64.wrap (b+1))))) (some (.out (.go ())))
def l5 (c:LC) (b:ao):=(loop (fun s:Int=>l6 c b s) 0).bind fun r=>Fl.el r (fun s=>l3 c b) (fun y=>some (y))
def l7 (f:LC) (e:ao) (b:Int):Option (Fl (Int) (Fl (Unit) (ao×Int))):=cond (decide (b<(f.length:Int))) ((bO f b).bind fun c=>(cY c.d).bind fun g=>cond (!(g)) (some (.out (.out (e,40)))) ((cO c.d).bind fun h=>cond (!(h)) (some (.out (.out (e,40)))) (some (.go (IntKind.i64.wrap (b+1)))))) (some (.out (.go ())))
def m5 (e:ao) (c:LC):=(gw e).bind fun b=>(ge b).bind fun d=>cond (!(d)) (some ((b,42))) (cond (decide ((32:Int)<(c.length:Int))) (some ((b,3))) ((loop (fun s:Int=>l7 c b s) 0).bind fun r=>Fl.el r (fun s=>l5 c b) (fun y=>some (y))))
theorem um (hLv:fi T L) (a7:ao) (m:LC) (v1 v2 p:Value) (g8:aI ab T L v1 a7.i) (g9:aI aa T L v2 a7.s) (gb:aI bG T L p m) (y:ao×Int) (B:m5 a7 m=some y):bj aR No 29 [.agg (bp a7 v1 v2).toArray,p] L (fun v w'=>∃ (v4:Value) (vl:bK) (v6:Value) (sT:bK),v = .tuple #[.agg (bp y.1 v4 v6).toArray,am y.2]/\kJ ab T L w' [aZ v4 vl,aK v6 sT] 91 v4 vl y.1.i/\kJ aa T L w' [aZ v4 vl,aK v6 sT] 33 v6 sT y.1.s/\(∀ k,v4.ownBlock=some k->v6.ownBlock≠some k)):=by
 refine en Tryz.func29 Tryz.ntmps29 hT fun a I=>?_;replace I:=(((I.fact ci (fi.dn hLv)).fS (aI.dn g8)).fS (aI.dn g9)).fS (aI.dn gb);unfold m5 at B;refine kB I fun n hn a w O I=>?_;refine ka I kg fun o ho a w O I=>?_;refine al I fun a I=>?_;obtain⟨b,dl,B⟩:=bd B;refine kc I Cp (fE _ _ I.dlt a7 _ _ I.g2 I.g1 _ dl) fun _ w C a O U=>?_;obtain⟨e,j,f,l,he,ck,cl,ch⟩:=C;obtain rfl:=he.symm;have I:=AC U ck cl ch;refine go I fun a w I=>?_;refine aA ?_;refine al I fun a I=>?_;have hL:=I;replace hL:=hL.zf (R:=ab) 0 rfl 1 rfl;replace hL:=hL.zf (R:=aa) 0 rfl 1 rfl;obtain⟨hG,e5,B⟩:=bd B;refine kF I Ns (rr _ _ hL.dlt hL.g7 b _ _ hL.g1 hL.g0 _ e5) fun w a I=>?_;rcases cd B with⟨e6,B⟩|⟨e6,B⟩
 ·refine go I fun a w I=>?_;cases B
  refine aH I Tryz.results29 (bB I rfl 2 rfl gN rfl (fun h=>by cases h) (aw I rfl aF)) ?_;exact⟨e,j,f,l,rfl,I.zo ⟨.inr (aD (i:=0) rfl),⟨.inr (aD (i:=1) rfl),trivial⟩⟩ 0 rfl 1 rfl,I.zo ⟨.inr (aD (i:=0) rfl),⟨.inr (aD (i:=1) rfl),trivial⟩⟩ 1 rfl 0 rfl,(I.zp 0 rfl 1 rfl (by decide))⟩
 refine al I fun a I=>?_;rcases cd B with⟨e7,B⟩|⟨e7,B⟩
 ·refine go I fun a w I=>?_;cases B
  refine aH I Tryz.results29 (bB I rfl 2 rfl gN rfl (fun h=>by cases h) (aw I rfl aF)) ?_;exact⟨e,j,f,l,rfl,I.zo ⟨.inr (aD (i:=0) rfl),⟨.inr (aD (i:=1) rfl),trivial⟩⟩ 0 rfl 1 rfl,I.zo ⟨.inr (aD (i:=0) rfl),⟨.inr (aD (i:=1) rfl),trivial⟩⟩ 1 rfl 0 rfl,(I.zp 0 rfl 1 rfl (by decide))⟩
 refine al I fun a I=>?_;refine aN (J:=fun a w=>St L No T 172 [(1,p),(2,pt n 0),(4,pt o 0)] [aZ e j,aK f l,.box n (bp b e f) 25,.box o [am 0,.slice none 0 0,.slice none 0 0] 25] [aT bG p m,ap ab j b.i,ap aa l b.s,ci] a w/\l5 m b=some y) ?_ ?_
 ·refine al I fun a I=>?_;obtain⟨r1,a9,hMo1⟩:=bd B;refine bH _ (fun s a w=>∃ (a1:Int),a1=s/\St L No T 172 [(1,p),(2,pt n 0),(4,pt o 0),(34,p),(35,am (m.length:Int)),(36,am a1)] [aZ e j,aK f l,.box n (bp b e f) 25,.box o [am 0,.slice none 0 0,.slice none 0 0] 25] [aT bG p m,ap ab j b.i,ap aa l b.s,ci] a w) a9 ⟨_,rfl,I.mt [0,1,3,2] [2,1,0,5]⟩ ?_;rintro s a w W ⟨a1,rfl,I⟩ B hf1;have B:l7 m b a1=some W:=B;unfold l7 at B;refine al I fun a I=>?_;refine aA ?_;rcases cd B with⟨ea,B⟩|⟨ea,B⟩
  ·refine al I fun a I=>?_;refine aA ?_;refine al I fun a I=>?_;obtain⟨c5,d8,B⟩:=bd B;refine wl rfl (bE (R:=bG) I KA EV rfl rfl 0 rfl d8 rfl fun h0 hw hc ed a I=>?_);obtain rfl:=ed;refine kA I DK fun h1 hp a w O I=>?_;refine go I fun a w I=>?_;refine dW ?_;refine al I fun a I=>?_;obtain⟨hE,e3,B⟩:=bd B;refine kF I HY (kj _ _ I.dlt c5.d _ e3) fun w a I=>?_;rcases cd B with⟨c6,B⟩|⟨c6,B⟩
   ·refine go I fun a w I=>?_;cases B
    have hr:=hf1 _ rfl;subst hr;replace hMo1:=mP hMo1;have B:=hMo1;cases B
    refine aH I Tryz.results29 (bB I rfl 4 rfl gN rfl (fun h=>by cases h) (aw I rfl aF)) ?_;exact⟨e,j,f,l,rfl,I.zo ⟨.inr (aD (i:=1) rfl),⟨.inr (aD (i:=2) rfl),trivial⟩⟩ 1 rfl 2 rfl,I.zo ⟨.inr (aD (i:=1) rfl),⟨.inr (aD (i:=2) rfl),trivial⟩⟩ 2 rfl 3 rfl,(I.zp 1 rfl 2 rfl (by decide))⟩
   refine al I fun a I=>?_;obtain⟨hF,e4,B⟩:=bd B;refine wg I rfl rfl rfl c6 (bP I AH rfl rfl (dN _ _ I.dlt c5.d _ e4) fun _ w C a O U=>?_);obtain rfl:=C;have I:=eL U;refine al I fun a I=>?_;rcases cd B with⟨ei,B⟩|⟨ei,B⟩
   ·refine go I fun a w I=>?_;cases B
    have hr:=hf1 _ rfl;subst hr;replace hMo1:=mP hMo1;have B:=hMo1;cases B
    refine aH I Tryz.results29 (bB I rfl 4 rfl gN rfl (fun h=>by cases h) (aw I rfl aF)) ?_;exact⟨e,j,f,l,rfl,I.zo ⟨.inr (aD (i:=1) rfl),⟨.inr (aD (i:=2) rfl),trivial⟩⟩ 1 rfl 2 rfl,I.zo ⟨.inr (aD (i:=1) rfl),⟨.inr (aD (i:=2) rfl),trivial⟩⟩ 2 rfl 3 rfl,(I.zp 1 rfl 2 rfl (by decide))⟩
   exact fz
  exact fz
 rintro a w ⟨I,B⟩;unfold l5 at B;refine aN (J:=fun a w=>St L No T 172 [(1,p),(2,pt n 0),(4,pt o 0)] [aZ e j,aK f l,.box n (bp b e f) 25,.box o [am 0,.slice none 0 0,.slice none 0 0] 25] [aT bG p m,ap ab j b.i,ap aa l b.s,ci] a w/\l3 m b=some y) ?_ ?_
 ·refine al I fun a I=>?_;obtain⟨r1,a9,hMo1⟩:=bd B;refine bH _ (fun s a w=>∃ (a0:Int),a0=s/\St L No T 172 [(1,p),(2,pt n 0),(4,pt o 0),(52,p),(53,am (m.length:Int)),(54,am a0)] [aZ e j,aK f l,.box n (bp b e f) 25,.box o [am 0,.slice none 0 0,.slice none 0 0] 25] [aT bG p m,ap ab j b.i,ap aa l b.s,ci] a w) a9 ⟨_,rfl,I.mt [0,1,2,3] [0,1,2,3]⟩ ?_;rintro s a w W ⟨a0,rfl,I⟩ B hf1;have B:l6 m b a0=some W:=B;unfold l6 at B;refine al I fun a I=>?_;refine aA ?_;rcases cd B with⟨el,B⟩|⟨el,B⟩
  ·refine al I fun a I=>?_;refine aA ?_;refine al I fun a I=>?_;obtain⟨hm,d7,B⟩:=bd B;refine wl rfl (bE (R:=bG) I KA EV rfl rfl 0 rfl d7 rfl fun h2 hx hd eo a I=>?_);obtain rfl:=eo;refine kA I DK fun h3 hq a w O I=>?_;refine go I fun a w I=>?_;rcases cd B with⟨eq,B⟩|⟨eq,B⟩
   ·refine go I fun a w I=>?_;cases B
    have hr:=hf1 _ rfl;subst hr;replace hMo1:=mP hMo1;have B:=hMo1;cases B
    refine aH I Tryz.results29 (bB I rfl 4 rfl gN rfl (fun h=>by cases h) (aw I rfl aF)) ?_;exact⟨e,j,f,l,rfl,I.zo ⟨.inr (aD (i:=1) rfl),⟨.inr (aD (i:=2) rfl),trivial⟩⟩ 1 rfl 2 rfl,I.zo ⟨.inr (aD (i:=1) rfl),⟨.inr (aD (i:=2) rfl),trivial⟩⟩ 2 rfl 3 rfl,(I.zp 1 rfl 2 rfl (by decide))⟩
   exact fz
  exact fz
 rintro a w ⟨I,B⟩;unfold l3 at B;refine al I fun a I=>?_;have hZ:=I;replace I:=(I.zf (R:=ab) 0 rfl 1 rfl).zf (R:=aa) 0 rfl 3 rfl;have hY:St L No T 172 [] ([aZ e j,aK f l]++[.box n (bp b e f) 25,.box o [am 0,.slice none 0 0,.slice none 0 0] 25]) [aT bG p m,ap ab j b.i,ap aa l b.s,ci] _ _:=hZ.meet [0,1,2,3] (by decide) trivial ⟨rfl,rfl,rfl,rfl,trivial⟩ ⟨⟨0,rfl⟩,⟨1,rfl⟩,⟨2,rfl⟩,⟨3,rfl⟩,trivial⟩;replace I:=I.snap hY;obtain⟨g,ds,B⟩:=bd B;refine kc I Cp (fE _ _ I.dlt b _ _ I.g2 I.g1 _ ds) fun _ w C a O U=>?_;obtain⟨hI,hf,z,q,he,cs,cv,ch⟩:=C;obtain rfl:=he.symm;have I:=AC U cs cv ch;refine ka I kg fun D hs a w O I=>?_;refine go I fun a w I=>?_;refine aN (J:=fun a w=>∃ (af:Bool) (b7:LI) (a6:Value) (Y:LV),St L No T 172 [(2,pt n 0),(4,pt o 0),(10,pt D 0),(11,.bool af)] [.box n (bp b e f) 25,.box o [am 0,.slice none 0 0,.slice none 0 0] 25,aZ a6 Y,aK z q,.box D [am (IntKind.i64.wrap (g.r+1)),a6,z] 25] [aT ab e b.i,aT aa f b.s,ap ab Y b7,ap aa q g.s,ci,rE L No [aZ e j,aK f l] [aT bG p m,ap ab j b.i,ap aa l b.s,ci]] a w/\m6 b g af b7=some y) ?_ ?_
 ·refine al I fun a I=>?_;obtain⟨r1,a9,hMo1⟩:=bd B;refine bH _ (fun s a w=>∃ (N:Bool) (G:Int) (F:LI) (A:Value) (E:LV),(N,G,F)=s/\St L No T 172 [(1,p),(2,pt n 0),(4,pt o 0),(10,pt D 0),(11,.bool N),(70,p),(71,am (m.length:Int)),(72,am G)] [.box n (bp b e f) 25,.box o [am 0,.slice none 0 0,.slice none 0 0] 25,aZ A E,aK z q,.box D [am (IntKind.i64.wrap (g.r+1)),A,z] 25] [aT bG p m,aT ab e b.i,aT aa f b.s,ap ab E F,ap aa q g.s,ci,rE L No [aZ e j,aK f l] [aT bG p m,ap ab j b.i,ap aa l b.s,ci]] a w) a9 ⟨_,_,_,_,_,rfl,I.mt [3,4,1,2,0] [5,4,3,1,0,8,2]⟩ ?_;rintro s a w W ⟨N,G,F,A,E,rfl,I⟩ B hf1;have B:oO m b g N G F=some W:=B;unfold oO at B;refine al I fun a I=>?_;refine aA ?_;rcases cd B with⟨er,B⟩|⟨er,B⟩
  ·refine al I fun a I=>?_;refine aN (J:=fun a w=>∃ (ag:Bool) (b8:LI) (bl:Value) (ak:LV),St L No T 172 [(1,p),(2,pt n 0),(4,pt o 0),(10,pt D 0),(11,.bool ag),(70,p),(71,am (m.length:Int)),(72,am G)] [.box n (bp b e f) 25,.box o [am 0,.slice none 0 0,.slice none 0 0] 25,aZ bl ak,aK z q,.box D [am (IntKind.i64.wrap (g.r+1)),bl,z] 25] [aT bG p m,aT ab e b.i,aT aa f b.s,ap ab ak b8,ap aa q g.s,ci,rE L No [aZ e j,aK f l] [aT bG p m,ap ab j b.i,ap aa l b.s,ci]] a w/\kZ G ag b8=some W) ?_ ?_
   ·refine al I fun a I=>?_;obtain⟨c,d4,B⟩:=bd B;refine wl rfl (bE (R:=bG) I KA EV rfl rfl 0 rfl d4 rfl fun h4 hy hg et a I=>?_);obtain rfl:=et;refine kA I DK fun H ht a w O I=>?_;refine go I fun a w I=>?_;refine aN (J:=fun a w=>∃ (b5:Bool),St L No T 172 [(1,p),(2,pt n 0),(4,pt o 0),(10,pt D 0),(11,.bool N),(13,pt H 0),(14,.bool b5),(70,p),(71,am (m.length:Int)),(72,am G)] [.box n (bp b e f) 25,.box o [am 0,.slice none 0 0,.slice none 0 0] 25,aZ A E,aK z q,.box D [am (IntKind.i64.wrap (g.r+1)),A,z] 25,.box H (py c) 153] [aT bG p m,aT ab e b.i,aT aa f b.s,ap ab E F,ap aa q g.s,ci,rE L No [aZ e j,aK f l] [aT bG p m,ap ab j b.i,ap aa l b.s,ci]] a w/\pO b g N G F c b5=some W) ?_ ?_
    ·refine al I fun a I=>?_;obtain⟨b6,d9,B⟩:=bd B;refine wl rfl (Sm (R:=bG) (k2:=.i64) I KA EV rfl (.inl ⟨_,rfl,rfl⟩) (.inr ⟨rfl,rfl⟩) 1 rfl d9 rfl fun d1 a I=>?_);refine al I fun a I=>?_;obtain⟨r2,d0,hMo2⟩:=bd B;refine bH _ (fun s a w=>∃ (a4:Bool) (Z:Int),(a4,Z)=s/\St L No T 172 [(1,p),(2,pt n 0),(4,pt o 0),(10,pt D 0),(11,.bool N),(13,pt H 0),(14,.bool a4),(70,p),(71,am (m.length:Int)),(72,am G),(80,d1),(81,am (b6.length:Int)),(82,am Z)] [.box n (bp b e f) 25,.box o [am 0,.slice none 0 0,.slice none 0 0] 25,aZ A E,aK z q,.box D [am (IntKind.i64.wrap (g.r+1)),A,z] 25,.box H (py c) 153] [aT bG p m,aT bG d1 b6,aT ab e b.i,aT aa f b.s,ap ab E F,ap aa q g.s,ci,rE L No [aZ e j,aK f l] [aT bG p m,ap ab j b.i,ap aa l b.s,ci]] a w) d0 ⟨_,_,rfl,I.mt [1,2,3,4,5,0] [2,0,3,4,5,6,7,8]⟩ ?_;rintro s a w f2 ⟨a4,Z,rfl,I⟩ B hf2;have B:oN c b6 a4 Z=some f2:=B;unfold oN at B;refine al I fun a I=>?_;refine aA ?_;rcases cd B with⟨ew,B⟩|⟨ew,B⟩
     ·refine al I fun a I=>?_;refine aA ?_;refine al I fun a I=>?_;obtain⟨c4,d6,B⟩:=bd B;refine wl rfl (bE (R:=bG) I KA EV rfl rfl 1 rfl d6 rfl fun h5 hz hh ex a I=>?_);obtain rfl:=ex;refine kA I DK fun h6 hu a w O I=>?_;refine go I fun a w I=>?_;rcases cd B with⟨c9,B⟩|⟨c9,B⟩
      ·refine al I fun a I=>?_;refine wg I rfl rfl rfl c9 (ky (v:=.bool (!(c4.d.k==c.d.k&&c4.d.t.toList==c.d.t.toList))) I (CI I rfl rfl) rfl rfl fun a I=>?_);exact fz
      exact fz
     exact fz
    rintro a w ⟨b5,I,B⟩;unfold pO at B;refine aA ?_;refine aA ?_;refine dr [] I fun w hQ I=>?_;refine gE [0,1,2] I fun a I=>?_;rcases cd B with⟨ca,B⟩|⟨ca,B⟩
    ·refine gE [3,4,5,6,7,8,9,10] I fun a I=>?_;refine eD ?_;exact fz
    refine gE [3,4,5,7,8] I fun a I=>?_;obtain⟨hD,e2,B⟩:=bd B;refine ey (i:=6) rfl (by kernel_rfl) I rfl rfl rfl ca (bP I NA rfl rfl (tT _ _ I.dlt b c.d _ _ I.g1 I.g2 _ e2) fun _ w C a O U=>⟨iJ (O),?_⟩);obtain rfl:=C;have I:=eL U;refine gE [9,10] I fun a I=>?_;refine eD ?_;refine al I fun a I=>?_;rcases cd B with⟨ez,B⟩|⟨ez,B⟩
    ·exact fz
    refine al I fun a I=>?_;refine aN (J:=fun a w=>∃ (a2:LI) (b9:Bool) (bs:Value) (an:LV),St L No T 172 [(1,p),(2,pt n 0),(4,pt o 0),(10,pt D 0),(11,.bool true),(13,pt H 0),(17,bs),(18,.bool b9),(70,p),(71,am (m.length:Int)),(72,am G)] [aZ bs an,.box n (bp b e f) 25,.box o [am 0,.slice none 0 0,.slice none 0 0] 25,aZ A E,aK z q,.box D [am (IntKind.i64.wrap (g.r+1)),A,z] 25,.box H (py c) 153] [aT bG p m,ap ab an a2,aT ab e b.i,aT aa f b.s,ap ab E F,ap aa q g.s,ci,rE L No [aZ e j,aK f l] [aT bG p m,ap ab j b.i,ap aa l b.s,ci]] a w/\gZ g G c a2 b9=some W) ?_ ?_
    ·refine al I fun a I=>?_;replace I:=I.zn ab 91 (by decide);obtain⟨r2,d0,hMo2⟩:=bd B;refine bH _ (fun s a w=>∃ (P:LI) (Q:Bool) (M:Int) (V:Value) (S:LV),(P,Q,M)=s/\St L No T 172 [(1,p),(2,pt n 0),(4,pt o 0),(10,pt D 0),(11,.bool true),(13,pt H 0),(17,V),(18,.bool Q),(70,p),(71,am (m.length:Int)),(72,am G),(107,A),(108,am (F.length:Int)),(109,am M)] [aZ V S,aZ A E,.box n (bp b e f) 25,.box o [am 0,.slice none 0 0,.slice none 0 0] 25,aK z q,.box D [am (IntKind.i64.wrap (g.r+1)),A,z] 25,.box H (py c) 153] [aT bG p m,ap ab S P,ap ab E F,aT ab e b.i,aT aa f b.s,ap aa q g.s,ci,rE L No [aZ e j,aK f l] [aT bG p m,ap ab j b.i,ap aa l b.s,ci]] a w) d0 ⟨_,_,_,_,_,rfl,I.mt [0,3,1,2,4,5,6] [1,0,4,2,3,5,6,7]⟩ ?_;rintro s a w f2 ⟨P,Q,M,V,S,rfl,I⟩ B hf2;have B:jv g F c P Q M=some f2:=B;unfold jv at B;refine al I fun a I=>?_;refine aA ?_;rcases cd B with⟨f3,B⟩|⟨f3,B⟩
     ·refine al I fun a I=>?_;refine aN (J:=fun a w=>∃ (b4:LI) (bb:Bool) (bt:Value) (av:LV),St L No T 172 [(1,p),(2,pt n 0),(4,pt o 0),(10,pt D 0),(11,.bool true),(13,pt H 0),(17,bt),(18,.bool bb),(70,p),(71,am (m.length:Int)),(72,am G),(107,A),(108,am (F.length:Int)),(109,am M)] [aZ bt av,aZ A E,.box n (bp b e f) 25,.box o [am 0,.slice none 0 0,.slice none 0 0] 25,aK z q,.box D [am (IntKind.i64.wrap (g.r+1)),A,z] 25,.box H (py c) 153] [aT bG p m,ap ab av b4,ap ab E F,aT ab e b.i,aT aa f b.s,ap aa q g.s,ci,rE L No [aZ e j,aK f l] [aT bG p m,ap ab j b.i,ap aa l b.s,ci]] a w/\hH M b4 bb=some f2) ?_ ?_
      ·refine al I fun a I=>?_;obtain⟨K,d5,B⟩:=bd B;refine wl rfl (fo (R:=ab) I Dp BS rfl rfl 1 rfl 2 rfl d5 rfl fun h7 hA hB hi f4 f5 f6 a I=>?_);obtain rfl:=f4;refine qy I (cK (k:=0) I BS 1 rfl f5 f6 rfl id (us:=(qs K)) rfl rfl (fun h=>by cases h)) fun a I=>?_;refine ka I vU fun X hv a w O I=>?_;refine go I fun a w I=>?_;obtain⟨a5,e0,B⟩:=bd B;refine kF I HZ (mU _ _ I.dlt I.g6 K.d c.d _ e0) fun w a I=>?_;refine aN (J:=fun a w=>∃ (a3:LI) (bi:Bool) (c1:Value) (b0:LV),St L No T 172 [(1,p),(2,pt n 0),(4,pt o 0),(10,pt D 0),(11,.bool true),(13,pt H 0),(17,c1),(18,.bool bi),(20,pt X 0),(21,am a5),(70,p),(71,am (m.length:Int)),(72,am G),(107,A),(108,am (F.length:Int)),(109,am M)] [aZ c1 b0,aZ A E,.box n (bp b e f) 25,.box o [am 0,.slice none 0 0,.slice none 0 0] 25,aK z q,.box D [am (IntKind.i64.wrap (g.r+1)),A,z] 25,.box H (py c) 153,.box X (qs K) 91] [aT bG p m,ap ab b0 a3,ap ab E F,aT ab e b.i,aT aa f b.s,ap aa q g.s,ci,rE L No [aZ e j,aK f l] [aT bG p m,ap ab j b.i,ap aa l b.s,ci]] a w/\hJ M K a5 a3 bi=some f2) ?_ ?_
       ·refine aN (J:=fun a w=>∃ (b2:Bool),St L No T 172 [(1,p),(2,pt n 0),(4,pt o 0),(10,pt D 0),(11,.bool true),(13,pt H 0),(17,V),(18,.bool Q),(20,pt X 0),(21,am a5),(70,p),(71,am (m.length:Int)),(72,am G),(107,A),(108,am (F.length:Int)),(109,am M),(123,.bool b2)] [aZ V S,aZ A E,.box n (bp b e f) 25,.box o [am 0,.slice none 0 0,.slice none 0 0] 25,aK z q,.box D [am (IntKind.i64.wrap (g.r+1)),A,z] 25,.box H (py c) 153,.box X (qs K) 91] [aT bG p m,ap ab S P,ap ab E F,aT ab e b.i,aT aa f b.s,ap aa q g.s,ci,rE L No [aZ e j,aK f l] [aT bG p m,ap ab j b.i,ap aa l b.s,ci]] a w/\hR g c P Q M K a5 b2=some f2) ?_ ?_
        ·exact fz
        rintro a w ⟨b2,I,B⟩;unfold hR at B;rcases cd B with⟨fd,B⟩|⟨fd,B⟩
        ·refine al I fun a I=>?_;refine qy I (br (ps:=[(0,.tmp 126),(1,.tmp 128),(2,.tmp 130)]) I Mj vU rfl (us:=[(bm c.d),[aU c.u],[am (IntKind.i64.wrap (g.r+1))]]) ⟨rfl,⟨rfl,⟨rfl,trivial⟩⟩⟩ (ws:=[am c.d.k,aU c.d.t,aU c.u,am (IntKind.i64.wrap (g.r+1))]) rfl) fun a I=>?_;refine wl rfl (bf (ps:=[(0,.tmp 131)]) I CC vU (zl:=[am 0,aU cr,aU cr,am 0]) (by kernel_rfl) rfl (us:=[[am c.d.k,aU c.d.t,aU c.u,am (IntKind.i64.wrap (g.r+1))]]) ⟨rfl,trivial⟩ (ws:=[am c.d.k,aU c.d.t,aU c.u,am (IntKind.i64.wrap (g.r+1))]) rfl rfl rfl rfl fun h8 a w O I=>?_);replace I:=(I.lit (R:=ab) (us:=[am c.d.k,aU c.d.t,aU c.u,am (IntKind.i64.wrap (g.r+1))]) (xs:=[(bc.mk c.d c.u (IntKind.i64.wrap (g.r+1)))]) 0 rfl (by decide) (aJ (R:=ab) (x:=(bc.mk c.d c.u (IntKind.i64.wrap (g.r+1)))) rfl) rfl rfl).zf (R:=ab) 0 rfl 0 rfl;obtain⟨fl,B⟩:=aP B;refine wl rfl (bR (R:=ab) (xs:=P) (ys:=[(bc.mk c.d c.u (IntKind.i64.wrap (g.r+1)))]) I CC (by decide) (by decide) rfl rfl 0 rfl 3 rfl 0 rfl fl rfl fun hK hj a w O I=>?_);exact fz
        exact fz
       rintro a w ⟨a3,bi,c1,b0,I,B⟩;unfold hJ at B;refine al I fun a I=>?_;rcases cd B with⟨fn,B⟩|⟨fn,B⟩
       ·refine al I fun a I=>?_;refine wl rfl (bf (ps:=[(0,.tmp 137)]) I CC vU (zl:=[am 0,aU cr,aU cr,am 0]) (by kernel_rfl) rfl (us:=[(qs K)]) ⟨rfl,trivial⟩ (ws:=(qs K)) rfl rfl rfl rfl fun h9 a w O I=>?_);replace I:=(I.lit (R:=ab) (us:=(qs K)) (xs:=[K]) 0 rfl (by decide) (aJ (R:=ab) (x:=K) rfl) rfl rfl).zf (R:=ab) 0 rfl 0 rfl;obtain⟨fr,B⟩:=aP B;refine wl rfl (bR (R:=ab) (xs:=a3) (ys:=[K]) I CC (by decide) (by decide) rfl rfl 0 rfl 3 rfl 0 rfl fr rfl fun hM hk a w O I=>?_);exact fz
       exact fz
      rintro a w ⟨b4,bb,bt,av,I,B⟩;unfold hH at B;exact fz
     refine al I fun a I=>?_;cases B
     have hr:=hf2 _ rfl;subst hr;have B:gZ g G c P Q=some W:=hMo2;exact fin
    rintro a w ⟨a2,b9,bs,an,I,B⟩;unfold gZ at B;refine aN (J:=fun a w=>∃ (b3:LI) (c2:Value) (b1:LV),St L No T 172 [(1,p),(2,pt n 0),(4,pt o 0),(10,pt D 0),(11,.bool true),(17,c2),(70,p),(71,am (m.length:Int)),(72,am G)] [aZ c2 b1,.box n (bp b e f) 25,.box o [am 0,.slice none 0 0,.slice none 0 0] 25,aZ A E,aK z q,.box D [am (IntKind.i64.wrap (g.r+1)),A,z] 25] [aT bG p m,ap ab b1 b3,aT ab e b.i,aT aa f b.s,ap ab E F,ap aa q g.s,ci,rE L No [aZ e j,aK f l] [aT bG p m,ap ab j b.i,ap aa l b.s,ci]] a w/\gY G b3=some W) ?_ ?_
    ·refine al I fun a I=>?_;rcases cd B with⟨fs,B⟩|⟨fs,B⟩
     ·refine al I fun a I=>?_;refine qy I (br (ps:=[(0,.tmp 145),(1,.tmp 147),(2,.tmp 149)]) I Mj vU rfl (us:=[(bm c.d),[aU c.u],[am (IntKind.i64.wrap (g.r+1))]]) ⟨rfl,⟨rfl,⟨rfl,trivial⟩⟩⟩ (ws:=[am c.d.k,aU c.d.t,aU c.u,am (IntKind.i64.wrap (g.r+1))]) rfl) fun a I=>?_;refine wl rfl (bf (ps:=[(0,.tmp 150)]) I CC vU (zl:=[am 0,aU cr,aU cr,am 0]) (by kernel_rfl) rfl (us:=[[am c.d.k,aU c.d.t,aU c.u,am (IntKind.i64.wrap (g.r+1))]]) ⟨rfl,trivial⟩ (ws:=[am c.d.k,aU c.d.t,aU c.u,am (IntKind.i64.wrap (g.r+1))]) rfl rfl rfl rfl fun ha a w O I=>?_);replace I:=(I.lit (R:=ab) (us:=[am c.d.k,aU c.d.t,aU c.u,am (IntKind.i64.wrap (g.r+1))]) (xs:=[(bc.mk c.d c.u (IntKind.i64.wrap (g.r+1)))]) 0 rfl (by decide) (aJ (R:=ab) (x:=(bc.mk c.d c.u (IntKind.i64.wrap (g.r+1)))) rfl) rfl rfl).zf (R:=ab) 0 rfl 0 rfl;obtain⟨fM,B⟩:=aP B;refine wl rfl (bR (R:=ab) (xs:=a2) (ys:=[(bc.mk c.d c.u (IntKind.i64.wrap (g.r+1)))]) I CC (by decide) (by decide) rfl rfl 0 rfl 3 rfl 0 rfl fM rfl fun hN hl a w O I=>?_);exact fz
     exact fz
    rintro a w ⟨b3,c2,b1,I,B⟩;unfold gY at B;exact fz
   rintro a w ⟨ag,b8,bl,ak,I,B⟩;unfold kZ at B;exact fz
  refine al I fun a I=>?_;cases B
  have hr:=hf1 _ rfl;subst hr;have B:m6 b g N F=some y:=hMo1;exact fin
 rintro a w ⟨af,b7,a6,Y,I,B⟩;unfold m6 at B;refine aA ?_;refine al I fun a I=>?_;rcases cd B with⟨g3,B⟩|⟨g3,B⟩
 ·refine go I fun a w I=>?_;replace I:=I.thaw 5 rfl;cases B
  refine aH I Tryz.results29 (bB I rfl 3 rfl gN rfl (fun h=>by cases h) (aw I rfl aF)) ?_;exact⟨e,j,f,l,rfl,I.zo ⟨.inr (aD (i:=0) rfl),⟨.inr (aD (i:=1) rfl),trivial⟩⟩ 0 rfl 1 rfl,I.zo ⟨.inr (aD (i:=0) rfl),⟨.inr (aD (i:=1) rfl),trivial⟩⟩ 1 rfl 2 rfl,(I.zp 0 rfl 1 rfl (by decide))⟩
 refine al I fun a I=>?_;rcases cd B with⟨g4,B⟩|⟨g4,B⟩
 ·refine go I fun a w I=>?_;replace I:=I.thaw 5 rfl;cases B
  refine aH I Tryz.results29 (bB I rfl 3 rfl gN rfl (fun h=>by cases h) (aw I rfl aF)) ?_;exact⟨e,j,f,l,rfl,I.zo ⟨.inr (aD (i:=0) rfl),⟨.inr (aD (i:=1) rfl),trivial⟩⟩ 0 rfl 1 rfl,I.zo ⟨.inr (aD (i:=0) rfl),⟨.inr (aD (i:=1) rfl),trivial⟩⟩ 1 rfl 2 rfl,(I.zp 0 rfl 1 rfl (by decide))⟩
 refine al I fun a I=>?_;rcases cd B with⟨g5,B⟩|⟨g5,B⟩
 ·refine go I fun a w I=>?_;replace I:=I.thaw 5 rfl;cases B
  refine aH I Tryz.results29 (bB I rfl 3 rfl gN rfl (fun h=>by cases h) (aw I rfl aF)) ?_;exact⟨e,j,f,l,rfl,I.zo ⟨.inr (aD (i:=0) rfl),⟨.inr (aD (i:=1) rfl),trivial⟩⟩ 0 rfl 1 rfl,I.zo ⟨.inr (aD (i:=0) rfl),⟨.inr (aD (i:=1) rfl),trivial⟩⟩ 1 rfl 2 rfl,(I.zp 0 rfl 1 rfl (by decide))⟩
 refine go I fun a w I=>?_;cases B
 refine aH I Tryz.results29 (bB I rfl 1 rfl gN rfl (fun h=>by cases h) (aw I rfl aF)) ?_;exact⟨a6,Y,z,q,rfl,I.zo ⟨.inr (aD (i:=2) rfl),⟨.inr (aD (i:=3) rfl),trivial⟩⟩ 2 rfl 2 rfl,I.zo ⟨.inr (aD (i:=2) rfl),⟨.inr (aD (i:=3) rfl),trivial⟩⟩ 3 rfl 3 rfl,(I.zp 2 rfl 3 rfl (by decide))⟩
end
end
section
set_option maxRecDepth 100000
set_option maxHeartbeats 4000000
variable (T:Nat->Prop) (L:World) (hT:TW T L)
include hT
noncomputable section
def sL (b:Bool):=some (b)
def nF (b:Bool):=some (b)
def nG (b c:Int):=cond (decide ((0:Int)<=b)) (nF (decide (b<c))) (nF false)
def s3 (b:LU) (e:Int) (g:fZ) (c:Int):=cond g.t1 (cond (decide ((0:Int)<=c)) (sL (decide (c<=15))) (sL false)) ((pg b e).bind fun d=>(bO b e).bind fun f=>cond (!(f.o)) (nG c d.1) (nG c d.2))
theorem Bt (b:LU) (g:Int) (k:fZ) (f:Int) (o:Value) (n:aI aC T L o b) (y:Bool) (B:s3 b g k f=some y):bj aR No 206 [o,am g,.agg (PE k).toArray,am f] L (fun v w'=>v = .bool y):=by
 refine en Tryz.func206 Tryz.ntmps206 hT fun a I=>?_;replace I:=I.fS (aI.dn n);unfold s3 at B;refine kB I fun p t a w O I=>?_;refine al I fun a I=>?_;refine aA ?_;refine al I fun a I=>?_;rcases cd B with⟨l,B⟩|⟨l,B⟩
 ·refine al I fun a I=>?_;refine aN (J:=fun a w=>∃ (d:Bool),St L No T 39 [(8,.bool d)] [] [] a w/\sL d=some y) ?_ ?_
  ·exact fz
  rintro a w ⟨d,I,B⟩;unfold sL at B;exact fz
 refine al I fun a I=>?_;obtain⟨x,i,B⟩:=bd B;refine kF I OJ (xZ _ _ I.dlt b g _ I.g0 _ i) fun w a I=>?_;refine aN (J:=fun a w=>∃ (c:Int),St L No T 39 [(3,am f),(10,am c)] [] [] a w/\nG f c=some y) ?_ ?_
 ·refine al I fun a I=>?_;obtain⟨s,h,B⟩:=bd B;refine wl rfl (bE (R:=aC) I A2 tY rfl rfl 0 rfl h rfl fun q u r m a I=>?_);obtain⟨z,rfl,j⟩:=m;replace I:=I.fS j;exact fz
 rintro a w ⟨c,I,B⟩;unfold nG at B;refine aN (J:=fun a w=>∃ (e:Bool),St L No T 39 [(8,.bool e)] [] [] a w/\nF e=some y) ?_ ?_
 ·exact fz
 rintro a w ⟨e,I,B⟩;unfold nF at B;exact fz
def pJ (b:LU):=some (decide ((b.length:Int)<=24))
def pK (b:Int):Option (Fl (Int) (Fl (Unit) Bool)):=some (.go (IntKind.i64.wrap (b+1)))
def ek (b:Int) (c:Bool):=cond c (some (.out (.out false))) (pK b)
def jt (c:Int) (b:aX):=cond b.o (cond (b.p != 5) (ek c true) (cond (decide (b.C<0)) (ek c true) (cond (decide ((65535:Int)<b.C)) (ek c true) (ek c false)))) (cond (decide (b.p<1)) (ek c true) (cond (decide ((4:Int)<b.p)) (ek c true) (cond (decide (b.C<0)) (ek c true) (ek c (decide ((999:Int)<b.C))))))
def fB (b:Int) (c:Bool):Option (Fl (Int) (Fl (Unit) Bool)):=cond c (some (.out (.out false))) (some (.go (IntKind.i64.wrap (b+1))))
def gX (d:LU) (f:Int) (e:aX) (b:Int):=cond (decide (b<(e.g.length:Int))) ((bO e.g b).bind fun c=>(s3 d f c c.N).bind fun h=>cond (!(h)) (fB b true) (cond c.c1 (cond e.o (fB b true) (cond (b==0) (fB b true) ((s3 d f c c.u1).bind fun i=>cond (!(i)) (fB b true) (fB b false)))) (fB b (c.u1 != 0)))) (some (.out (.go ())))
def ju (b:LU) (c:Int):=cond (decide (c<(b.length:Int))) ((bO b c).bind fun d=>cond (decide ((6:Int)<(d.g.length:Int))) (some (.out (.out false))) ((loop (fun s:Int=>gX b c d s) 0).bind fun r=>Fl.el r (fun s=>jt c d) (fun y=>some (.out (.out y))))) (some (.out (.go ())))
def rS (b:LU):=(loop (fun s:Int=>ju b s) 0).bind fun r=>Fl.el r (fun s=>pJ b) (fun y=>some (y))
theorem DZ (b:LU) (d:Value) (Q:aI aC T L d b) (y:Bool) (B:rS b=some y):bj aR No 170 [d] L (fun v w'=>v = .bool y):=by
 refine en Tryz.func170 Tryz.ntmps170 hT fun a I=>?_;replace I:=I.fS (aI.dn Q);unfold rS at B;refine al I fun a I=>?_;refine aN (J:=fun a w=>St L No T 111 [(0,d)] [] [aT aC d b] a w/\pJ b=some y) ?_ ?_
 ·refine al I fun a I=>?_;obtain⟨r1,M,hMo1⟩:=bd B;refine bH _ (fun s a w=>∃ (c:Int),c=s/\St L No T 111 [(0,d),(7,d),(8,am (b.length:Int)),(9,am c)] [] [aT aC d b] a w) M ⟨_,rfl,I.mt [] [0]⟩ ?_;rintro s a w n ⟨c,rfl,I⟩ B hf1;have B:ju b c=some n:=B;unfold ju at B;refine al I fun a I=>?_;refine aA ?_;rcases cd B with⟨u,B⟩|⟨u,B⟩
  ·refine al I fun a I=>?_;refine aN (J:=fun a w=>St L No T 111 [(0,d),(7,d),(8,am (b.length:Int)),(9,am c)] [] [aT aC d b] a w/\pK c=some n) ?_ ?_
   ·refine al I fun a I=>?_;obtain⟨e,o,B⟩:=bd B;refine wl rfl (bE (R:=aC) I A2 tY rfl rfl 0 rfl o rfl fun S a1 X x a I=>?_);obtain⟨f,rfl,t⟩:=x;replace I:=I.fS t;refine kA I we fun h Z a w O I=>?_;refine go I fun a w I=>?_;refine aA ?_;refine al I fun a I=>?_;rcases cd B with⟨z,B⟩|⟨z,B⟩
    ·exact fz
    refine al I fun a I=>?_;refine aN (J:=fun a w=>St L No T 111 [(0,d),(4,pt h 0),(7,d),(8,am (b.length:Int)),(9,am c)] [.box h (xQ e f) 150] [aT aC d b,aT gg f e.g] a w/\jt c e=some n) ?_ ?_
    ·refine al I fun a I=>?_;obtain⟨r2,P,hMo2⟩:=bd B;refine bH _ (fun s a w=>∃ (i:Int),i=s/\St L No T 111 [(0,d),(3,am c),(4,pt h 0),(7,d),(8,am (b.length:Int)),(9,am c),(19,f),(20,am (e.g.length:Int)),(21,am i)] [.box h (xQ e f) 150] [aT aC d b,aT gg f e.g] a w) P ⟨_,rfl,I.mt [0] [2,0]⟩ ?_;rintro s a w K ⟨i,rfl,I⟩ B hf2;have B:gX b c e i=some K:=B;unfold gX at B;refine al I fun a I=>?_;refine aA ?_;rcases cd B with⟨A,B⟩|⟨A,B⟩
     ·refine al I fun a I=>?_;refine aA ?_;refine al I fun a I=>?_;obtain⟨j,p,B⟩:=bd B;refine wl rfl (bE (R:=gg) I MJ MV rfl rfl 1 rfl p rfl fun V a2 Y D a I=>?_);obtain rfl:=D;refine kA I DJ fun W a0 a w O I=>?_;refine go I fun a w I=>?_;refine aN (J:=fun a w=>∃ (l:Bool),St L No T 111 [(0,d),(3,am c),(4,pt h 0),(7,d),(8,am (b.length:Int)),(9,am c),(19,f),(20,am (e.g.length:Int)),(21,am i),(63,.bool l)] [.box h (xQ e f) 150] [aT aC d b,aT gg f e.g] a w/\fB i l=some K) ?_ ?_
      ·refine al I fun a I=>?_;obtain⟨a3,q,B⟩:=bd B;refine kF I OU (Bt _ _ I.dlt b c j j.N _ I.g1 _ q) fun w a I=>?_;rcases cd B with⟨E,B⟩|⟨E,B⟩
       ·exact fz
       refine al I fun a I=>?_;rcases cd B with⟨F,B⟩|⟨F,B⟩
       ·refine al I fun a I=>?_;rcases cd B with⟨G,B⟩|⟨G,B⟩
        ·exact fz
        refine al I fun a I=>?_;rcases cd B with⟨m,B⟩|⟨m,B⟩
        ·exact fz
        refine al I fun a I=>?_;obtain⟨a4,r,B⟩:=bd B;refine wg I rfl rfl rfl m (bP I OU rfl rfl (Bt _ _ I.dlt b c j j.u1 _ I.g1 _ r) fun _ w C a O U=>?_);obtain rfl:=C;have I:=eL U;exact fz
       exact fz
      rintro a w ⟨l,I,B⟩;unfold fB at B;rcases cd B with⟨H,B⟩|⟨H,B⟩
      ·refine al I fun a I=>?_;cases B
       have hr:=hf2 _ rfl;subst hr;replace hMo2:=mP hMo2;have B:=hMo2;cases B
       have hr:=hf1 _ rfl;subst hr;replace hMo1:=mP hMo1;have B:=hMo1;cases B
       refine aH I rfl (aw I rfl aF) ?_;exact rfl
      exact fz
     exact fz
    rintro a w ⟨I,B⟩;unfold jt at B;refine aN (J:=fun a w=>∃ (k:Bool),St L No T 111 [(0,d),(7,d),(8,am (b.length:Int)),(9,am c),(106,.bool k)] [] [aT aC d b] a w/\ek c k=some n) ?_ ?_
    ·exact fz
    rintro a w ⟨k,I,B⟩;unfold ek at B;exact fz
   rintro a w ⟨I,B⟩;unfold pK at B;exact fz
  exact fz
 rintro a w ⟨I,B⟩;unfold pJ at B;exact fz
def rR (c:ByteArray) (b:Int):=some ((ah.mk b c))
def mV (c:LU) (b:Int):=cond (decide (b<0)) (some ((ah.mk 0 cr))) (cond (decide ((c.length:Int)<=b)) (some ((ah.mk 0 cr))) (cond (decide ((99:Int)<b)) (some ((ah.mk 0 cr))) ((zH b).bind fun d=>(bO c b).bind fun e=>cond e.o (rR d 32) (rR d 31))))
theorem qG (hLv:fi T L) (c:LU) (g:Int) (p:Value) (o:aI aC T L p c) (y:ah) (B:mV c g=some y):bj aR No 92 [p,am g] L (fun v w'=>v = .agg (bm y).toArray):=by
 refine en Tryz.func92 Tryz.ntmps92 hT fun a I=>?_;replace I:=(I.fact ci (fi.dn hLv)).fS (aI.dn o);unfold mV at B;refine kA I iS fun e t a w O I=>?_;refine al I fun a I=>?_;refine aA ?_;refine dW ?_;refine al I fun a I=>?_;rcases cd B with⟨k,B⟩|⟨k,B⟩
 ·refine al I fun a I=>?_;refine qy I (br (ps:=[]) I FJ iS rfl (us:=[]) trivial (ws:=[am 0,aU cr]) rfl) fun a I=>?_;refine go I fun a w I=>?_;cases B
  refine aH I rfl (rC 0 I) ?_;exact rfl
 refine al I fun a I=>?_;rcases cd B with⟨l,B⟩|⟨l,B⟩
 ·refine al I fun a I=>?_;refine qy I (br (ps:=[]) I FJ iS rfl (us:=[]) trivial (ws:=[am 0,aU cr]) rfl) fun a I=>?_;refine go I fun a w I=>?_;cases B
  refine aH I rfl (rC 0 I) ?_;exact rfl
 refine al I fun a I=>?_;rcases cd B with⟨m,B⟩|⟨m,B⟩
 ·refine al I fun a I=>?_;refine qy I (br (ps:=[]) I FJ iS rfl (us:=[]) trivial (ws:=[am 0,aU cr]) rfl) fun a I=>?_;refine go I fun a w I=>?_;cases B
  refine aH I rfl (rC 0 I) ?_;exact rfl
 refine al I fun a I=>?_;obtain⟨b,i,B⟩:=bd B;refine kE I IY (BW _ _ I.dlt I.g1 g _ i) fun w a I=>?_;refine qy I (br (ps:=[(0,.const (am 31)),(1,.tmp 20)]) I FJ iS rfl (us:=[[am 31],[aU b]]) ⟨rfl,⟨rfl,trivial⟩⟩ (ws:=[am 31,aU b]) rfl) fun a I=>?_;refine ka I iS fun f u a w O I=>?_;refine go I fun a w I=>?_;refine aN (J:=fun a w=>∃ (d:Int),St L No T 29 [(4,pt e 0),(5,pt f 0)] [.box e [am 0,aU cr] 30,.box f [am d,aU b] 30] [ci] a w/\rR b d=some y) ?_ ?_
 ·refine al I fun a I=>?_;obtain⟨s,h,B⟩:=bd B;refine wl rfl (bE (R:=aC) I A2 tY rfl rfl 0 rfl h rfl fun q x r n a I=>?_);obtain⟨z,rfl,j⟩:=n;replace I:=I.fS j;exact fz
 rintro a w ⟨d,I,B⟩;unfold rR at B;refine go I fun a w I=>?_;cases B
 refine aH I rfl (rC 0 I) ?_;exact rfl
def hS (b:Bool):=some (b)
def pm (c:LU) (b:ah):=(cY b).bind fun f=>cond f (cond (b.k != 31) (cond (b.k != 32) (hS true) ((j2 b).bind fun g=>(mV c g).bind fun d=>hS (d.k==b.k&&d.t.toList==b.t.toList))) ((j2 b).bind fun h=>(mV c h).bind fun e=>hS (e.k==b.k&&e.t.toList==b.t.toList))) (hS false)
theorem yb (hLv:fi T L) (c:LU) (b:ah) (u:Value) (s:aI aC T L u c) (y:Bool) (B:pm c b=some y):bj aR No 171 [u,.agg (bm b).toArray] L (fun v w'=>v = .bool y):=by
 refine en Tryz.func171 Tryz.ntmps171 hT fun a I=>?_;replace I:=(I.fact ci (fi.dn hLv)).fS (aI.dn s);unfold pm at B;refine kB I fun x z a w O I=>?_;refine al I fun a I=>?_;refine aN (J:=fun a w=>∃ (e:Bool),St L No T 25 [(4,.bool e)] [] [ci] a w/\hS e=some y) ?_ ?_
 ·refine dr [] I fun w hQ I=>?_;refine gE [0] I fun a I=>?_;obtain⟨A,h,B⟩:=bd B;refine ec 1 I HY (kj _ _ I.dlt b _ h) fun _ w C a O U=>?_;obtain rfl:=C;have I:=eL U;refine gE [2] I fun a I=>?_;rcases cd B with⟨o,B⟩|⟨o,B⟩
  ·refine gE [3,4,5,6] I fun a I=>?_;rcases cd B with⟨p,B⟩|⟨p,B⟩
   ·refine gE [7,8,9,10,11] I fun a I=>?_;rcases cd B with⟨d,B⟩|⟨d,B⟩
    ·refine gE [12,13,14,15,16,17,18,19,20] I fun a I=>?_;refine eD ?_;exact fin
    refine gE [12,13,16] I fun a I=>?_;obtain⟨q,j,B⟩:=bd B;refine ey (i:=14) rfl (by kernel_rfl) I rfl rfl rfl d (bP I IZ rfl rfl (pH _ _ I.dlt b _ j) fun _ w C a O U=>⟨iJ (O),?_⟩);obtain rfl:=C;have I:=eL U;obtain⟨f,l,B⟩:=bd B;refine ey (i:=15) rfl (by kernel_rfl) I rfl rfl rfl d (bP I J6 rfl rfl (qG _ _ I.dlt I.g1 c q _ I.g0 _ l) fun _ w C a O U=>⟨iJ (O),?_⟩);obtain rfl:=C;have I:=eL U;refine dg 17 I d (v:=.bool (f.k==b.k&&f.t.toList==b.t.toList)) (H2 I rfl rfl) fun a I=>?_;refine gE [18,19,20] I fun a I=>?_;refine eD ?_;exact fin
   refine gE [7,8,9,10,11,12,13,16] I fun a I=>?_;obtain⟨r,m,B⟩:=bd B;refine ey (i:=14) rfl (by kernel_rfl) I rfl rfl rfl rfl (bP I IZ rfl rfl (pH _ _ I.dlt b _ m) fun _ w C a O U=>⟨iJ (O),?_⟩);obtain rfl:=C;have I:=eL U;obtain⟨g,n,B⟩:=bd B;refine ey (i:=15) rfl (by kernel_rfl) I rfl rfl rfl rfl (bP I J6 rfl rfl (qG _ _ I.dlt I.g1 c r _ I.g0 _ n) fun _ w C a O U=>⟨iJ (O),?_⟩);obtain rfl:=C;have I:=eL U;refine dg 17 I rfl (v:=.bool (g.k==b.k&&g.t.toList==b.t.toList)) (H2 I rfl rfl) fun a I=>?_;refine gE [18,19,20] I fun a I=>?_;refine eD ?_;exact fin
  refine gE [3,4,5,6,7,8,9,10,11,12,13,14,15,16,17,18,19,20] I fun a I=>?_;refine eD ?_;exact fin
 rintro a w ⟨e,I,B⟩;unfold hS at B;exact fz
def tz:Option Int:=some (0)
def nb (d:LU) (b:LK) (c:Int):Option (Fl (Int) (Fl (Unit) Int)):=cond (decide (c<(b.length:Int))) ((bO b c).bind fun e=>(pm d e).bind fun f=>cond (!(f)) (some (.out (.out 40))) (some (.go (IntKind.i64.wrap (c+1))))) (some (.out (.go ())))
def na (c:LU) (f:ao) (b:LK):=(rS c).bind fun d=>cond (!(d)) (some (41)) ((ge f).bind fun e=>cond (!(e)) (some (42)) (cond (decide ((32:Int)<(b.length:Int))) (some (3)) ((loop (fun s:Int=>nb c b s) 0).bind fun r=>Fl.el r (fun s=>tz) (fun y=>some (y)))))
theorem uq (hLv:fi T L) (b:LU) (e:ao) (c:LK) (k D:Value) (E l:Value) (u:aI aC T L k b) (x:aI ab T L D e.i) (z:aI aa T L E e.s) (A:aI ac T L l c) (y:Int) (B:na b e c=some y):bj aR No 117 [k,.agg (bp e D E).toArray,l] L (fun v w'=>v=am y):=by
 refine en Tryz.func117 Tryz.ntmps117 hT fun a I=>?_;replace I:=((((I.fact ci (fi.dn hLv)).fS (aI.dn u)).fS (aI.dn x)).fS (aI.dn z)).fS (aI.dn A);unfold na at B;refine kB I fun F N a w O I=>?_;refine al I fun a I=>?_;refine aA ?_;refine al I fun a I=>?_;obtain⟨V,h,B⟩:=bd B;refine kF I Rt (DZ _ _ I.dlt b _ I.g3 _ h) fun w a I=>?_;rcases cd B with⟨n,B⟩|⟨n,B⟩
 ·exact fz
 refine al I fun a I=>?_;obtain⟨W,j,B⟩:=bd B;refine kF I Ns (rr _ _ I.dlt I.g4 e _ _ I.g2 I.g1 _ j) fun w a I=>?_;rcases cd B with⟨o,B⟩|⟨o,B⟩
 ·exact fz
 refine al I fun a I=>?_;rcases cd B with⟨p,B⟩|⟨p,B⟩
 ·exact fz
 refine al I fun a I=>?_;refine aN (J:=fun a w=>St L No T 32 [] [] [ci] a w/\tz=some y) ?_ ?_
 ·refine al I fun a I=>?_;obtain⟨X,t,hMo1⟩:=bd B;refine bH _ (fun s a w=>∃ (d:Int),d=s/\St L No T 32 [(0,k),(21,l),(22,am (c.length:Int)),(23,am d)] [] [aT aC k b,aT ac l c,ci] a w) t ⟨_,rfl,I.mt [] [3,0,4]⟩ ?_;rintro s a w M ⟨d,rfl,I⟩ B hf1;have B:nb b c d=some M:=B;unfold nb at B;refine al I fun a I=>?_;refine aA ?_;rcases cd B with⟨q,B⟩|⟨q,B⟩
  ·refine al I fun a I=>?_;refine aA ?_;refine al I fun a I=>?_;obtain⟨m,f,B⟩:=bd B;refine wl rfl (bE (R:=ac) I qR iQ rfl rfl 1 rfl f rfl fun G Q K r a I=>?_);obtain rfl:=r;refine kA I iS fun H P a w O I=>?_;refine go I fun a w I=>?_;obtain⟨S,g,B⟩:=bd B;refine kE I OO (yb _ _ I.dlt I.g3 b m _ I.g1 _ g) fun w a I=>?_;exact fz
  exact fz
 rintro a w ⟨I,B⟩;unfold tz at B;exact fz
def lJ (b:LU):=some (b)
def jA (e d:LU) (c:Int):Option (Fl (LU×Int) (LU)):=cond (decide (c<(e.length:Int))) ((bO e c).bind fun b=>gd (ce (([]:List fZ).length+b.g.length)) <| gd (ce (d.length+([(aX.mk b.o (([]:List fZ)++b.g) b.p b.C)]).length)) <| some (.go ((d++([(aX.mk b.o (([]:List fZ)++b.g) b.p b.C)])),IntKind.i64.wrap (c+1)))) (some (.out d))
def mb (b:LU):=(loop (fun s:LU×Int=>jA b s.1 s.2) (([]:List aX),0)).bind fun r=>lJ r
theorem Ab (h:LU) (r:Value) (F:aI aC T L r h) (y:LU) (B:mb h=some y):bj aR No 182 [r] L (fun v w'=>∃ (D:Value) (dG:bK),v=D/\kJ aC T L w' [cB D dG] 150 D dG y):=by
 refine en Tryz.func182 Tryz.ntmps182 hT fun a I=>?_;replace I:=I.fS (aI.dn F);unfold mb at B;refine al I fun a I=>?_;refine aN (J:=fun a w=>∃ (k:LU) (f:Value) (d:LV),St L No T 22 [(3,f)] [cB f d] [ap aC d k] a w/\lJ k=some y) ?_ ?_
 ·refine al I fun a I=>?_;replace I:=I.zn aC 150 (by decide);obtain⟨Y,E,hMo1⟩:=bd B;refine bH _ (fun s a w=>∃ (c:LU) (e:Int) (l:Value) (j:LV),(c,e)=s/\St L No T 22 [(3,l),(6,r),(7,am (h.length:Int)),(8,am e)] [cB l j] [ap aC j c,aT aC r h] a w) E ⟨_,_,_,_,rfl,I.mt [0] [0,1]⟩ ?_;rintro s a w Q ⟨c,e,l,j,rfl,I⟩ B hf1;have B:jA h c e=some Q:=B;unfold jA at B;refine al I fun a I=>?_;refine aA ?_;rcases cd B with⟨t,B⟩|⟨t,B⟩
  ·refine al I fun a I=>?_;refine aA ?_;refine al I fun a I=>?_;obtain⟨b,n,B⟩:=bd B;refine wl rfl (bE (R:=aC) I A2 tY rfl rfl 1 rfl n rfl fun G V M u a I=>?_);obtain⟨W,rfl,q⟩:=u;replace I:=I.fS q;refine kA I we fun H S a w O I=>?_;refine go I fun a w I=>?_;replace I:=I.zn gg 147 (by decide);obtain⟨z,B⟩:=aP B;refine wl rfl (bR (R:=gg) (xs:=([]:List fZ)) (ys:=b.g) I Lh (by decide) (by decide) rfl rfl 0 rfl 0 rfl 1 rfl z rfl fun m N a w O I=>?_);refine go I fun a w I=>?_;refine wl rfl (bf (ps:=[(0,.tmp 17)]) I NG we (zl:=[.bool false,.slice none 0 0,am 0,am 0]) (by kernel_rfl) rfl (us:=[(xQ b m)]) ⟨rfl,trivial⟩ (ws:=(xQ b m)) rfl rfl rfl rfl fun K a w O I=>?_);replace I:=I.zf (R:=gg) 1 rfl 0 rfl;replace I:=(I.lit (R:=aC) (us:=(xQ b m)) (xs:=[(aX.mk b.o (([]:List fZ)++b.g) b.p b.C)]) 0 rfl (by decide) (aJ (R:=aC) (x:=(aX.mk b.o (([]:List fZ)++b.g) b.p b.C)) (⟨_,rfl,I.g0⟩)) rfl rfl).zf (R:=aC) 0 rfl 0 rfl;obtain⟨A,B⟩:=aP B;refine wl rfl (bR (R:=aC) (xs:=c) (ys:=[(aX.mk b.o (([]:List fZ)++b.g) b.p b.C)]) I NG (by decide) (by decide) rfl rfl 1 rfl 7 rfl 0 rfl A rfl fun X P a w O I=>?_);exact fz
  exact fz
 rintro a w ⟨k,f,d,I,B⟩;unfold lJ at B;refine al I fun a I=>?_;cases B
 refine aH I rfl (aw I rfl aF) ?_;exact⟨f,d,rfl,I.zo ⟨.inr (aD (i:=0) rfl),trivial⟩ 0 rfl 0 rfl⟩
def dj (b:LF):=some (b)
def cA (f e:LF) (c:Int):Option (Fl (LF×Int) (LF)):=cond (decide (c<(f.length:Int))) ((bO f c).bind fun b=>gd (ce (([]:List ah).length+b.v.length)) <| gd (ce (([]:List ByteArray).length+b.q.length)) <| gd (ce (e.length+([(cb.mk b.d b.y b.s1 (([]:List ah)++b.v) (([]:List ByteArray)++b.q))]).length)) <| some (.go ((e++([(cb.mk b.d b.y b.s1 (([]:List ah)++b.v) (([]:List ByteArray)++b.q))])),IntKind.i64.wrap (c+1)))) (some (.out e))
def fp (b:LF):=(loop (fun s:LF×Int=>cA b s.1 s.2) (([]:List cb),0)).bind fun r=>dj r
theorem yR (h:LF) (A:Value) (N:aI aB T L A h) (y:LF) (B:fp h=some y):bj aR No 183 [A] L (fun v w'=>∃ (K:Value) (dG:bK),v=K/\kJ aB T L w' [eM K dG] 202 K dG y):=by
 refine en Tryz.func183 Tryz.ntmps183 hT fun a I=>?_;replace I:=I.fS (aI.dn N);unfold fp at B;refine al I fun a I=>?_;refine aN (J:=fun a w=>∃ (k:LF) (g:Value) (e:LV),St L No T 26 [(3,g)] [eM g e] [ap aB e k] a w/\dj k=some y) ?_ ?_
 ·refine al I fun a I=>?_;replace I:=I.zn aB 202 (by decide);obtain⟨r1,M,hMo1⟩:=bd B;refine bH _ (fun s a w=>∃ (c:LF) (f:Int) (m:Value) (j:LV),(c,f)=s/\St L No T 26 [(3,m),(6,A),(7,am (h.length:Int)),(8,am f)] [eM m j] [ap aB j c,aT aB A h] a w) M ⟨_,_,_,_,rfl,I.mt [0] [0,1]⟩ ?_;rintro s a w Y ⟨c,f,m,j,rfl,I⟩ B hf1;have B:cA h c f=some Y:=B;unfold cA at B;refine al I fun a I=>?_;refine aA ?_;rcases cd B with⟨D,B⟩|⟨D,B⟩
  ·refine al I fun a I=>?_;refine aA ?_;refine al I fun a I=>?_;obtain⟨b,t,B⟩:=bd B;refine wl rfl (bE (R:=aB) I w8 xa rfl rfl 1 rfl t rfl fun P a0 S E a I=>?_);obtain⟨a1,r,rfl,u,z⟩:=E;replace I:=(I.fS u).fS z;refine kA I vc fun p Z a w O I=>?_;refine go I fun a w I=>?_;refine aA ?_;replace I:=(I.zn ac 30 (by decide)).zn aO.str 9 (by decide);refine dr [(2,.blk (Value.ownBlock (.slice none 0 0))),(5,.blk (Value.ownBlock (.slice none 0 0))),(7,.blk (some p)),(9,.blk (some p))] I fun w hQ I=>?_;refine gE [0,1,3] I fun a I=>?_;refine dq 4 I (l:=[.blk (Value.ownBlock (.slice none 0 0))]) (v:=r) (eA I rfl Iu 2 rfl (iU I 2 rfl rfl 0 rfl rfl (by decide) cc) (us:=[r]) rfl rfl (fun _=>rfl)) fun a I=>?_;obtain⟨F,B⟩:=aP B;refine e1 2 (bR (R:=ac) (xs:=([]:List ah)) (ys:=b.v) I lr (by decide) (by decide) rfl rfl 1 rfl 1 rfl 3 rfl F rfl fun n V a w O I=>⟨lw rfl O kL,?_⟩);refine gE [6] I fun a I=>?_;obtain⟨G,B⟩:=aP B;refine e1 5 (bR (R:=aO.str) (xs:=([]:List ByteArray)) (ys:=b.q) I BG (by decide) (by decide) rfl rfl 0 rfl 1 rfl 3 rfl G rfl fun o W a w O I=>⟨lw rfl O kL,?_⟩);refine es 7 I fun w I=>?_;refine gE [8] I fun a I=>?_;refine es 9 I fun w I=>?_;refine eD ?_;refine al I fun a I=>?_;refine wl rfl (bf (ps:=[(0,.tmp 21)]) I zD vc (zl:=[am 0,aU cr,.bool false,am 0,.slice none 0 0,.slice none 0 0]) (by kernel_rfl) rfl (us:=[(nS b n o)]) ⟨rfl,trivial⟩ (ws:=(nS b n o)) rfl rfl rfl rfl fun Q a w O I=>?_);replace I:=(I.zf (R:=ac) 2 rfl 1 rfl).zf (R:=aO.str) 1 rfl 1 rfl;replace I:=(I.lit (R:=aB) (us:=(nS b n o)) (xs:=[(cb.mk b.d b.y b.s1 (([]:List ah)++b.v) (([]:List ByteArray)++b.q))]) 0 rfl (by decide) (aJ (R:=aB) (x:=(cb.mk b.d b.y b.s1 (([]:List ah)++b.v) (([]:List ByteArray)++b.q))) (⟨_,_,rfl,I.g1,I.g0⟩)) rfl rfl).zf (R:=aB) 0 rfl 0 rfl;obtain⟨H,B⟩:=aP B;refine wl rfl (bR (R:=aB) (xs:=c) (ys:=[(cb.mk b.d b.y b.s1 (([]:List ah)++b.v) (([]:List ByteArray)++b.q))]) I zD (by decide) (by decide) rfl rfl 1 rfl 11 rfl 0 rfl H rfl fun a2 X a w O I=>?_);exact fz
  exact fz
 rintro a w ⟨k,g,e,I,B⟩;unfold dj at B;refine al I fun a I=>?_;cases B
 refine aH I rfl (aw I rfl aF) ?_;exact⟨g,e,rfl,I.zo ⟨.inr (aD (i:=0) rfl),trivial⟩ 0 rfl 0 rfl⟩
def o5 (c:fj):=(mb c.a).bind fun d=>(gw c.b).bind fun e=>gd (ce (([]:List ah).length+c.i1.length)) <| (fp c.r1).bind fun f=>gd (ce (([]:List ah).length+c.z.length)) <| some ((fj.mk d e (([]:List ah)++c.i1) f (([]:List ah)++c.z)))
theorem vF (d:fj) (v1 v2:Value) (v3 v4:Value) (N P:Value) (hD:sS T L []) (a3:aI aC (dT T []) L v1 d.a) (a4:aI ab (dT T []) L v2 d.b.i) (a5:aI aa (dT T []) L v3 d.b.s) (a6:aI ac (dT T []) L v4 d.i1) (a7:aI aB (dT T []) L N d.r1) (a9:aI ac (dT T []) L P d.z) (y:fj) (B:o5 d=some y):bj aR (MD []) 140 [.agg (xR d v1 v2 v3 v4 N P).toArray] L (fun v w'=>∃ (x:Value) (Cq:bK) (A:Value) (s7:bK) (h:Value) (vj:bK) (j:Value) (e:bK) (k:Value) (f:bK) (m:Value) (g:bK),v = .agg (xR y x A h j k m).toArray/\aY aC (dT T [cB x Cq,aZ A s7,aK h vj,aE j e,eM k f,aE m g]) w' Cq y.a/\aY ab (dT T [cB x Cq,aZ A s7,aK h vj,aE j e,eM k f,aE m g]) w' s7 y.b.i/\aY aa (dT T [cB x Cq,aZ A s7,aK h vj,aE j e,eM k f,aE m g]) w' vj y.b.s/\aY ac (dT T [cB x Cq,aZ A s7,aK h vj,aE j e,eM k f,aE m g]) w' e y.i1/\aY aB (dT T [cB x Cq,aZ A s7,aK h vj,aE j e,eM k f,aE m g]) w' f y.r1/\aY ac (dT T [cB x Cq,aZ A s7,aK h vj,aE j e,eM k f,aE m g]) w' g y.z/\iq L w' [] [cB x Cq,aZ A s7,aK h vj,aE j e,eM k f,aE m g]):=by
 refine cW (c:=_) Tryz.func140 rfl T 19 Tryz.ntmps140 hT rfl hD fun a I=>?_;replace I:=(((((I.fS a3).fS a4).fS a5).fS a6).fS a7).fS a9;unfold o5 at B;refine kB I fun av b0 a w O I=>?_;refine ka I xl fun Q b1 a w O I=>?_;refine al I fun a I=>?_;refine aA ?_;replace I:=(I.zn ac 30 (by decide)).zn ac 30 (by decide);refine dr [(8,.blk (Value.ownBlock (.slice none 0 0))),(14,.blk (Value.ownBlock (.slice none 0 0))),(16,.blk (some Q))] I fun w hQ I=>?_;refine gE [0,1,3,4,6,7,9] I fun a I=>?_;refine dq 10 I (l:=[.blk (Value.ownBlock (.slice none 0 0))]) (v:=N) (eA I rfl Pi 3 rfl (iU I 3 rfl rfl 0 rfl rfl (by decide) cc) (us:=[N]) rfl rfl (fun _=>rfl)) fun a I=>?_;refine gE [12] I fun a I=>?_;refine dq 13 I (l:=[.blk (Value.ownBlock (.slice none 0 0))]) (v:=P) (eA I rfl He 3 rfl (iU I 3 rfl rfl 0 rfl rfl (by decide) cc) (us:=[P]) rfl rfl (fun _=>rfl)) fun a I=>?_;obtain⟨b2,J,B⟩:=bd B;refine ec 2 I RD (Ab _ _ I.dlt d.a _ I.g7 _ J) fun _ w C a O U=>?_;obtain⟨n,S,he,E⟩:=C;obtain rfl:=he.symm;have I:=vd U E;obtain⟨D,K,B⟩:=bd B;refine ec 5 I Cp (fE _ _ I.dlt d.b _ _ I.g7 I.g6 _ K) fun _ w C a O U=>?_;obtain⟨o,V,p,W,he,F,G,a2⟩:=C;obtain rfl:=he.symm;have I:=AC U F G a2;obtain⟨a0,B⟩:=aP B;refine e1 8 (bR (R:=ac) (xs:=([]:List ah)) (ys:=d.i1) I lr (by decide) (by decide) rfl rfl 4 rfl 3 rfl 7 rfl a0 rfl fun q X a w O I=>⟨lw rfl O kL,?_⟩);obtain⟨b3,M,B⟩:=bd B;refine ec 11 I OP (yR _ _ I.dlt d.r1 _ I.g7 _ M) fun _ w C a O U=>?_;obtain⟨t,Y,he,H⟩:=C;obtain rfl:=he.symm;have I:=vd U H;obtain⟨a1,B⟩:=aP B;refine e1 14 (bR (R:=ac) (xs:=([]:List ah)) (ys:=d.z) I lr (by decide) (by decide) rfl rfl 4 rfl 5 rfl 7 rfl a1 rfl fun u Z a w O I=>⟨lw rfl O kL,?_⟩);refine dq 15 I (v:=.agg #[n,am D.r,o,p,q,t,u]) (br (ps:=[(0,.tmp 5),(1,.tmp 8),(2,.tmp 11),(3,.tmp 14),(4,.tmp 17)]) I Mg xl rfl (us:=[[n],(bp D o p),[q],[t],[u]]) ⟨(mF (ik (I.own _ (aD (i:=3) rfl)).1)),⟨rfl,⟨(mF (ik (I.own _ (aD (i:=5) rfl)).1)),⟨(mF (ik (I.own _ (aD (i:=0) rfl)).1)),⟨(mF (ik (I.own _ (aD (i:=4) rfl)).1)),trivial⟩⟩⟩⟩⟩ (ws:=[n,am D.r,o,p,q,t,u]) rfl) fun a I=>?_;refine es 16 I fun w I=>?_;refine eD ?_;refine al I fun a I=>?_;cases B
 refine aH I rfl (rC 6 I) ?_;have hZ:=I.sl [3,1,2,5,0,4] [5,4,3,2,1,0];exact⟨n,S,o,V,p,W,q,X,t,Y,u,Z,rfl,hZ.g0,hZ.g1,hZ.g2,hZ.g3,hZ.g4,hZ.g5,hZ.zd⟩
def rY (c:LU) (e:ao) (b:LK):=(na c e b).bind fun d=>cond (d != 0) (some (((fj.mk ([]:List aX) (ao.mk 0 ([]:List bc) ([]:List ay)) ([]:List ah) ([]:List cb) ([]:List ah)),d))) ((o5 (fj.mk c e b ([]) ([]))).bind fun f=>some ((f,0)))
theorem ur (g:LU) (j:ao) (f:LK) (G H:Value) (J K:Value) (hD:sS T L []) (a3:aI aC (dT T []) L G g) (a4:aI ab (dT T []) L H j.i) (a5:aI aa (dT T []) L J j.s) (a6:aI ac (dT T []) L K f) (hLv:fi (dT T []) L) (y:fj×Int) (B:rY g j f=some y):bj aR (MD []) 87 [G,.agg (bp j H J).toArray,K] L (fun v w'=>∃ (n:Value) (Bm:bK) (o:Value) (Cq:bK) (p:Value) (s7:bK) (k:Value) (vj:bK) (l:Value) (d:bK) (m:Value) (e:bK),v = .tuple #[.agg (xR y.1 n o p k l m).toArray,am y.2]/\aY aC (dT T [cB n Bm,aZ o Cq,aK p s7,aE k vj,eM l d,aE m e]) w' Bm y.1.a/\aY ab (dT T [cB n Bm,aZ o Cq,aK p s7,aE k vj,eM l d,aE m e]) w' Cq y.1.b.i/\aY aa (dT T [cB n Bm,aZ o Cq,aK p s7,aE k vj,eM l d,aE m e]) w' s7 y.1.b.s/\aY ac (dT T [cB n Bm,aZ o Cq,aK p s7,aE k vj,eM l d,aE m e]) w' vj y.1.i1/\aY aB (dT T [cB n Bm,aZ o Cq,aK p s7,aE k vj,eM l d,aE m e]) w' d y.1.r1/\aY ac (dT T [cB n Bm,aZ o Cq,aK p s7,aE k vj,eM l d,aE m e]) w' e y.1.z/\iq L w' [] [cB n Bm,aZ o Cq,aK p s7,aE k vj,eM l d,aE m e]):=by
 refine cW (c:=_) Tryz.func87 rfl T 22 Tryz.ntmps87 hT rfl hD fun a I=>?_;replace I:=((((I.fact ci hLv).fS a3).fS a4).fS a5).fS a6;unfold rY at B;refine kB I fun a7 af a w O I=>?_;refine ka I xl fun a9 ag a w O I=>?_;refine al I fun a I=>?_;refine aA ?_;refine al I fun a I=>?_;obtain⟨ak,E,B⟩:=bd B;refine kF I KZ (uq _ _ I.dlt I.g4 g j f _ _ _ _ I.g3 I.g2 I.g1 I.g0 _ E) fun w a I=>?_;rcases cd B with⟨V,B⟩|⟨V,B⟩
 ·refine al I fun a I=>?_;refine qy I (br (ps:=[]) I Mg xl rfl (us:=[]) trivial (ws:=[.slice none 0 0,am 0,.slice none 0 0,.slice none 0 0,.slice none 0 0,.slice none 0 0,.slice none 0 0]) rfl) fun a I=>?_;refine go I fun a w I=>?_;replace I:=(((((I.zn aC 150 (by decide)).zn ab 91 (by decide)).zn aa 33 (by decide)).zn ac 30 (by decide)).zn aB 202 (by decide)).zn ac 30 (by decide);cases B
  refine aH I Tryz.results87 (bB I rfl 6 rfl uX rfl (fun h=>by cases h) (aw I rfl aF)) ?_;have hZ:=I.sl [5,4,3,2,1,0] [5,4,3,0,1];exact⟨(.slice none 0 0),[],(.slice none 0 0),[],(.slice none 0 0),[],(.slice none 0 0),[],(.slice none 0 0),[],(.slice none 0 0),[],rfl,hZ.g0,hZ.g1,hZ.g2,hZ.g3,hZ.g4,hZ.g3,hZ.zd⟩
 refine al I fun a I=>?_;refine qy I (br (ps:=[(0,.tmp 17),(1,.tmp 18),(2,.tmp 19)]) I Mg xl rfl (us:=[[G],(bp j H J),[K]]) ⟨(mF (aI.one (I.g3:aI aC _ _ _ _))),⟨rfl,⟨(mF (aI.one (I.g0:aI ac _ _ _ _))),trivial⟩⟩⟩ (ws:=[G,am j.r,H,J,K,.slice none 0 0,.slice none 0 0]) rfl) fun a I=>?_;replace I:=(I.fact (aT aB (.slice none 0 0) []) (aI.nil_ _ _ _)).fact (aT ac (.slice none 0 0) []) (aI.nil_ _ _ _);obtain⟨an,F,B⟩:=bd B;replace I:=I.re [] [0,1];refine wl rfl (ba I K3 rfl rfl (vF _ _ I.zt (fj.mk g j f ([]) ([])) _ _ _ _ _ _ I.dok I.d5 I.d4 I.d3 I.d2 I.d1 I.d0 _ F) fun _ w C a O U=>?_);obtain⟨X,M,Y,N,Z,P,a0,Q,a1,R,a2,S,he,q,t,u,x,A,D,W⟩:=C;obtain rfl:=he.symm;have I:=U _ W;replace I:=(((((I.fR (q.keep (aj _ _) (ax _))).fR (t.keep (aj _ _) (ax _))).fR (u.keep (aj _ _) (ax _))).fR (x.keep (aj _ _) (ax _))).fR (A.keep (aj _ _) (ax _))).fR (D.keep (aj _ _) (ax _));refine go I fun a w I=>?_;cases B
 refine aH I Tryz.results87 (bB I rfl 6 rfl uX rfl (fun h=>by cases h) (aw I rfl aF)) ?_;have hZ:=I.sl [0,1,2,3,4,5] [5,4,3,2,1,0];exact⟨X,M,Y,N,Z,P,a0,Q,a1,R,a2,S,rfl,hZ.g0,hZ.g1,hZ.g2,hZ.g3,hZ.g4,hZ.g5,hZ.zd⟩
def uO (k:bv) (b:LU):=(cz k 8).bind fun c=>cond (c.1==1) ((cz (bv.mk c.2.L c.2.s1) 4).bind fun e=>(o1 e.1).bind fun h=>some ((h,(bv.mk e.2.L e.2.s1)))) ((cz (bv.mk c.2.L c.2.s1) 2).bind fun d=>cond (d.1==0) ((cz (bv.mk d.2.L d.2.s1) (min 3 (b.length:Int))).bind fun f=>(mV b (IntKind.i64.wrap ((IntKind.i64.wrap ((b.length:Int)-1))-f.1))).bind fun i=>some ((i,(bv.mk f.2.L f.2.s1)))) ((cz (bv.mk d.2.L d.2.s1) (b.length:Int)).bind fun g=>(mV b g.1).bind fun j=>some ((j,(bv.mk g.2.L g.2.s1)))))
theorem GX (e:bv) (b:LU) (d W:Value) (h:Nat) (R:L.heap[h]? = some (.cells (bu e d).toArray 84 (0,0))) (Q:¬ T h) (S:aI (aO.int .i64) (dT T [.box h (bu e d) 84]) L d e.L) (V:aI aC (dT T [.box h (bu e d) 84]) L W b) (hLv:fi (dT T [.box h (bu e d) 84]) L) (y:ah×bv) (B:uO e b=some y):bj aR (fun k=>k=h) 116 [pt h 0,W] L (fun v w'=>∃ (M:Value),v = .agg (bm y.1).toArray/\w'.heap[h]? = some (.cells (bu y.2 M).toArray 84 (0,0))/\aI (aO.int .i64) (dT T [.box h (bu y.2 M) 84]) w' M y.2.L/\d=M):=by
 refine oZ (c:=_) Tryz.func116 rfl T 31 Tryz.ntmps116 hT rfl R Q fun a I=>?_;replace I:=((I.fact ci hLv).fS S).fS V;unfold uO at B;refine kA I iS fun X Y a w O I=>?_;refine al I fun a I=>?_;refine aA ?_;refine al I fun a I=>?_;obtain⟨f,A,B⟩:=bd B;refine wl rfl (bJ I oX rfl rfl 1 rfl (bU _ _ (I.drop 1).dlt e 8 _ _ (I.zb 1 rfl) (I.zi 1 rfl) (aI.lent (i:=1) rfl I.g1) _ A) fun _ w C O=>?_);obtain⟨a2,he,hrow,p,l⟩:=C;obtain rfl:=he.symm;subst l;refine⟨(bu f.2 d),hrow,fun a I=>?_⟩;replace I:=I.fS (aI.back (i:=1) rfl p);refine al I fun a I=>?_;rcases cd B with⟨N,B⟩|⟨N,B⟩
 ·refine al I fun a I=>?_;obtain⟨u,D,B⟩:=bd B;refine wl rfl (bJ I oX rfl rfl 1 rfl (bU _ _ (I.drop 1).dlt (bv.mk f.2.L f.2.s1) 4 _ _ (I.zb 1 rfl) (I.zi 1 rfl) (aI.lent (i:=1) rfl I.g0) _ D) fun _ w C O=>?_);obtain⟨a3,he,hrow,q,m⟩:=C;obtain rfl:=he.symm;subst m;refine⟨(bu u.2 d),hrow,fun a I=>?_⟩;replace I:=I.fS (aI.back (i:=1) rfl q);obtain⟨Z,E,B⟩:=bd B;refine kE I PS (vz _ _ I.dlt I.g4 u.1 _ E) fun w a I=>?_;refine go I fun a w I=>?_;cases B
  refine aH I rfl (rC 0 I) ?_;exact⟨d,rfl,I.zb 1 rfl,(aI.up ⟨.inr (aD (i:=1) rfl),trivial⟩ I.g0),rfl⟩
 refine al I fun a I=>?_;refine aA ?_;refine al I fun a I=>?_;obtain⟨g,F,B⟩:=bd B;refine wl rfl (bJ I oX rfl rfl 1 rfl (bU _ _ (I.drop 1).dlt (bv.mk f.2.L f.2.s1) 2 _ _ (I.zb 1 rfl) (I.zi 1 rfl) (aI.lent (i:=1) rfl I.g0) _ F) fun _ w C O=>?_);obtain⟨a4,he,hrow,r,n⟩:=C;obtain rfl:=he.symm;subst n;refine⟨(bu g.2 d),hrow,fun a I=>?_⟩;replace I:=I.fS (aI.back (i:=1) rfl r);refine al I fun a I=>?_;rcases cd B with⟨P,B⟩|⟨P,B⟩
 ·refine al I fun a I=>?_;refine qy I (JI I rfl rfl) fun a I=>?_;obtain⟨x,G,B⟩:=bd B;refine wl rfl (bJ I oX rfl rfl 1 rfl (bU _ _ (I.drop 1).dlt (bv.mk g.2.L g.2.s1) (min 3 (b.length:Int)) _ _ (I.zb 1 rfl) (I.zi 1 rfl) (aI.lent (i:=1) rfl I.g0) _ G) fun _ w C O=>?_);obtain⟨a5,he,hrow,s,o⟩:=C;obtain rfl:=he.symm;subst o;refine⟨(bu x.2 d),hrow,fun a I=>?_⟩;replace I:=I.fS (aI.back (i:=1) rfl s);refine al I fun a I=>?_;obtain⟨a0,H,B⟩:=bd B;refine kE I J6 (qG _ _ I.dlt I.g5 b (IntKind.i64.wrap ((IntKind.i64.wrap ((b.length:Int)-1))-x.1)) _ I.g3 _ H) fun w a I=>?_;refine go I fun a w I=>?_;cases B
  refine aH I rfl (rC 0 I) ?_;exact⟨d,rfl,I.zb 1 rfl,(aI.up ⟨.inr (aD (i:=1) rfl),trivial⟩ I.g0),rfl⟩
 refine al I fun a I=>?_;obtain⟨z,J,B⟩:=bd B;refine wl rfl (bJ I oX rfl rfl 1 rfl (bU _ _ (I.drop 1).dlt (bv.mk g.2.L g.2.s1) (b.length:Int) _ _ (I.zb 1 rfl) (I.zi 1 rfl) (aI.lent (i:=1) rfl I.g0) _ J) fun _ w C O=>?_);obtain⟨a6,he,hrow,t,j⟩:=C;obtain rfl:=he.symm;subst j;refine⟨(bu z.2 d),hrow,fun a I=>?_⟩;replace I:=I.fS (aI.back (i:=1) rfl t);obtain⟨a1,K,B⟩:=bd B;refine kE I J6 (qG _ _ I.dlt I.g5 b z.1 _ I.g3 _ K) fun w a I=>?_;refine go I fun a w I=>?_;cases B
 refine aH I rfl (rC 0 I) ?_;exact⟨d,rfl,I.zb 1 rfl,(aI.up ⟨.inr (aD (i:=1) rfl),trivial⟩ I.g0),rfl⟩
def qZ (d:LK) (b:LN) (c:Int):=some ((d,(bv.mk b c)))
def q8 (g:LU) (c:LK) (f:Int) (d:LN) (e:Int):Option (Fl (LK×Int×LN×Int) (LK×LN×Int)):=cond (decide ((0:Int)<f)) ((uO (bv.mk d e) g).bind fun b=>gd (ce (c.length+([(ah.mk b.1.k b.1.t)]).length)) <| some (.go ((c++([(ah.mk b.1.k b.1.t)])),IntKind.i64.wrap (f-1),b.2.L,b.2.s1))) (some (.out (c,d,e)))
def o0 (e:bv) (c:LU) (d:Int):=(cz e d).bind fun b=>(loop (fun s:LK×Int×LN×Int=>q8 c s.1 s.2.1 s.2.2.1 s.2.2.2) (([]:List ah),IntKind.i64.wrap (b.1+1),b.2.L,b.2.s1)).bind fun r=>qZ r.1 r.2.1 r.2.2
theorem sJ (l:bv) (d:LU) (o:Int) (j N:Value) (e:Nat) (X:L.heap[e]? = some (.cells (bu l j).toArray 84 (0,0))) (V:¬ T e) (Z:aI (aO.int .i64) (dT T [.box e (bu l j) 84]) L j l.L) (a0:aI aC (dT T [.box e (bu l j) 84]) L N d) (hLv:fi (dT T [.box e (bu l j) 84]) L) (y:LK×bv) (B:o0 l d o=some y):bj aR (fun k=>k=e) 36 [pt e 0,N,am o] L (fun v w'=>∃ (P:Value) (vl:bK) (H:Value),v=P/\kJ ac T L w' [aE P vl,.box e (bu y.2 H) 84] 30 P vl y.1/\w'.heap[e]? = some (.cells (bu y.2 H).toArray 84 (0,0))/\aI (aO.int .i64) (dT T [aE P vl,.box e (bu y.2 H) 84]) w' H y.2.L/\j=H):=by
 refine oZ (c:=_) Tryz.func36 rfl T 24 Tryz.ntmps36 hT rfl X V fun a I=>?_;replace I:=((I.fact ci hLv).fS Z).fS a0;unfold o0 at B;refine al I fun a I=>?_;refine aN (J:=fun a w=>∃ (D:LK) (z:LN) (A:Int) (p:Value) (m:LV),St L (fun k=>k=e) T 24 [(7,p)] [aE p m,.box e [j,am A] 84] [ap ac m D,aT (aO.int .i64) j z,ci] a w/\qZ D z A=some y) ?_ ?_
 ·refine al I fun a I=>?_;obtain⟨W,M,B⟩:=bd B;refine wl rfl (bJ I oX rfl rfl 0 rfl (bU _ _ (I.drop 0).dlt l o _ _ (I.zb 0 rfl) (I.zi 0 rfl) (aI.lent (i:=0) rfl I.g1) _ M) fun _ w C O=>?_);obtain⟨a4,he,hrow,F,q⟩:=C;obtain rfl:=he.symm;subst q;refine⟨(bu W.2 j),hrow,fun a I=>?_⟩;replace I:=I.fS (aI.back (i:=0) rfl F);refine al I fun a I=>?_;replace I:=I.zn ac 30 (by decide);obtain⟨r1,Y,hMo1⟩:=bd B;refine bH _ (fun s a w=>∃ (h:LK) (n:Int) (f:LN) (g:Int) (E:Value) (u:LV),(h,n,f,g)=s/\St L (fun k=>k=e) T 24 [(0,pt e 0),(1,N),(7,E),(8,am n)] [aE E u,.box e [j,am g] 84] [aT aC N d,ap ac u h,aT (aO.int .i64) j f,ci] a w) Y ⟨_,_,_,_,_,_,rfl,I.mt [0,1] [2,0,1,4]⟩ ?_;rintro s a w f1 ⟨h,n,f,g,E,u,rfl,I⟩ B hf1;have B:q8 d h n f g=some f1:=B;unfold q8 at B;refine aA ?_;refine al I fun a I=>?_;rcases cd B with⟨Q,B⟩|⟨Q,B⟩
  ·refine al I fun a I=>?_;refine aA ?_;refine al I fun a I=>?_;obtain⟨b,K,B⟩:=bd B;refine wl rfl (bJ I Q4 rfl rfl 1 rfl (GX _ _ (I.drop 1).dlt (bv.mk f g) d _ _ _ (I.zb 1 rfl) (I.zi 1 rfl) (aI.lent (i:=1) rfl I.g2) (aI.lent (i:=1) rfl I.g0) (ci.keep I.g3 (aj _ _) (fun k O=>.inl ((nO (i:=1) rfl k).1 O))) _ K) fun _ w C O=>?_);obtain⟨a5,he,hrow,G,r⟩:=C;obtain rfl:=he.symm;subst r;refine⟨(bu b.2 j),hrow,fun a I=>?_⟩;replace I:=I.fS (aI.back (i:=1) rfl G);refine wl rfl (bf (ps:=[(0,.tmp 20)]) I lr iS (zl:=[am 0,aU cr]) (by kernel_rfl) rfl (us:=[(bm b.1)]) ⟨rfl,trivial⟩ (ws:=(bm b.1)) rfl rfl rfl rfl fun a1 a w O I=>?_);replace I:=(I.lit (R:=ac) (us:=(bm b.1)) (xs:=[(ah.mk b.1.k b.1.t)]) 0 rfl (by decide) (aJ (R:=ac) (x:=(ah.mk b.1.k b.1.t)) rfl) rfl rfl).zf (R:=ac) 0 rfl 0 rfl;obtain⟨S,B⟩:=aP B;refine wl rfl (bR (R:=ac) (xs:=h) (ys:=[(ah.mk b.1.k b.1.t)]) I lr (by decide) (by decide) rfl rfl 0 rfl 4 rfl 0 rfl S rfl fun a6 a2 a w O I=>?_);refine al I fun a I=>?_;exact fin
  refine al I fun a I=>?_;cases B
  have hr:=hf1 _ rfl;subst hr;have B:qZ h f g=some y:=hMo1;exact fin
 rintro a w ⟨D,z,A,p,m,I,B⟩;unfold qZ at B;refine al I fun a I=>?_;cases B
 refine aH I rfl (aw I rfl aF) ?_;exact⟨p,m,j,rfl,I.zm ⟨.inr (aD (i:=0) rfl),⟨.inr (aD (i:=1) rfl),trivial⟩⟩ 0 rfl 0 rfl 1 rfl (by decide),I.zb 1 rfl,(aI.up ⟨.inr (aD (i:=0) rfl),⟨.inr (aD (i:=1) rfl),trivial⟩⟩ I.g1),rfl⟩
def uk:=some (((ay.mk (ah.mk 0 cr) cr ([]) 0 0 0 false),false))
def kk (f:LR) (e:ah) (c:Int):Option (Fl (Int) (Fl (Unit) (ay×Bool))):=cond (decide (c<(f.length:Int))) ((bO f c).bind fun b=>cond (b.d.k==e.k&&b.d.t.toList==e.t.toList) ((iY b).bind fun g=>some (.out (.out (g,true)))) (some (.go (IntKind.i64.wrap (c+1))))) (some (.out (.go ())))
def c8 (c:LR) (b:ah):=(loop (fun s:Int=>kk c b s) 0).bind fun r=>Fl.el r (fun s=>uk) (fun y=>some (y))
theorem cx (f:LR) (b:ah) (p:Value) (E:aI aa T L p f) (y:ay×Bool) (B:c8 f b=some y):bj aR No 40 [p,.agg (bm b).toArray] L (fun v w'=>∃ (A:Value) (dG:bK),v = .tuple #[.agg (bA y.1 A).toArray,.bool y.2]/\kJ ac T L w' [aE A dG] 30 A dG y.1.v):=by
 refine en Tryz.func40 Tryz.ntmps40 hT fun a I=>?_;replace I:=I.fS (aI.dn E);unfold c8 at B;refine kB I fun j M a w O I=>?_;refine ka I f0 fun c N a w O I=>?_;refine al I fun a I=>?_;refine aN (J:=fun a w=>St L No T 22 [(4,pt c 0)] [.box c [am 0,aU cr,aU cr,.slice none 0 0,am 0,am 0,am 0,.bool false] 33] [] a w/\uk=some y) ?_ ?_
 ·refine al I fun a I=>?_;obtain⟨W,D,hMo1⟩:=bd B;refine bH _ (fun s a w=>∃ (e:Int),e=s/\St L No T 22 [(3,pt j 0),(4,pt c 0),(8,p),(9,am (f.length:Int)),(10,am e)] [.box j (bm b) 30,.box c [am 0,aU cr,aU cr,.slice none 0 0,am 0,am 0,am 0,.bool false] 33] [aT aa p f] a w) D ⟨_,rfl,I.mt [1,0] [0]⟩ ?_;rintro s a w K ⟨e,rfl,I⟩ B hf1;have B:kk f b e=some K:=B;unfold kk at B;refine al I fun a I=>?_;refine aA ?_;rcases cd B with⟨r,B⟩|⟨r,B⟩
  ·refine al I fun a I=>?_;refine aA ?_;refine al I fun a I=>?_;obtain⟨g,m,B⟩:=bd B;refine wl rfl (bE (R:=aa) I qQ oy rfl rfl 0 rfl m rfl fun F Q H u a I=>?_);obtain⟨V,rfl,o⟩:=u;replace I:=I.fS o;refine kA I f0 fun G P a w O I=>?_;refine go I fun a w I=>?_;refine wl rfl (ky (v:=.bool (g.d.k==b.k&&g.d.t.toList==b.t.toList)) I (H2 I rfl rfl) rfl rfl fun a I=>?_);refine al I fun a I=>?_;rcases cd B with⟨x,B⟩|⟨x,B⟩
   ·refine al I fun a I=>?_;obtain⟨S,n,B⟩:=bd B;refine kc I IV (oM _ _ I.dlt g _ I.g0 _ n) fun _ w C a O U=>?_;obtain⟨z,q,he,l⟩:=C;obtain rfl:=he.symm;have I:=vd U l;refine go I fun a w I=>?_;cases B
    have hr:=hf1 _ rfl;subst hr;replace hMo1:=mP hMo1;have B:=hMo1;cases B
    refine aH I Tryz.results40 (bB I rfl 3 rfl oy rfl (fun h=>by cases h) (aw I rfl aF)) ?_;exact⟨z,q,rfl,I.zo ⟨.inr (aD (i:=0) rfl),trivial⟩ 0 rfl 0 rfl⟩
   exact fz
  exact fz
 rintro a w ⟨I,B⟩;unfold uk at B;refine al I fun a I=>?_;refine qy I (br (ps:=[]) I N1 f0 rfl (us:=[]) trivial (ws:=[am 0,aU cr,aU cr,.slice none 0 0,am 0,am 0,am 0,.bool false]) rfl) fun a I=>?_;refine go I fun a w I=>?_;cases B
 refine aH I Tryz.results40 (bB I rfl 0 rfl oy rfl (fun h=>by cases h) (aw I rfl aF)) ?_;exact⟨.slice none 0 0,[],rfl,ft _ _ _ _ _ _⟩
def vA:=some (false)
def nE (e:LK) (d:ah) (b:Int):Option (Fl (Int) (Fl (Unit) Bool)):=cond (decide (b<(e.length:Int))) ((bO e b).bind fun c=>cond (c.k==d.k&&c.t.toList==d.t.toList) (some (.out (.out true))) (some (.go (IntKind.i64.wrap (b+1))))) (some (.out (.go ())))
def qF (c:LK) (b:ah):=(loop (fun s:Int=>nE c b s) 0).bind fun r=>Fl.el r (fun s=>vA) (fun y=>some (y))
theorem wM (d:LK) (b:ah) (h:Value) (m:aI ac T L h d) (y:Bool) (B:qF d b=some y):bj aR No 38 [h,.agg (bm b).toArray] L (fun v w'=>v = .bool y):=by
 refine en Tryz.func38 Tryz.ntmps38 hT fun a I=>?_;replace I:=I.fS (aI.dn m);unfold qF at B;refine kB I fun e r a w O I=>?_;refine al I fun a I=>?_;refine aN (J:=fun a w=>St L No T 17 [] [] [] a w/\vA=some y) ?_ ?_
 ·refine al I fun a I=>?_;obtain⟨z,l,hMo1⟩:=bd B;refine bH _ (fun s a w=>∃ (c:Int),c=s/\St L No T 17 [(3,pt e 0),(7,h),(8,am (d.length:Int)),(9,am c)] [.box e (bm b) 30] [aT ac h d] a w) l ⟨_,rfl,I.mt [0] [0]⟩ ?_;rintro s a w q ⟨c,rfl,I⟩ B hf1;have B:nE d b c=some q:=B;unfold nE at B;refine al I fun a I=>?_;refine aA ?_;rcases cd B with⟨i,B⟩|⟨i,B⟩
  ·refine al I fun a I=>?_;refine aA ?_;refine al I fun a I=>?_;obtain⟨f,g,B⟩:=bd B;refine wl rfl (bE (R:=ac) I qR iQ rfl rfl 0 rfl g rfl fun n x p j a I=>?_);obtain rfl:=j;refine kA I iS fun o u a w O I=>?_;refine go I fun a w I=>?_;refine wl rfl (ky (v:=.bool (f.k==b.k&&f.t.toList==b.t.toList)) I (H2 I rfl rfl) rfl rfl fun a I=>?_);exact fz
  exact fz
 rintro a w ⟨I,B⟩;unfold vA at B;exact fz
def oP (b:(List eB)):=some (b)
def oQ (b:Int) (c:(List eB)):Option (Fl ((List eB)×Int) ((List eB))):=some (.go (c,IntKind.i64.wrap (b+1)))
def l8 (b:Int) (c:(List eB)):Option (Fl ((List eB)×Int) ((List eB))):=some (.go (c,IntKind.i64.wrap (b+1)))
def jP (f:LK) (e:ah) (g:(ay×Bool)) (c:(List eB)) (b:Int):=cond (decide (b<(g.1.v.length:Int))) ((bO g.1.v b).bind fun d=>(qF f d).bind fun h=>cond (!(h)) (gd (ce (c.length+([(eB.mk e d)]).length)) <| l8 b (c++([(eB.mk e d)]))) (l8 b c)) (some (.out c))
def l9 (g:LR) (b:LK) (e:(List eB)) (c:Int):=cond (decide (c<(b.length:Int))) ((bO b c).bind fun d=>(c8 g d).bind fun f=>(loop (fun s:(List eB)×Int=>jP b d f s.1 s.2) (e,0)).bind fun r=>oQ c r) (some (.out e))
def j7 (c:LR) (b:LK):=(loop (fun s:(List eB)×Int=>l9 c b s.1 s.2) (([]:List eB),0)).bind fun r=>oP r
theorem pP (j:LR) (b:LK) (n f:Value) (an:aI aa T L n j) (av:aI ac T L f b) (y:(List eB)) (B:j7 j b=some y):bj aR No 211 [n,f] L (fun v w'=>∃ (v3:Value) (sG:bK),v=v3/\kJ iA T L w' [oJ v3 sG] 257 v3 sG y):=by
 refine en Tryz.func211 Tryz.ntmps211 hT fun a I=>?_;replace I:=(I.fS (aI.dn an)).fS (aI.dn av);unfold j7 at B;refine al I fun a I=>?_;refine aN (J:=fun a w=>∃ (G:(List eB)) (u:Value) (p:LV),St L No T 44 [(5,u)] [oJ u p] [ap iA p G] a w/\oP G=some y) ?_ ?_
 ·refine al I fun a I=>?_;replace I:=I.zn iA 257 (by decide);obtain⟨r1,ag,hMo1⟩:=bd B;refine bH _ (fun s a w=>∃ (r:(List eB)) (e:Int) (M:Value) (A:LV),(r,e)=s/\St L No T 44 [(0,n),(1,f),(5,M),(12,f),(13,am (b.length:Int)),(14,am e)] [oJ M A] [aT aa n j,aT ac f b,ap iA A r] a w) ag ⟨_,_,_,_,rfl,I.mt [0] [2,1,0]⟩ ?_;rintro s a w f1 ⟨r,e,M,A,rfl,I⟩ B hf1;have B:l9 j b r e=some f1:=B;unfold l9 at B;refine al I fun a I=>?_;refine aA ?_;rcases cd B with⟨Z,B⟩|⟨Z,B⟩
  ·refine al I fun a I=>?_;refine aN (J:=fun a w=>∃ (H:(List eB)) (N:Value) (D:LV),St L No T 44 [(0,n),(1,f),(5,N),(12,f),(13,am (b.length:Int)),(14,am e)] [oJ N D] [aT aa n j,aT ac f b,ap iA D H] a w/\oQ e H=some f1) ?_ ?_
   ·refine al I fun a I=>?_;obtain⟨c,V,B⟩:=bd B;refine wl rfl (bE (R:=ac) I qR iQ rfl rfl 1 rfl V rfl fun b0 bi b5 a0 a I=>?_);obtain rfl:=a0;refine kA I iS fun o b8 a w O I=>?_;refine go I fun a w I=>?_;obtain⟨m,X,B⟩:=bd B;refine kc I tK (cx _ _ I.dlt j c _ I.g1 _ X) fun _ w C a O U=>?_;obtain⟨z,q,he,S⟩:=C;obtain rfl:=he.symm;have I:=vd U S;refine kA I f0 fun b1 b9 a w O I=>?_;refine go I fun a w I=>?_;obtain⟨r2,ak,hMo2⟩:=bd B;refine bH _ (fun s a w=>∃ (l:(List eB)) (g:Int) (P:Value) (E:LV),(l,g)=s/\St L No T 44 [(0,n),(1,f),(5,P),(7,pt o 0),(12,f),(13,am (b.length:Int)),(14,am e),(25,z),(26,am (m.1.v.length:Int)),(27,am g)] [oJ P E,aE z q,.box o (bm c) 30] [aT aa n j,aT ac f b,ap iA E l,ap ac q m.1.v] a w) ak ⟨_,_,_,_,rfl,I.mt [3,1,2] [2,3,4,0]⟩ ?_;rintro s a w f2 ⟨l,g,P,E,rfl,I⟩ B hf2;have B:jP b c m l g=some f2:=B;unfold jP at B;refine al I fun a I=>?_;refine aA ?_;rcases cd B with⟨a1,B⟩|⟨a1,B⟩
    ·refine al I fun a I=>?_;refine aN (J:=fun a w=>∃ (K:(List eB)) (Q:Value) (F:LV),St L No T 44 [(0,n),(1,f),(5,Q),(7,pt o 0),(12,f),(13,am (b.length:Int)),(14,am e),(25,z),(26,am (m.1.v.length:Int)),(27,am g)] [oJ Q F,aE z q,.box o (bm c) 30] [aT aa n j,aT ac f b,ap iA F K,ap ac q m.1.v] a w/\l8 g K=some f2) ?_ ?_
     ·refine al I fun a I=>?_;obtain⟨d,W,B⟩:=bd B;refine wl rfl (fo (R:=ac) I qR iQ rfl rfl 1 rfl 3 rfl W rfl fun b2 bl bs b6 a2 a3 a4 a I=>?_);obtain rfl:=a2;refine qy I (cK (k:=0) I iQ 1 rfl a3 a4 rfl id (us:=(bm d)) rfl rfl (fun h=>by cases h)) fun a I=>?_;refine ka I iS fun b3 bb a w O I=>?_;refine go I fun a w I=>?_;obtain⟨bt,Y,B⟩:=bd B;refine kF I PM (wM _ _ I.dlt b d _ I.g1 _ Y) fun w a I=>?_;rcases cd B with⟨a5,B⟩|⟨a5,B⟩
      ·refine al I fun a I=>?_;refine qy I (br (ps:=[(0,.tmp 36),(1,.tmp 37)]) I SA JT rfl (us:=[(bm c),(bm d)]) ⟨rfl,⟨rfl,trivial⟩⟩ (ws:=[am c.k,aU c.t,am d.k,aU d.t]) rfl) fun a I=>?_;refine wl rfl (bf (ps:=[(0,.tmp 38)]) I O6 JT (zl:=[am 0,aU cr,am 0,aU cr]) (by kernel_rfl) rfl (us:=[[am c.k,aU c.t,am d.k,aU d.t]]) ⟨rfl,trivial⟩ (ws:=[am c.k,aU c.t,am d.k,aU d.t]) rfl rfl rfl rfl fun b4 a w O I=>?_);replace I:=(I.lit (R:=iA) (us:=[am c.k,aU c.t,am d.k,aU d.t]) (xs:=[(eB.mk c d)]) 0 rfl (by decide) (aJ (R:=iA) (x:=(eB.mk c d)) rfl) rfl rfl).zf (R:=iA) 0 rfl 0 rfl;obtain⟨a6,B⟩:=aP B;refine wl rfl (bR (R:=iA) (xs:=l) (ys:=[(eB.mk c d)]) I O6 (by decide) (by decide) rfl rfl 1 rfl 4 rfl 0 rfl a6 rfl fun c1 b7 a w O I=>?_);exact fz
      exact fz
     rintro a w ⟨K,Q,F,I,B⟩;unfold l8 at B;exact fz
    exact fz
   rintro a w ⟨H,N,D,I,B⟩;unfold oQ at B;exact fz
  exact fz
 rintro a w ⟨G,u,p,I,B⟩;unfold oP at B;refine al I fun a I=>?_;cases B
 refine aH I rfl (aw I rfl aF) ?_;exact⟨u,p,rfl,I.zo ⟨.inr (aD (i:=0) rfl),trivial⟩ 0 rfl 0 rfl⟩
def so (b:LK):=some (b)
def jO (b:Int) (c:LK):Option (Fl (LK×Int) (LK)):=some (.go (c,IntKind.i64.wrap (b+1)))
def ga (c:LK) (e:Int) (d:ah) (f:Int) (h:Bool):=cond h ((uV c 0 f).bind fun b=>(uV c f c.length).bind fun g=>gd (ce (([]:List ah).length+b.length)) <| gd (ce ((([]:List ah)++b).length+([d]).length)) <| gd (ce (((([]:List ah)++b)++([d])).length+g.length)) <| jO e (((([]:List ah)++b)++([d]))++g)) (jO e c)
def lZ (d:LK) (f:Int) (b:ah) (c:Int):=cond (c==(d.length:Int)) (ga d f b c true) ((bO d c).bind fun e=>ga d f b c (!(e.k==b.k&&e.t.toList==b.t.toList)))
def ix (c:LK) (d:ah) (b:Int):Option (Fl (Int) (Int)):=cond (decide (b<(c.length:Int))) ((bO c b).bind fun e=>(kV e d).bind fun f=>cond (decide (f<0)) (some (.go (IntKind.i64.wrap (b+1)))) (some (.out b))) (some (.out b))
def oK (e c:LK) (b:Int):=cond (decide (b<(e.length:Int))) ((bO e b).bind fun d=>(loop (fun s:Int=>ix c d s) 0).bind fun r=>lZ c b d r) (some (.out c))
def lG (b:LK):=(loop (fun s:LK×Int=>oK b s.1 s.2) (([]:List ah),0)).bind fun r=>so r
theorem wN (hLv:fi T L) (e:LK) (o:Value) (c2:aI ac T L o e) (y:LK) (B:lG e=some y):bj aR No 119 [o] L (fun v w'=>∃ (v2:Value) (dG:bK),v=v2/\kJ ac T L w' [aE v2 dG] 30 v2 dG y):=by
 refine en Tryz.func119 Tryz.ntmps119 hT fun a I=>?_;replace I:=(I.fact ci (fi.dn hLv)).fS (aI.dn c2);unfold lG at B;refine al I fun a I=>?_;refine aN (J:=fun a w=>∃ (M:LK) (D:Value) (q:LV),St L No T 53 [(3,D)] [aE D q] [ap ac q M,ci] a w/\so M=some y) ?_ ?_
 ·refine al I fun a I=>?_;replace I:=I.zn ac 30 (by decide);obtain⟨r1,bt,hMo1⟩:=bd B;refine bH _ (fun s a w=>∃ (d:LK) (c:Int) (g:Value) (f:LV),(d,c)=s/\St L No T 53 [(3,g),(7,o),(8,am (e.length:Int)),(9,am c)] [aE g f] [ap ac f d,aT ac o e,ci] a w) bt ⟨_,_,_,_,rfl,I.mt [0] [0,1,2]⟩ ?_;rintro s a w X ⟨d,c,g,f,rfl,I⟩ B hf1;have B:oK e d c=some X:=B;unfold oK at B;refine al I fun a I=>?_;refine aA ?_;rcases cd B with⟨a9,B⟩|⟨a9,B⟩
  ·refine al I fun a I=>?_;refine aN (J:=fun a w=>∃ (N:LK) (P:Value) (E:LV),St L No T 53 [(3,P),(7,o),(8,am (e.length:Int)),(9,am c)] [aE P E] [ap ac E N,aT ac o e,ci] a w/\jO c N=some X) ?_ ?_
   ·refine al I fun a I=>?_;obtain⟨b,Y,B⟩:=bd B;refine wl rfl (bE (R:=ac) I qR iQ rfl rfl 1 rfl Y rfl fun c3 cv c6 af a I=>?_);obtain rfl:=af;refine kA I iS fun m cs a w O I=>?_;refine go I fun a w I=>?_;refine aN (J:=fun a w=>∃ (p:Int),St L No T 53 [(3,g),(5,pt m 0),(6,am p),(7,o),(8,am (e.length:Int)),(9,am c)] [aE g f,.box m (bm b) 30] [ap ac f d,aT ac o e,ci] a w/\lZ d c b p=some X) ?_ ?_
    ·refine al I fun a I=>?_;obtain⟨r2,c1,hMo2⟩:=bd B;refine bH _ (fun s a w=>∃ (A:Int),A=s/\St L No T 53 [(3,g),(5,pt m 0),(6,am A),(7,o),(8,am (e.length:Int)),(9,am c)] [aE g f,.box m (bm b) 30] [ap ac f d,aT ac o e,ci] a w) c1 ⟨_,rfl,I.mt [1,0] [1,2,3]⟩ ?_;rintro s a w f2 ⟨A,rfl,I⟩ B hf2;have B:ix d b A=some f2:=B;unfold ix at B;refine aA ?_;refine aA ?_;refine dr [] I fun w hQ I=>?_;refine gE [0,1,2,3,4] I fun a I=>?_;rcases cd B with⟨u,B⟩|⟨u,B⟩
     ·refine gE [5,6] I fun a I=>?_;obtain⟨F,a0,B⟩:=bd B;obtain⟨a4,b7,d0,c9,ag,ak,an,av⟩:=n5 (R:=ac) I qR iQ 0 rfl 0 rfl a0;obtain rfl:=ag;refine dg 7 I u (v:=pt a4 b7) (av rfl rfl) fun a I=>?_;refine dg 8 I u (l:=[]) (v:=.agg (bm F).toArray) (cK (k:=0) I iQ 0 rfl ak an rfl cc (us:=(bm F)) rfl rfl (fun h=>by cases h)) fun a I=>?_;refine gE [9] I fun a I=>?_;obtain⟨d2,a3,B⟩:=bd B;refine ey (i:=10) rfl (by kernel_rfl) I rfl rfl rfl u (bP I HZ rfl rfl (mU _ _ I.dlt I.g2 F b _ a3) fun _ w C a O U=>⟨iJ (O),?_⟩);obtain rfl:=C;have I:=eL U;refine gE [11,12] I fun a I=>?_;refine eD ?_;exact fz
     refine gE [5,6,7,8,9,10,11,12] I fun a I=>?_;refine eD ?_;exact fz
    rintro a w ⟨p,I,B⟩;unfold lZ at B;refine aN (J:=fun a w=>∃ (G:Bool),St L No T 53 [(3,g),(5,pt m 0),(6,am p),(7,o),(8,am (e.length:Int)),(9,am c),(39,.bool G)] [aE g f,.box m (bm b) 30] [ap ac f d,aT ac o e,ci] a w/\ga d c b p G=some X) ?_ ?_
    ·refine dr [] I fun w hQ I=>?_;refine gE [0,1,2,3,4] I fun a I=>?_;rcases cd B with⟨z,B⟩|⟨z,B⟩
     ·refine gE [5,6,7,8,9,10,11] I fun a I=>?_;refine eD ?_;exact fin
     refine gE [5,6] I fun a I=>?_;obtain⟨r,Z,B⟩:=bd B;obtain⟨a5,b8,d1,ca,b0,b1,b2,b3⟩:=n5 (R:=ac) I qR iQ 0 rfl 0 rfl Z;obtain rfl:=b0;refine dg 7 I z (v:=pt a5 b8) (b3 rfl rfl) fun a I=>?_;refine dg 8 I z (l:=[]) (v:=.agg (bm r).toArray) (cK (k:=0) I iQ 0 rfl b1 b2 rfl cc (us:=(bm r)) rfl rfl (fun h=>by cases h)) fun a I=>?_;refine gE [9] I fun a I=>?_;refine dg 10 I z (v:=.bool (!(r.k==b.k&&r.t.toList==b.t.toList))) (CI I rfl rfl) fun a I=>?_;refine gE [11] I fun a I=>?_;refine eD ?_;exact fin
    rintro a w ⟨G,I,B⟩;unfold ga at B;rcases cd B with⟨b4,B⟩|⟨b4,B⟩
    ·refine al I fun a I=>?_;replace I:=I.zn ac 30 (by decide);refine dr [(3,.blk (Value.ownBlock (.slice none 0 0))),(6,.any),(10,.any)] I fun w hQ I=>?_;refine gE [0,1] I fun a I=>?_;obtain⟨n,a1,B⟩:=bd B;obtain⟨b9,Q,b5⟩:=yB (R:=ac) I qR iQ 1 rfl 1 rfl a1;refine dq 2 I (v:=b9) (b5 (k1:=.i64) rfl (.inr ⟨rfl,rfl⟩) (.inl ⟨_,rfl,rfl⟩)) fun a I=>?_;refine dq 4 I (l:=[.blk (Value.ownBlock (.slice none 0 0))]) (v:=.agg (bm b).toArray) (eA I rfl iQ 2 rfl (iU I 2 rfl rfl 0 rfl rfl (by decide) cc) (us:=(bm b)) rfl rfl (fun h=>by cases h)) fun a I=>?_;refine gE [7,8] I fun a I=>?_;obtain⟨W,a2,B⟩:=bd B;obtain⟨bb,S,b6⟩:=yB (R:=ac) I qR iQ 1 rfl 1 rfl a2;refine dq 9 I (v:=bb) (b6 (k2:=.i64) rfl (.inl ⟨_,rfl,rfl⟩) (.inr ⟨rfl,rfl⟩)) fun a I=>?_;obtain⟨V,B⟩:=aP B;refine fa (i:=3) (j:=5) rfl rfl (by kernel_rfl) rfl rfl ?_ ?_
     ·skip;replace I:=I.zf (R:=ac) 1 rfl 1 rfl;replace I:=I.fS (Q _ _ I.g0);refine id (bR (R:=ac) (xs:=([]:List ah)) (ys:=n) I lr (by decide) (by decide) rfl rfl 0 rfl 2 rfl 0 rfl V rfl fun d3 ch a w O I=>⟨lw rfl O kL,?_⟩);refine e1 5 (bf (ps:=[(0,.tmp 44)]) I lr iS (zl:=[am 0,aU cr]) (by kernel_rfl) rfl (us:=[(bm b)]) ⟨rfl,trivial⟩ (ws:=(bm b)) rfl rfl rfl rfl fun c4 a w O I=>⟨iJ (O),?_⟩);replace I:=(I.lit (R:=ac) (us:=(bm b)) (xs:=[b]) 0 rfl (by decide) (aJ (R:=ac) (x:=b) rfl) rfl rfl).zf (R:=ac) 0 rfl 0 rfl;obtain⟨H,B⟩:=aP B;refine e1 6 (bR (R:=ac) (xs:=(([]:List ah)++n)) (ys:=[b]) I lr (by decide) (by decide) rfl rfl 0 rfl 2 rfl 0 rfl H rfl fun bi a6 a w O I=>⟨lw rfl O tP,?_⟩);replace I:=I.fS (S _ _ I.g5);obtain⟨K,B⟩:=aP B;refine e1 10 (bR (R:=ac) (xs:=((([]:List ah)++n)++([b]))) (ys:=W) I lr (by decide) (by decide) rfl rfl 0 rfl 1 rfl 0 rfl K rfl fun bl a7 a w O I=>⟨lw rfl O tP,?_⟩);refine gE [11] I fun a I=>?_;refine eD ?_;exact fin
     skip;refine id (bf (ps:=[(0,.tmp 44)]) I lr iS (zl:=[am 0,aU cr]) (by kernel_rfl) rfl (us:=[(bm b)]) ⟨rfl,trivial⟩ (ws:=(bm b)) rfl rfl rfl rfl fun c5 a w O I=>⟨iJ (O),?_⟩);replace I:=I.zf (R:=ac) 2 rfl 1 rfl;replace I:=I.fS (Q _ _ I.g0);refine e1 3 (bR (R:=ac) (xs:=([]:List ah)) (ys:=n) I lr (by decide) (by decide) rfl rfl 1 rfl 2 rfl 0 rfl V rfl fun d4 ck a w O I=>⟨lw rfl O kL,?_⟩);replace I:=(I.lit (R:=ac) (us:=(bm b)) (xs:=[b]) 0 rfl (by decide) (aJ (R:=ac) (x:=b) rfl) rfl rfl).zf (R:=ac) 0 rfl 0 rfl;obtain⟨H,B⟩:=aP B;refine e1 6 (bR (R:=ac) (xs:=(([]:List ah)++n)) (ys:=[b]) I lr (by decide) (by decide) rfl rfl 0 rfl 2 rfl 0 rfl H rfl fun bi a6 a w O I=>⟨lw rfl O tP,?_⟩);replace I:=I.fS (S _ _ I.g5);obtain⟨K,B⟩:=aP B;refine e1 10 (bR (R:=ac) (xs:=((([]:List ah)++n)++([b]))) (ys:=W) I lr (by decide) (by decide) rfl rfl 0 rfl 1 rfl 0 rfl K rfl fun bl a7 a w O I=>⟨lw rfl O tP,?_⟩);refine gE [11] I fun a I=>?_;refine eD ?_;exact fin
    exact fz
   rintro a w ⟨N,P,E,I,B⟩;unfold jO at B;exact fz
  exact fz
 rintro a w ⟨M,D,q,I,B⟩;unfold so at B;refine al I fun a I=>?_;cases B
 refine aH I rfl (aw I rfl aF) ?_;exact⟨D,q,rfl,I.zo ⟨.inr (aD (i:=0) rfl),trivial⟩ 0 rfl 0 rfl⟩
def km (b:Bool):=some (b)
def qK (g:LR) (b:Int) (e:ah):=(c8 g e).bind fun d=>cond d.2 ((cX e).bind fun f=>cond f (cond (decide (d.1.c<b)) (km (!(d.1.w))) (km false)) (km false)) (km false)
theorem zY (g:LR) (b:Int) (d:ah) (k:Value) (j:aI aa T L k g) (y:Bool) (B:qK g b d=some y):bj aR No 246 [k,am b,.agg (bm d).toArray] L (fun v w'=>v = .bool y):=by
 refine en Tryz.func246 Tryz.ntmps246 hT fun a I=>?_;replace I:=I.fS (aI.dn j);unfold qK at B;refine kB I fun l o a w O I=>?_;refine al I fun a I=>?_;obtain⟨q,h,B⟩:=bd B;refine kc I tK (cx _ _ I.dlt g d _ I.g0 _ h) fun _ w C a O U=>?_;obtain⟨s,n,he,f⟩:=C;obtain rfl:=he.symm;have I:=vd U f;refine kA I f0 fun m p a w O I=>?_;refine go I fun a w I=>?_;refine aN (J:=fun a w=>∃ (c:Bool),St L No T 31 [(6,.bool c)] [] [] a w/\km c=some y) ?_ ?_
 ·refine al I fun a I=>?_;rcases cd B with⟨e,B⟩|⟨e,B⟩
  ·refine al I fun a I=>?_;obtain⟨r,i,B⟩:=bd B;refine wg I rfl rfl rfl e (bP I uG rfl rfl (du _ _ I.dlt d _ i) fun _ w C a O U=>?_);obtain rfl:=C;have I:=eL U;exact fz
  exact fz
 rintro a w ⟨c,I,B⟩;unfold km at B;exact fz
def pQ (b:LO):=some (b)
def m7 (b:Int) (d:LO) (c:LK):Option (Fl (LO×LK×Int) (LO)):=some (.go (d,c,IntKind.i64.wrap (b+1)))
def m8 (b:Int) (d:LO) (c:LK):Option (Fl (LO×LK×Int) (LO×LK)):=some (.go (d,c,IntKind.i64.wrap (b+1)))
def m9 (e:LO) (c:LK) (d:Int) (b:ah) (f:Bool):=cond f (gd (ce (c.length+([b]).length)) <| m8 d (gT aW b true e) (c++([b]))) (m8 d e c)
def hU (j:LR) (e:Int) (g:(ay×Bool)) (d:LO) (f:LK) (c:Int):=cond (decide (c<(g.1.v.length:Int))) ((bO g.1.v c).bind fun b=>(qK j e b).bind fun h=>cond h ((some ((dx aW b d).getD false)).bind fun i=>m9 d f c b (!(i))) (m9 d f c b false)) (some (.out (d,f)))
def jy (f:LR) (b:Int) (e:LO) (d:LK) (c:Int):=cond (decide (c<(d.length:Int))) ((bO d c).bind fun g=>(c8 f g).bind fun h=>(loop (fun s:LO×LK×Int=>hU f b h s.1 s.2.1 s.2.2) (e,d,0)).bind fun r=>m7 c r.1 r.2) (some (.out e))
def pp (d:LR) (b:Int) (c:ah):=(loop (fun s:LO×LK×Int=>jy d b s.1 s.2.1 s.2.2) (([]:LO),[c],0)).bind fun r=>pQ r
theorem yc (l:LR) (b:Int) (u:ah) (q:Value) (ca:aI aa T L q l) (y:LO) (B:pp l b u=some y):bj aR No 247 [q,am b,.agg (bm u).toArray] L (fun v w'=>∃ (b2:Nat) (b3:Array MapEntry) (b1:Nat),v = .map (some b2)/\QT ac true aO.bool false T L w' [om b2 b3 b1] b2 b3 b1 y):=by
 refine en Tryz.func247 Tryz.ntmps247 hT fun a I=>?_;replace I:=I.fS (aI.dn ca);unfold pp at B;refine kB I fun ch d8 a w O I=>?_;refine al I fun a I=>?_;refine wl rfl (tQ ac true aO.bool false I rfl fun e d9 a w O I=>?_);refine al I fun a I=>?_;refine wl rfl (bf (ps:=[(0,.tmp 15)]) I lr iS (zl:=[am 0,aU cr]) (by kernel_rfl) rfl (us:=[(bm u)]) ⟨rfl,trivial⟩ (ws:=(bm u)) rfl rfl rfl rfl fun ck a w O I=>?_);refine al I fun a I=>?_;refine aN (J:=fun a w=>∃ (X:LO) (A:AM) (F:Nat),St L No T 57 [(7,.map (some e))] [om e A F] [xY A X] a w/\pQ X=some y) ?_ ?_
 ·refine al I fun a I=>?_;replace I:=I.lit (R:=ac) (us:=(bm u)) (xs:=[u]) 0 rfl (by decide) (aJ (R:=ac) (x:=u) rfl) rfl rfl;obtain⟨r1,c6,hMo1⟩:=bd B;refine bH _ (fun s a w=>∃ (E:LO) (D:LK) (f:Int) (N:AM) (a4:Nat) (a0:Value) (G:LV),(E,D,f)=s/\St L No T 57 [(0,q),(1,am b),(7,.map (some e)),(8,a0),(9,am f)] [om e N a4,aE a0 G] [aT aa q l,xY N E,ap ac G D] a w) c6 ⟨_,_,_,_,_,_,_,rfl,I.mt [1,0] [2,1,0]⟩ ?_;rintro s a w f1 ⟨E,D,f,N,a4,a0,G,rfl,I⟩ B hf1;have B:jy l b E D f=some f1:=B;unfold jy at B;refine aA ?_;refine al I fun a I=>?_;rcases cd B with⟨b7,B⟩|⟨b7,B⟩
  ·refine al I fun a I=>?_;refine aN (J:=fun a w=>∃ (Y:LO) (V:LK) (P:AM) (a5:Nat) (a1:Value) (H:LV),St L No T 57 [(0,q),(1,am b),(7,.map (some e)),(8,a1),(9,am f)] [om e P a5,aE a1 H] [aT aa q l,xY P Y,ap ac H V] a w/\m7 f Y V=some f1) ?_ ?_
   ·refine al I fun a I=>?_;obtain⟨a7,ak,B⟩:=bd B;refine wl rfl (fo (R:=ac) I qR iQ rfl rfl 1 rfl 2 rfl ak rfl fun cl e0 e3 d2 b8 b9 bb a I=>?_);obtain rfl:=b8;refine qy I (cK (k:=0) I iQ 1 rfl b9 bb rfl id (us:=(bm a7)) rfl rfl (fun h=>by cases h)) fun a I=>?_;obtain⟨n,an,B⟩:=bd B;refine kc I tK (cx _ _ I.dlt l a7 _ I.g0 _ an) fun _ w C a O U=>?_;obtain⟨p,o,he,af⟩:=C;obtain rfl:=he.symm;have I:=vd U af;refine kA I f0 fun cs dl a w O I=>?_;refine go I fun a w I=>?_;obtain⟨r2,c9,hMo2⟩:=bd B;refine bH _ (fun s a w=>∃ (m:LO) (j:LK) (g:Int) (t:AM) (K:Nat) (z:Value) (r:LV),(m,j,g)=s/\St L No T 57 [(0,q),(1,am b),(7,.map (some e)),(8,z),(9,am f),(33,p),(34,am (n.1.v.length:Int)),(35,am g)] [om e t K,aE z r,aE p o] [aT aa q l,xY t m,ap ac r j,ap ac o n.1.v] a w) c9 ⟨_,_,_,_,_,_,_,rfl,I.mt [2,3,1] [1,2,3,0]⟩ ?_;rintro s a w f2 ⟨m,j,g,t,K,z,r,rfl,I⟩ B hf2;have B:hU l b n m j g=some f2:=B;unfold hU at B;refine al I fun a I=>?_;refine aA ?_;rcases cd B with⟨bi,B⟩|⟨bi,B⟩
    ·refine al I fun a I=>?_;refine aN (J:=fun a w=>∃ (Z:LO) (W:LK) (Q:AM) (a6:Nat) (a2:Value) (M:LV),St L No T 57 [(0,q),(1,am b),(7,.map (some e)),(8,a2),(9,am f),(33,p),(34,am (n.1.v.length:Int)),(35,am g)] [om e Q a6,aE a2 M,aE p o] [aT aa q l,xY Q Z,ap ac M W,ap ac o n.1.v] a w/\m8 g Z W=some f2) ?_ ?_
     ·refine al I fun a I=>?_;obtain⟨d,ag,B⟩:=bd B;refine wl rfl (fo (R:=ac) I qR iQ rfl rfl 2 rfl 3 rfl ag rfl fun d0 e2 e4 d3 bl bs bt a I=>?_);obtain rfl:=bl;refine qy I (cK (k:=0) I iQ 2 rfl bs bt rfl id (us:=(bm d)) rfl rfl (fun h=>by cases h)) fun a I=>?_;refine ka I iS fun a3 ds a w O I=>?_;refine go I fun a w I=>?_;refine aN (J:=fun a w=>∃ (S:Bool),St L No T 57 [(0,q),(1,am b),(7,.map (some e)),(8,z),(9,am f),(13,pt a3 0),(33,p),(34,am (n.1.v.length:Int)),(35,am g),(48,.bool S)] [om e t K,aE z r,aE p o,.box a3 (bm d) 30] [aT aa q l,xY t m,ap ac r j,ap ac o n.1.v] a w/\m9 m j g d S=some f2) ?_ ?_
      ·refine al I fun a I=>?_;obtain⟨e5,av,B⟩:=bd B;refine kF I O3 (zY _ _ I.dlt l b d _ I.g0 _ av) fun w a I=>?_;rcases cd B with⟨a9,B⟩|⟨a9,B⟩
       ·refine al I fun a I=>?_;obtain⟨c5,b0,B⟩:=bd B;obtain⟨d4,c1,c2⟩:=nx I xX fx 1 rfl 1 rfl (c:=(bm d)) (key:=d) rfl QN (zc:=[.bool false]) rfl rfl b0;obtain rfl:=c1;refine wg I rfl rfl rfl a9 (ky (v:=.bool c5) I (c2 rfl rfl id) rfl rfl fun a I=>?_);exact fz
       exact fz
      rintro a w ⟨S,I,B⟩;unfold m9 at B;rcases cd B with⟨c3,B⟩|⟨c3,B⟩
      ·refine al I fun a I=>?_;refine wl rfl (CQ I xX fx 0 rfl 1 rfl (c:=(bm d)) (cv:=[.bool true]) (key:=d) (val:=true) rfl rfl rfl rfl rfl fun d7 d5 w O I=>?_);refine al I fun a I=>?_;refine wl rfl (bf (ps:=[(0,.tmp 52)]) I lr iS (zl:=[am 0,aU cr]) (by kernel_rfl) rfl (us:=[(bm d)]) ⟨rfl,trivial⟩ (ws:=(bm d)) rfl rfl rfl rfl fun d1 a w O I=>?_);replace I:=(I.lit (R:=ac) (us:=(bm d)) (xs:=[d]) 0 rfl (by decide) (aJ (R:=ac) (x:=d) rfl) rfl rfl).zf (R:=ac) 0 rfl 0 rfl;obtain⟨c4,B⟩:=aP B;refine wl rfl (bR (R:=ac) (xs:=j) (ys:=[d]) I lr (by decide) (by decide) rfl rfl 1 rfl 5 rfl 0 rfl c4 rfl fun e6 d6 a w O I=>?_);exact fz
      exact fz
     rintro a w ⟨Z,W,Q,a6,a2,M,I,B⟩;unfold m8 at B;exact fz
    refine al I fun a I=>?_;cases B
    have hr:=hf2 _ rfl;subst hr;have B:m7 f m j=some f1:=hMo2;exact fin
   rintro a w ⟨Y,V,P,a5,a1,H,I,B⟩;unfold m7 at B;exact fz
  exact fz
 rintro a w ⟨X,A,F,I,B⟩;unfold pQ at B;refine al I fun a I=>?_;cases B
 refine aH I rfl (aw I rfl aF) ?_;exact⟨e,A,F,rfl,I.retMap ⟨.inr (aD (i:=0) rfl),trivial⟩ 0 rfl 0 rfl⟩
def tU (b:LK):=(lG b).bind fun c=>some (c)
def rX (b:Int) (c:LK):Option (Fl (LK×Int) (LK)):=some (.go (c,IntKind.i64.wrap (b+1)))
def pn (b:LK) (e:Int) (c:ay) (f:Bool):=cond f (gd (ce (b.length+([c.d]).length)) <| rX e (b++([c.d]))) (rX e b)
def po (h:LR) (f:Int) (g:ah) (i:LO) (e:LK) (c:Int):=cond (decide (c<(h.length:Int))) ((bO h c).bind fun b=>cond (!(b.d.k==g.k&&b.d.t.toList==g.t.toList)) ((some ((dx aW b.d i).getD false)).bind fun j=>cond j ((pp h f b.d).bind fun l=>(some ((dx aW g l).getD false)).bind fun m=>pn e c b m) (pn e c b false)) (pn e c b false)) (some (.out e))
def oo (d:LR) (b:Int) (c:ah):=(qK d b c).bind fun f=>cond (!(f)) (some ([c])) ((pp d b c).bind fun e=>(loop (fun s:LK×Int=>po d b c e s.1 s.2) ([c],0)).bind fun r=>tU r)
theorem vD (hLv:fi T L) (g:LR) (b:Int) (e:ah) (q:Value) (c3:aI aa T L q g) (y:LK) (B:oo g b e=some y):bj aR No 210 [q,am b,.agg (bm e).toArray] L (fun v w'=>∃ (v2:Value) (dG:bK),v=v2/\kJ ac T L w' [aE v2 dG] 30 v2 dG y):=by
 refine en Tryz.func210 Tryz.ntmps210 hT fun a I=>?_;replace I:=(I.fact ci (fi.dn hLv)).fS (aI.dn c3);unfold oo at B;refine kB I fun o cl a w O I=>?_;refine al I fun a I=>?_;refine aA ?_;refine al I fun a I=>?_;obtain⟨d2,ak,B⟩:=bd B;refine kF I O3 (zY _ _ I.dlt g b e _ I.g0 _ ak) fun w a I=>?_;rcases cd B with⟨b4,B⟩|⟨b4,B⟩
 ·refine al I fun a I=>?_;refine wl rfl (bf (ps:=[(0,.tmp 16)]) I lr iS (zl:=[am 0,aU cr]) (by kernel_rfl) rfl (us:=[(bm e)]) ⟨rfl,trivial⟩ (ws:=(bm e)) rfl rfl rfl rfl fun av a w O I=>?_);refine al I fun a I=>?_;replace I:=I.lit (R:=ac) (us:=(bm e)) (xs:=[e]) 0 rfl (by decide) (aJ (R:=ac) (x:=e) rfl) rfl rfl;cases B
  refine aH I rfl (aw I rfl aF) ?_;exact⟨(.slice (some ⟨av,0,none⟩) 1 1),(bm e),rfl,I.zo ⟨.inr (aD (i:=0) rfl),trivial⟩ 0 rfl 0 rfl⟩
 refine al I fun a I=>?_;refine wl rfl (bf (ps:=[(0,.tmp 18)]) I lr iS (zl:=[am 0,aU cr]) (by kernel_rfl) rfl (us:=[(bm e)]) ⟨rfl,trivial⟩ (ws:=(bm e)) rfl rfl rfl rfl fun c4 a w O I=>?_);refine al I fun a I=>?_;obtain⟨A,a7,B⟩:=bd B;refine kc I O4 (yc _ _ I.dlt g b e _ I.g0 _ a7) fun _ w C a O U=>?_;obtain⟨j,m,u,he,⟨X,S,a0⟩⟩:=C;obtain rfl:=he.symm;have I:=U [om j m u] (kv X (Jj S)) (AD _);replace I:=I.fM (a0.keep (aj _ _) (qo _));refine al I fun a I=>?_;refine aN (J:=fun a w=>∃ (z:LK) (K:Value) (D:LV),St L No T 57 [(7,K)] [aE K D] [ap ac D z,ci] a w/\tU z=some y) ?_ ?_
 ·refine al I fun a I=>?_;replace I:=I.lit (R:=ac) (us:=(bm e)) (xs:=[e]) 1 rfl (by decide) (aJ (R:=ac) (x:=e) rfl) rfl rfl;obtain⟨r1,c2,hMo1⟩:=bd B;refine bH _ (fun s a w=>∃ (n:LK) (h:Int) (r:Value) (p:LV),(n,h)=s/\St L No T 57 [(0,q),(1,am b),(5,pt o 0),(7,r),(8,.map (some j)),(24,q),(25,am (g.length:Int)),(26,am h)] [aE r p,om j m u,.box o (bm e) 30] [aT aa q g,ap ac p n,xY m A,ci] a w) c2 ⟨_,_,_,_,rfl,I.mt [1,0,2] [2,0,1,3]⟩ ?_;rintro s a w f1 ⟨n,h,r,p,rfl,I⟩ B hf1;have B:po g b e A n h=some f1:=B;unfold po at B;refine al I fun a I=>?_;refine aA ?_;rcases cd B with⟨b5,B⟩|⟨b5,B⟩
  ·refine al I fun a I=>?_;refine aN (J:=fun a w=>∃ (H:LK) (M:Value) (E:LV),St L No T 57 [(0,q),(1,am b),(5,pt o 0),(7,M),(8,.map (some j)),(24,q),(25,am (g.length:Int)),(26,am h)] [aE M E,om j m u,.box o (bm e) 30] [aT aa q g,ap ac E H,xY m A,ci] a w/\rX h H=some f1) ?_ ?_
   ·refine al I fun a I=>?_;obtain⟨f,a5,B⟩:=bd B;refine wl rfl (bE (R:=aa) I qQ oy rfl rfl 0 rfl a5 rfl fun c5 cv c9 b6 a I=>?_);obtain⟨a3,rfl,an⟩:=b6;replace I:=I.fS an;refine kA I f0 fun N cs a w O I=>?_;refine go I fun a w I=>?_;refine aN (J:=fun a w=>∃ (F:Bool),St L No T 57 [(0,q),(1,am b),(5,pt o 0),(7,r),(8,.map (some j)),(10,pt N 0),(24,q),(25,am (g.length:Int)),(26,am h),(48,.bool F)] [aE r p,om j m u,.box o (bm e) 30,.box N (bA f a3) 33] [aT aa q g,ap ac p n,xY m A,aT ac a3 f.v,ci] a w/\pn n h f F=some f1) ?_ ?_
    ·refine dr [] I fun w hQ I=>?_;refine gE [0,1,2] I fun a I=>?_;refine dq 3 I (v:=.bool (!(f.d.k==e.k&&f.d.t.toList==e.t.toList))) (CI I rfl rfl) fun a I=>?_;refine gE [4] I fun a I=>?_;rcases cd B with⟨Q,B⟩|⟨Q,B⟩
     ·refine gE [5,6,7] I fun a I=>?_;obtain⟨bs,a9,B⟩:=bd B;obtain⟨ca,b7,b8⟩:=nx I xX fx 2 rfl 4 rfl (c:=(bm f.d)) (key:=f.d) rfl QN (zc:=[.bool false]) rfl rfl a9;obtain rfl:=b7;refine dg 8 I Q (l:=[]) (v:=.bool bs) (b8 rfl rfl cc) fun a I=>?_;refine gE [9,10] I fun a I=>?_;rcases cd B with⟨G,B⟩|⟨G,B⟩
      ·refine gE [11,12,13,14,16] I fun a I=>?_;obtain⟨d1,af,B⟩:=bd B;refine ey (i:=15) rfl (by kernel_rfl) I rfl rfl rfl G (bP I O4 rfl rfl (yc _ _ I.dlt g b f.d _ I.g2 _ af) fun _ w C a O U=>⟨iJ (O),?_⟩);obtain⟨b0,b2,b1,he,⟨Y,V,a1⟩⟩:=C;obtain rfl:=he.symm;have I:=U [om b0 b2 b1] (kv Y (Jj V)) (AD _);replace I:=I.fM (a1.keep (aj _ _) (qo _));obtain⟨bt,ag,B⟩:=bd B;obtain⟨ch,b9,bb⟩:=nx I xX fx 0 rfl 0 rfl (c:=(bm e)) (key:=e) rfl QN (zc:=[.bool false]) rfl rfl ag;obtain rfl:=b9;refine dg 17 I G (l:=[]) (v:=.bool bt) (bb rfl rfl cc) fun a I=>?_;refine gE [18] I fun a I=>?_;refine eD ?_;exact fin
      refine gE [11,12,13,14,15,16,17,18] I fun a I=>?_;refine eD ?_;exact fin
     refine gE [5,6,7,8,9,10,11,12,13,14,15,16,17,18] I fun a I=>?_;refine eD ?_;exact fin
    rintro a w ⟨F,I,B⟩;unfold pn at B;rcases cd B with⟨bi,B⟩|⟨bi,B⟩
    ·refine al I fun a I=>?_;refine wl rfl (bf (ps:=[(0,.tmp 51)]) I lr iS (zl:=[am 0,aU cr]) (by kernel_rfl) rfl (us:=[(bm f.d)]) ⟨rfl,trivial⟩ (ws:=(bm f.d)) rfl rfl rfl rfl fun c6 a w O I=>?_);replace I:=(I.lit (R:=ac) (us:=(bm f.d)) (xs:=[f.d]) 0 rfl (by decide) (aJ (R:=ac) (x:=f.d) rfl) rfl rfl).zf (R:=ac) 0 rfl 0 rfl;obtain⟨bl,B⟩:=aP B;refine wl rfl (bR (R:=ac) (xs:=n) (ys:=[f.d]) I lr (by decide) (by decide) rfl rfl 0 rfl 3 rfl 0 rfl bl rfl fun d3 ck a w O I=>?_);exact fz
    exact fz
   rintro a w ⟨H,M,E,I,B⟩;unfold rX at B;exact fz
  exact fz
 rintro a w ⟨z,K,D,I,B⟩;unfold tU at B;refine al I fun a I=>?_;have hL:=I;replace hL:=hL.zf (R:=ac) 0 rfl 0 rfl;obtain⟨d0,a6,B⟩:=bd B;refine kc I OI (wN _ _ hL.dlt hL.g2 z _ hL.g0 _ a6) fun _ w C a O U=>?_;obtain⟨a4,P,he,⟨Z,W,a2⟩⟩:=C;obtain rfl:=he.symm;have I:=U [aE a4 P] (kv ⟨Z,by decide⟩ W) (AD _);replace I:=I.fR a2;refine al I fun a I=>?_;cases B
 refine aH I rfl (aw I rfl aF) ?_;exact⟨a4,P,rfl,I.zo ⟨.inr (aD (i:=0) rfl),trivial⟩ 0 rfl 0 rfl⟩
end
end
section
set_option maxRecDepth 100000
set_option maxHeartbeats 4000000
variable (T:Nat->Prop) (L:World) (hT:TW T L)
include hT
noncomputable section
def lE (b:LN):=some (decide ((b.length:Int)<=400))
theorem vw (b:LN) (d:Value) (c:aI (aO.int .i64) T L d b) (y:Bool) (B:lE b=some y):bj aR No 9 [d] L (fun v w'=>v = .bool y):=by
 refine en Tryz.func9 Tryz.ntmps9 hT fun a I=>?_;replace I:=I.fS (aI.dn c);unfold lE at B;exact fz
def AI:Option Int:=some (0)
def uH (c:LN) (b:Int):Option (Fl (Int) (Fl (Unit) Int)):=cond (decide (b<(c.length:Int))) ((bO c b).bind fun d=>cond (d != 0) (some (.out (.out d))) (some (.go (IntKind.i64.wrap (b+1))))) (some (.out (.go ())))
def Cr (b:LN):=(loop (fun s:Int=>uH b s) 0).bind fun r=>Fl.el r (fun s=>AI) (fun y=>some (y))
theorem Lc (b:LN) (e:Value) (i:aI (aO.int .i64) T L e b) (y:Int) (B:Cr b=some y):bj aR No 178 [e] L (fun v w'=>v=am y):=by
 refine en Tryz.func178 Tryz.ntmps178 hT fun a I=>?_;replace I:=I.fS (aI.dn i);unfold Cr at B;refine al I fun a I=>?_;refine aN (J:=fun a w=>St L No T 18 [(3,am 0)] [] [] a w/\AI=some y) ?_ ?_
 ·refine al I fun a I=>?_;obtain⟨o,h,hMo1⟩:=bd B;refine bH _ (fun s a w=>∃ (c:Int),c=s/\St L No T 18 [(3,am 0),(6,e),(7,am (b.length:Int)),(8,am c)] [] [aT (aO.int .i64) e b] a w) h ⟨_,rfl,I.mt [] [0]⟩ ?_;rintro s a w m ⟨c,rfl,I⟩ B hf1;have B:uH b c=some m:=B;unfold uH at B;refine al I fun a I=>?_;refine aA ?_;rcases cd B with⟨f,B⟩|⟨f,B⟩
  ·refine al I fun a I=>?_;refine aA ?_;refine al I fun a I=>?_;obtain⟨l,d,B⟩:=bd B;refine wl rfl (bE (R:=(aO.int .i64)) I Ky F3 rfl rfl 0 rfl d rfl fun j n k g a I=>?_);obtain rfl:=g;exact fz
  exact fz
 rintro a w ⟨I,B⟩;unfold AI at B;exact fz
def n4 (b:Int):=some (b != b)
theorem vV (b:Int) (y:Bool) (B:n4 b=some y):bj aR No 221 [am b] L (fun v w'=>v = .bool y):=by
 refine en Tryz.func221 Tryz.ntmps221 hT fun a I=>?_;unfold n4 at B;exact fz
def rG (c d:Int):=(n4 c).bind fun e=>(n4 d).bind fun b=>cond e (cond b (some (0)) (some ((-1)))) (cond b (some (1)) (cond (decide (c<d)) (some ((-1))) (cond (decide (d<c)) (some (1)) (some (0)))))
theorem DS (b c y:Int) (B:rG b c=some y):bj aR No 179 [am b,am c] L (fun v w'=>v=am y):=by
 refine en Tryz.func179 Tryz.ntmps179 hT fun a I=>?_;unfold rG at B;refine al I fun a I=>?_;obtain⟨i,d,B⟩:=bd B;refine kF I O0 (vV _ _ I.dlt b _ d) fun w a I=>?_;obtain⟨j,e,B⟩:=bd B;refine kF I O0 (vV _ _ I.dlt c _ e) fun w a I=>?_;refine aA ?_;refine al I fun a I=>?_;rcases cd B with⟨f,B⟩|⟨f,B⟩
 ·refine al I fun a I=>?_;refine aA ?_;exact fz
 refine al I fun a I=>?_;refine aA ?_;refine al I fun a I=>?_;rcases cd B with⟨g,B⟩|⟨g,B⟩
 ·exact fz
 refine al I fun a I=>?_;refine aA ?_;refine al I fun a I=>?_;rcases cd B with⟨h,B⟩|⟨h,B⟩
 ·exact fz
 refine al I fun a I=>?_;refine aA ?_;exact fz
def xr (b c:ah):=(rG b.k c.k).bind fun d=>(sU b.t c.t).bind fun e=>(Cr ([d,e])).bind fun f=>some (f)
theorem EB (hLv:fi T L) (d e:ah) (y:Int) (B:xr d e=some y):bj aR No 124 [.agg (bm d).toArray,.agg (bm e).toArray] L (fun v w'=>v=am y):=by
 refine en Tryz.func124 Tryz.ntmps124 hT fun a I=>?_;replace I:=I.fact ci (fi.dn hLv);unfold xr at B;refine kB I fun i m a w O I=>?_;refine kb I fun j n a w O I=>?_;refine al I fun a I=>?_;refine aA ?_;refine dr [] I fun w hQ I=>?_;refine gE [0,1,2,3,5,6,7,8] I fun a I=>?_;obtain⟨b,f,B⟩:=bd B;refine ec 4 I Rz (DS _ _ I.dlt d.k e.k _ f) fun _ w C a O U=>?_;obtain rfl:=C;have I:=eL U;obtain⟨c,g,B⟩:=bd B;refine ec 9 I Gt (rH _ _ I.dlt I.g0 d.t e.t _ g) fun _ w C a O U=>?_;obtain rfl:=C;have I:=eL U;refine e1 10 (bf (ps:=[(0,.tmp 9),(1,.tmp 14)]) I NF Tg (zl:=[am 0,am 0]) (by kernel_rfl) rfl (us:=[[am b],[am c]]) ⟨rfl,⟨rfl,trivial⟩⟩ (ws:=[am b,am c]) rfl rfl rfl rfl fun l a w O I=>⟨iJ (O),?_⟩);replace I:=I.lit (R:=(aO.int .i64)) (us:=[am b,am c]) (xs:=[b,c]) 0 rfl (by decide) ((aJ (R:=(aO.int .i64)) (x:=b) rfl).append (aJ (R:=(aO.int .i64)) (x:=c) rfl)) rfl rfl;have hL:=I;replace hL:=hL.zf (R:=(aO.int .i64)) 0 rfl 0 rfl;obtain⟨o,h,B⟩:=bd B;refine ec 11 I Ry (Lc _ _ hL.dlt ([b,c]) _ hL.g0 _ h) fun _ w C a O U=>?_;obtain rfl:=C;have I:=eL U;refine gE [12] I fun a I=>?_;refine eD ?_;exact fz
def tn (b:Bool):=some (b)
def oF (b:Int):=cond (decide ((30:Int)<=b)) (tn (decide (b<=32))) (tn false)
theorem ED (c:Int) (y:Bool) (B:oF c=some y):bj aR No 196 [am c] L (fun v w'=>v = .bool y):=by
 refine en Tryz.func196 Tryz.ntmps196 hT fun a I=>?_;unfold oF at B;refine al I fun a I=>?_;refine aN (J:=fun a w=>∃ (b:Bool),St L No T 9 [(2,.bool b)] [] [] a w/\tn b=some y) ?_ ?_
 ·exact fz
 rintro a w ⟨b,I,B⟩;unfold tn at B;exact fz
def lC (c:ah):=(oF c.k).bind fun d=>cond (!(d)) (some ((-1))) ((zr c.t).bind fun b=>cond b.2 (some ((-1))) (cond (decide (b.1<0)) (some ((-1))) (cond (decide ((99:Int)<b.1)) (some ((-1))) ((zH b.1).bind fun e=>cond (!(e.toList==c.t.toList)) (some ((-1))) (some (b.1))))))
theorem FC (hLv:fi T L) (b:ah) (y:Int) (B:lC b=some y):bj aR No 160 [.agg (bm b).toArray] L (fun v w'=>v=am y):=by
 refine en Tryz.func160 Tryz.ntmps160 hT fun a I=>?_;replace I:=I.fact ci (fi.dn hLv);unfold lC at B;refine kB I fun n o a w O I=>?_;refine al I fun a I=>?_;refine aA ?_;refine al I fun a I=>?_;obtain⟨p,f,B⟩:=bd B;refine kF I OS (ED _ _ I.dlt b.k _ f) fun w a I=>?_;rcases cd B with⟨j,B⟩|⟨j,B⟩
 ·exact fz
 refine al I fun a I=>?_;obtain⟨e,g,B⟩:=bd B;refine kc I RJ (Nk _ _ I.dlt I.g0 b.t _ g) fun _ w C a O U=>?_;obtain⟨s,he,d⟩:=C;obtain rfl:=he.symm;have I:=U [] (fun r hr=>by cases hr) sD;refine al I fun a I=>?_;refine aA ?_;refine aA ?_;refine dr [] I fun w hQ I=>?_;refine gE [0] I fun a I=>?_;refine dq 1 I (v:=.bool e.2) (Om I rfl d Sc) fun a I=>?_;refine gE [2] I fun a I=>?_;rcases cd B with⟨l,B⟩|⟨l,B⟩
 ·refine gE [3,4,5,6,7,8,9,10,11,12,13,14,15,16] I fun a I=>?_;refine eD ?_;exact fz
 refine gE [3,4,5,6] I fun a I=>?_;rcases cd B with⟨m,B⟩|⟨m,B⟩
 ·refine gE [7,8,9,10,11,12,13,14,15,16] I fun a I=>?_;refine eD ?_;exact fz
 refine gE [7,8,9,10] I fun a I=>?_;rcases cd B with⟨c,B⟩|⟨c,B⟩
 ·refine gE [11,12,13,14,15,16] I fun a I=>?_;refine eD ?_;exact fz
 refine gE [11,13,14] I fun a I=>?_;obtain⟨q,h,B⟩:=bd B;refine ey (i:=12) rfl (by kernel_rfl) I rfl rfl rfl c (bP I IY rfl rfl (BW _ _ I.dlt I.g0 e.1 _ h) fun _ w C a O U=>⟨iJ (O),?_⟩);obtain rfl:=C;have I:=eL U;refine gE [15,16] I fun a I=>?_;refine eD ?_;exact fz
def e8 (b:Bool):=some (b)
def iL (b:Int):=cond (decide ((1:Int)<=b)) (e8 (decide (b<=22))) (e8 false)
theorem wD (c:Int) (y:Bool) (B:iL c=some y):bj aR No 197 [am c] L (fun v w'=>v = .bool y):=by
 refine en Tryz.func197 Tryz.ntmps197 hT fun a I=>?_;unfold iL at B;refine al I fun a I=>?_;refine aN (J:=fun a w=>∃ (b:Bool),St L No T 9 [(2,.bool b)] [] [] a w/\e8 b=some y) ?_ ?_
 ·exact fz
 rintro a w ⟨b,I,B⟩;unfold e8 at B;exact fz
def gJ (b:Bool):=some (b)
def jY (b:ah) (c:Bool):=(iL b.k).bind fun d=>cond d (cond (decide (((b.t.size:Int):Int)<=1073741824)) (cond (!(c)) (gJ true) (gJ (b.t.toList==cr.toList))) (gJ false)) (gJ false)
def dt (b:ah):=(oF b.k).bind fun c=>cond c ((lC b).bind fun d=>some (decide ((0:Int)<=d))) (cond (b.k==1) (jY b true) (jY b (b.k==21)))
theorem rN (hLv:fi T L) (b:ah) (y:Bool) (B:dt b=some y):bj aR No 157 [.agg (bm b).toArray] L (fun v w'=>v = .bool y):=by
 refine en Tryz.func157 Tryz.ntmps157 hT fun a I=>?_;replace I:=I.fact ci (fi.dn hLv);unfold dt at B;refine kB I fun e j a w O I=>?_;refine al I fun a I=>?_;refine aA ?_;refine al I fun a I=>?_;obtain⟨m,g,B⟩:=bd B;refine kF I OS (ED _ _ I.dlt b.k _ g) fun w a I=>?_;rcases cd B with⟨i,B⟩|⟨i,B⟩
 ·refine al I fun a I=>?_;obtain⟨n,h,B⟩:=bd B;refine kE I Rr (FC _ _ I.dlt I.g0 b _ h) fun w a I=>?_;exact fz
 refine al I fun a I=>?_;refine aN (J:=fun a w=>∃ (c:Bool),St L No T 36 [(1,pt e 0),(3,.bool c)] [.box e (bm b) 30] [ci] a w/\jY b c=some y) ?_ ?_
 ·exact fz
 rintro a w ⟨c,I,B⟩;unfold jY at B;refine aN (J:=fun a w=>∃ (d:Bool),St L No T 36 [(2,.bool d)] [] [ci] a w/\gJ d=some y) ?_ ?_
 ·refine al I fun a I=>?_;obtain⟨l,f,B⟩:=bd B;refine kE I OT (wD _ _ I.dlt b.k _ f) fun w a I=>?_;exact fz
 rintro a w ⟨d,I,B⟩;unfold gJ at B;exact fz
def nA (b:Bool):=some (b)
def pc (b:ah):=cond (b.k==1) (nA true) (cond (b.k==2) (nA true) (nA (b.k==30)))
theorem wC (c:ah) (y:Bool) (B:pc c=some y):bj aR No 177 [.agg (bm c).toArray] L (fun v w'=>v = .bool y):=by
 refine en Tryz.func177 Tryz.ntmps177 hT fun a I=>?_;unfold pc at B;refine kB I fun d e a w O I=>?_;refine al I fun a I=>?_;refine aN (J:=fun a w=>∃ (b:Bool),St L No T 16 [(2,.bool b)] [] [] a w/\nA b=some y) ?_ ?_
 ·exact fz
 rintro a w ⟨b,I,B⟩;unfold nA at B;exact fz
def mN:=some (false)
def fy (b:Bool):=cond b (some (true)) (mN)
def pG (b:Int):=cond (b==7) (fy (b==7)) (cond (b==14) (fy (b==14)) (cond (b==17) (fy (b==17)) (fy (b==18))))
theorem AT (c:Int) (y:Bool) (B:pG c=some y):bj aR No 249 [am c] L (fun v w'=>v = .bool y):=by
 refine en Tryz.func249 Tryz.ntmps249 hT fun a I=>?_;unfold pG at B;refine al I fun a I=>?_;refine aN (J:=fun a w=>St L No T 9 [] [] [] a w/\mN=some y) ?_ ?_
 ·refine al I fun a I=>?_;refine aN (J:=fun a w=>∃ (b:Bool),St L No T 9 [(4,.bool b)] [] [] a w/\fy b=some y) ?_ ?_
  ·exact fz
  rintro a w ⟨b,I,B⟩;unfold fy at B;exact fz
 rintro a w ⟨I,B⟩;unfold mN at B;exact fz
def mi (b:Bool):=some (b)
def tl (b:ah):=cond (b.k==32) (mi true) ((iL b.k).bind fun c=>cond c ((pG b.k).bind fun d=>mi d) (mi false))
theorem FB (c:ah) (y:Bool) (B:tl c=some y):bj aR No 218 [.agg (bm c).toArray] L (fun v w'=>v = .bool y):=by
 refine en Tryz.func218 Tryz.ntmps218 hT fun a I=>?_;unfold tl at B;refine kB I fun h i a w O I=>?_;refine al I fun a I=>?_;refine aN (J:=fun a w=>∃ (b:Bool),St L No T 16 [(2,.bool b)] [] [] a w/\mi b=some y) ?_ ?_
 ·refine al I fun a I=>?_;rcases cd B with⟨d,B⟩|⟨d,B⟩
  ·exact fz
  refine al I fun a I=>?_;obtain⟨j,f,B⟩:=bd B;refine wg I rfl rfl rfl d (bP I OT rfl rfl (wD _ _ I.dlt c.k _ f) fun _ w C a O U=>?_);obtain rfl:=C;have I:=eL U;refine al I fun a I=>?_;rcases cd B with⟨e,B⟩|⟨e,B⟩
  ·refine al I fun a I=>?_;obtain⟨l,g,B⟩:=bd B;refine wg I rfl rfl rfl e (bP I RU rfl rfl (AT _ _ I.dlt c.k _ g) fun _ w C a O U=>?_);obtain rfl:=C;have I:=eL U;exact fz
  exact fz
 rintro a w ⟨b,I,B⟩;unfold mi at B;exact fz
def jp (c:ah):=(dt c).bind fun b=>some (!(b))
theorem AU (hLv:fi T L) (b:ah) (y:Bool) (B:jp b=some y):bj aR No 219 [.agg (bm b).toArray] L (fun v w'=>v = .bool y):=by
 refine en Tryz.func219 Tryz.ntmps219 hT fun a I=>?_;replace I:=I.fact ci (fi.dn hLv);unfold jp at B;refine kB I fun d e a w O I=>?_;refine al I fun a I=>?_;obtain⟨f,c,B⟩:=bd B;refine kE I Gu (rN _ _ I.dlt I.g0 b _ c) fun w a I=>?_;exact fz
def ug:=some ((-1))
def gI (c:LK) (f:ah->Option Bool) (b:Int):Option (Fl (Int) (Fl (Unit) Int)):=cond (decide (b<(c.length:Int))) ((bO c b).bind fun d=>(f d).bind fun e=>cond e (some (.out (.out b))) (some (.go (IntKind.i64.wrap (b+1))))) (some (.out (.go ())))
def qv (b:ah->Option Bool) (c:LK):=(loop (fun s:Int=>gI c b s) 0).bind fun r=>Fl.el r (fun s=>ug) (fun y=>some (y))
theorem Fy (hLv:fi T L) (f_1g:Nat) (f:aS aR f_1g=true) (f_1k:bK) (f_1P:cL) (d:ah->Option Bool) (m:∀ (T:Nat->Prop) (L:World) (hT:TW T L) (hLv:fi T L) (hP:f_1P.p T L) (q:ah) (y:Bool) (B:d q=some y),bj aR No f_1g ([.agg (bm q).toArray]++f_1k) L (fun v w'=>v = .bool y)) (e:f_1P.p T L) (c:LK) (i:Value) (o:aI ac T L i c) (y:Int) (B:qv d c=some y):bj aR No 250 [i,.func (.func f_1g) #[] f_1k.toArray] L (fun v w'=>v=am y):=by
 refine en Tryz.func250 Tryz.ntmps250 hT fun a I=>?_;replace I:=((I.fact f_1P (cL.dn _ e)).fact ci (fi.dn hLv)).fS (aI.dn o);unfold qv at B;refine al I fun a I=>?_;refine aN (J:=fun a w=>St L No T 19 [] [] [ci,f_1P] a w/\ug=some y) ?_ ?_
 ·refine al I fun a I=>?_;obtain⟨A,n,hMo1⟩:=bd B;refine bH _ (fun s a w=>∃ (b:Int),b=s/\St L No T 19 [(0,i),(1,.func (.func f_1g) #[] f_1k.toArray),(7,am (c.length:Int)),(8,am b)] [] [aT ac i c,ci,f_1P] a w) n ⟨_,rfl,I.mt [] [0,1,2]⟩ ?_;rintro s a w u ⟨b,rfl,I⟩ B hf1;have B:gI c d b=some u:=B;unfold gI at B;refine al I fun a I=>?_;refine aA ?_;rcases cd B with⟨k,B⟩|⟨k,B⟩
  ·refine al I fun a I=>?_;refine aA ?_;refine al I fun a I=>?_;obtain⟨j,g,B⟩:=bd B;refine wl rfl (bE (R:=ac) I qR iQ rfl rfl 0 rfl g rfl fun r x t l a I=>?_);obtain rfl:=l;refine al I fun a I=>?_;obtain⟨z,h,B⟩:=bd B;refine wl rfl (Jc (cap:=f_1k) I rfl f rfl rfl (m _ _ I.dlt I.g2 I.g3 j _ h) fun _ w C a O U=>?_);obtain rfl:=C;have I:=eL U;exact fz
  exact fz
 rintro a w ⟨I,B⟩;unfold ug at B;exact fz
def iT (c:ah->Option Bool) (d:LK):=(qv c d).bind fun b=>some (decide ((0:Int)<=b))
theorem BF (hLv:fi T L) (f_1g:Nat) (e:aS aR f_1g=true) (f_1k:bK) (f_1P:cL) (b:ah->Option Bool) (g:∀ (T:Nat->Prop) (L:World) (hT:TW T L) (hLv:fi T L) (hP:f_1P.p T L) (j:ah) (y:Bool) (B:b j=some y),bj aR No f_1g ([.agg (bm j).toArray]++f_1k) L (fun v w'=>v = .bool y)) (d:f_1P.p T L) (c:LK) (i:Value) (h:aI ac T L i c) (y:Bool) (B:iT b c=some y):bj aR No 220 [i,.func (.func f_1g) #[] f_1k.toArray] L (fun v w'=>v = .bool y):=by
 refine en Tryz.func220 Tryz.ntmps220 hT fun a I=>?_;replace I:=((I.fact f_1P (cL.dn _ d)).fact ci (fi.dn hLv)).fS (aI.dn h);unfold iT at B;refine al I fun a I=>?_;obtain⟨k,f,B⟩:=bd B;refine kE I RW (Fy _ _ I.dlt I.g1 f_1g e f_1k f_1P b g I.g2 c _ I.g0 _ f) fun w a I=>?_;exact fz
def e9 (b:Bool):=some (b)
def dH (b:ay) (d:Bool):=cond d (some (false)) (cond (decide ((0:Int)<=b.x)) (cond (decide (b.x<=b.c)) (cond (decide (b.c<=1073741824)) (cond (decide ((1:Int)<=b.h)) (cond (decide (b.h<=1073741824)) ((iT jp b.v).bind fun e=>e9 (!(e))) (e9 false)) (e9 false)) (e9 false)) (e9 false)) (e9 false))
def lF (b:ay):=(dt b.d).bind fun c=>cond (!(c)) (dH b true) ((pc b.d).bind fun e=>cond e (dH b true) (cond (decide ((1073741824:Int)<(b.u.size:Int))) (dH b true) (cond (decide ((4000:Int)<(b.v.length:Int))) (dH b true) (cond b.w ((tl b.d).bind fun f=>dH b (!(f))) (dH b false)))))
theorem C4 (hLv:fi T L) (b:ay) (n:Value) (z:aI ac T L n b.v) (y:Bool) (B:lF b=some y):bj aR No 176 [.agg (bA b n).toArray] L (fun v w'=>v = .bool y):=by
 refine en Tryz.func176 Tryz.ntmps176 hT fun a I=>?_;replace I:=(I.fact ci (fi.dn hLv)).fS (aI.dn z);unfold lF at B;refine kB I fun f A a w O I=>?_;refine al I fun a I=>?_;refine aA ?_;refine aN (J:=fun a w=>∃ (e:Bool),St L No T 67 [(1,pt f 0),(34,.bool e)] [.box f (bA b n) 33] [aT ac n b.v,ci] a w/\dH b e=some y) ?_ ?_
 ·refine al I fun a I=>?_;obtain⟨E,k,B⟩:=bd B;refine kF I Gu (rN _ _ I.dlt I.g1 b.d _ k) fun w a I=>?_;rcases cd B with⟨g,B⟩|⟨g,B⟩
  ·exact fz
  refine al I fun a I=>?_;obtain⟨F,l,B⟩:=bd B;refine wg I rfl rfl rfl g (bP I K5 rfl rfl (wC _ _ I.dlt b.d _ l) fun _ w C a O U=>?_);obtain rfl:=C;have I:=eL U;refine al I fun a I=>?_;rcases cd B with⟨o,B⟩|⟨o,B⟩
  ·exact fz
  refine al I fun a I=>?_;rcases cd B with⟨p,B⟩|⟨p,B⟩
  ·exact fz
  refine al I fun a I=>?_;rcases cd B with⟨q,B⟩|⟨q,B⟩
  ·exact fz
  refine al I fun a I=>?_;rcases cd B with⟨h,B⟩|⟨h,B⟩
  ·refine al I fun a I=>?_;obtain⟨G,m,B⟩:=bd B;refine wg I rfl rfl rfl h (bP I RN rfl rfl (FB _ _ I.dlt b.d _ m) fun _ w C a O U=>?_);obtain rfl:=C;have I:=eL U;exact fz
  exact fz
 rintro a w ⟨e,I,B⟩;unfold dH at B;rcases cd B with⟨r,B⟩|⟨r,B⟩
 ·exact fz
 refine al I fun a I=>?_;refine aN (J:=fun a w=>∃ (c:Bool),St L No T 67 [(2,.bool c)] [] [ci] a w/\e9 c=some y) ?_ ?_
 ·refine al I fun a I=>?_;rcases cd B with⟨s,B⟩|⟨s,B⟩
  ·refine al I fun a I=>?_;rcases cd B with⟨t,B⟩|⟨t,B⟩
   ·refine al I fun a I=>?_;rcases cd B with⟨u,B⟩|⟨u,B⟩
    ·refine al I fun a I=>?_;rcases cd B with⟨x,B⟩|⟨x,B⟩
     ·refine al I fun a I=>?_;rcases cd B with⟨i,B⟩|⟨i,B⟩
      ·refine al I fun a I=>?_;obtain⟨D,j,B⟩:=bd B;refine wg I rfl rfl rfl i (bP I RP rfl rfl (BF _ _ I.dlt I.g1 219 RO [] OB jp (fun T L hT hLv _ H y B=>AU T L hT hLv H y B) trivial b.v _ I.g0 _ j) fun _ w C a O U=>?_);obtain rfl:=C;have I:=eL U;exact fz
      exact fz
     exact fz
    exact fz
   exact fz
  exact fz
 rintro a w ⟨c,I,B⟩;unfold e9 at B;exact fz
def nU (b:LR):=some (decide ((b.length:Int)<=4000))
def dO (b:Int) (c:Bool):Option (Fl (Int) (Fl (Unit) Bool)):=cond c (some (.out (.out false))) (some (.go (IntKind.i64.wrap (b+1))))
def di (e:LR) (b:Int):=cond (decide (b<(e.length:Int))) ((bO e b).bind fun c=>(lF c).bind fun g=>cond (!(g)) (dO b true) (cond (decide ((0:Int)<b)) ((bO e (IntKind.i64.wrap (b-1))).bind fun f=>(xr f.d c.d).bind fun h=>dO b (decide ((0:Int)<=h))) (dO b false))) (some (.out (.go ())))
def gv (b:LR):=(loop (fun s:Int=>di b s) 0).bind fun r=>Fl.el r (fun s=>nU b) (fun y=>some (y))
theorem yO (hLv:fi T L) (b:LR) (e:Value) (F:aI aa T L e b) (y:Bool) (B:gv b=some y):bj aR No 122 [e] L (fun v w'=>v = .bool y):=by
 refine en Tryz.func122 Tryz.ntmps122 hT fun a I=>?_;replace I:=(I.fact ci (fi.dn hLv)).fS (aI.dn F);unfold gv at B;refine al I fun a I=>?_;refine aN (J:=fun a w=>St L No T 35 [(0,e)] [] [aT aa e b,ci] a w/\nU b=some y) ?_ ?_
 ·refine al I fun a I=>?_;obtain⟨X,E,hMo1⟩:=bd B;refine bH _ (fun s a w=>∃ (c:Int),c=s/\St L No T 35 [(0,e),(5,e),(6,am (b.length:Int)),(7,am c)] [] [aT aa e b,ci] a w) E ⟨_,rfl,I.mt [] [0,1]⟩ ?_;rintro s a w D ⟨c,rfl,I⟩ B hf1;have B:di b c=some D:=B;unfold di at B;refine al I fun a I=>?_;refine aA ?_;rcases cd B with⟨r,B⟩|⟨r,B⟩
  ·refine al I fun a I=>?_;refine aA ?_;refine al I fun a I=>?_;obtain⟨h,j,B⟩:=bd B;refine wl rfl (bE (R:=aa) I qQ oy rfl rfl 0 rfl j rfl fun G P K t a I=>?_);obtain⟨V,rfl,n⟩:=t;replace I:=I.fS n;refine kA I f0 fun H N a w O I=>?_;refine go I fun a w I=>?_;refine aN (J:=fun a w=>∃ (f:Bool),St L No T 35 [(0,e),(5,e),(6,am (b.length:Int)),(7,am c),(30,.bool f)] [] [aT aa e b,ci] a w/\dO c f=some D) ?_ ?_
   ·refine dr [] I fun w hQ I=>?_;refine gE [0] I fun a I=>?_;obtain⟨Q,l,B⟩:=bd B;refine ec 1 I Rx (C4 _ _ I.dlt I.g3 h _ I.g0 _ l) fun _ w C a O U=>?_;obtain rfl:=C;have I:=eL U;refine gE [2,3] I fun a I=>?_;rcases cd B with⟨u,B⟩|⟨u,B⟩
    ·refine gE [4,5,6,7,8,9,10,11,12,13,14,15,16,17,18] I fun a I=>?_;refine eD ?_;exact fin
    refine gE [4,5,6] I fun a I=>?_;rcases cd B with⟨g,B⟩|⟨g,B⟩
    ·refine gE [7,8,9] I fun a I=>?_;obtain⟨q,k,B⟩:=bd B;obtain⟨p,A,M,x,z,I⟩:=nw (R:=aa) I qQ oy 2 rfl k;obtain⟨W,rfl,o⟩:=x;replace I:=I.fS o;refine dg 10 I g (v:=pt p A) (z rfl rfl) fun a I=>?_;refine gE [11,12,13,14] I fun a I=>?_;obtain⟨S,m,B⟩:=bd B;refine ey (i:=15) rfl (by kernel_rfl) I rfl rfl rfl g (bP I OK rfl rfl (EB _ _ I.dlt I.g5 q.d h.d _ m) fun _ w C a O U=>⟨iJ (O),?_⟩);obtain rfl:=C;have I:=eL U;refine gE [16,17,18] I fun a I=>?_;refine eD ?_;exact fin
    refine gE [7,8,9,10,11,12,13,14,15,16,17,18] I fun a I=>?_;refine eD ?_;exact fin
   rintro a w ⟨f,I,B⟩;unfold dO at B;exact fz
  exact fz
 rintro a w ⟨I,B⟩;unfold nU at B;exact fz
def j9 (b:Bool):=some (b)
def lj (b:ah):=(dt b).bind fun c=>cond c ((pc b).bind fun d=>j9 d) (j9 false)
theorem AY (hLv:fi T L) (c:ah) (y:Bool) (B:lj c=some y):bj aR No 123 [.agg (bm c).toArray] L (fun v w'=>v = .bool y):=by
 refine en Tryz.func123 Tryz.ntmps123 hT fun a I=>?_;replace I:=I.fact ci (fi.dn hLv);unfold lj at B;refine kB I fun g h a w O I=>?_;refine al I fun a I=>?_;refine aN (J:=fun a w=>∃ (b:Bool),St L No T 9 [(2,.bool b)] [] [ci] a w/\j9 b=some y) ?_ ?_
 ·refine al I fun a I=>?_;obtain⟨i,e,B⟩:=bd B;refine kF I Gu (rN _ _ I.dlt I.g0 c _ e) fun w a I=>?_;rcases cd B with⟨d,B⟩|⟨d,B⟩
  ·refine al I fun a I=>?_;obtain⟨j,f,B⟩:=bd B;refine wg I rfl rfl rfl d (bP I K5 rfl rfl (wC _ _ I.dlt c _ f) fun _ w C a O U=>?_);obtain rfl:=C;have I:=eL U;exact fz
  exact fz
 rintro a w ⟨b,I,B⟩;unfold j9 at B;exact fz
def qw:=some ((-1))
def eC (c:LR) (f:ay->Option Bool) (b:Int):Option (Fl (Int) (Fl (Unit) Int)):=cond (decide (b<(c.length:Int))) ((bO c b).bind fun d=>(f d).bind fun e=>cond e (some (.out (.out b))) (some (.go (IntKind.i64.wrap (b+1))))) (some (.out (.go ())))
def mh (b:ay->Option Bool) (c:LR):=(loop (fun s:Int=>eC c b s) 0).bind fun r=>Fl.el r (fun s=>qw) (fun y=>some (y))
theorem BJ (hLv:fi T L) (f_1g:Nat) (f:aS aR f_1g=true) (f_1k:bK) (f_1P:cL) (d:ay->Option Bool) (o:∀ (T:Nat->Prop) (L:World) (hT:TW T L) (hLv:fi T L) (hP:f_1P.p T L) (q:ay) (k:Value) (A:aI ac T L k q.v) (y:Bool) (B:d q=some y),bj aR No f_1g ([.agg (bA q k).toArray]++f_1k) L (fun v w'=>v = .bool y)) (e:f_1P.p T L) (c:LR) (j:Value) (t:aI aa T L j c) (y:Int) (B:mh d c=some y):bj aR No 180 [j,.func (.func f_1g) #[] f_1k.toArray] L (fun v w'=>v=am y):=by
 refine en Tryz.func180 Tryz.ntmps180 hT fun a I=>?_;replace I:=((I.fact f_1P (cL.dn _ e)).fact ci (fi.dn hLv)).fS (aI.dn t);unfold mh at B;refine al I fun a I=>?_;refine aN (J:=fun a w=>St L No T 19 [] [] [ci,f_1P] a w/\qw=some y) ?_ ?_
 ·refine al I fun a I=>?_;obtain⟨G,r,hMo1⟩:=bd B;refine bH _ (fun s a w=>∃ (b:Int),b=s/\St L No T 19 [(0,j),(1,.func (.func f_1g) #[] f_1k.toArray),(7,am (c.length:Int)),(8,am b)] [] [aT aa j c,ci,f_1P] a w) r ⟨_,rfl,I.mt [] [0,1,2]⟩ ?_;rintro s a w z ⟨b,rfl,I⟩ B hf1;have B:eC c d b=some z:=B;unfold eC at B;refine al I fun a I=>?_;refine aA ?_;rcases cd B with⟨m,B⟩|⟨m,B⟩
  ·refine al I fun a I=>?_;refine aA ?_;refine al I fun a I=>?_;obtain⟨l,g,B⟩:=bd B;refine wl rfl (bE (R:=aa) I qQ oy rfl rfl 0 rfl g rfl fun u D x n a I=>?_);obtain⟨F,rfl,i⟩:=n;replace I:=I.fS i;refine al I fun a I=>?_;obtain⟨E,h,B⟩:=bd B;refine wl rfl (Jc (cap:=f_1k) I rfl f rfl rfl (o _ _ I.dlt I.g3 I.g4 l _ I.g0 _ h) fun _ w C a O U=>?_);obtain rfl:=C;have I:=eL U;exact fz
  exact fz
 rintro a w ⟨I,B⟩;unfold qw at B;exact fz
def bz (c:ay->Option Bool) (d:LR):=(mh c d).bind fun b=>some (decide ((0:Int)<=b))
theorem lu (hLv:fi T L) (f_1g:Nat) (e:aS aR f_1g=true) (f_1k:bK) (f_1P:cL) (b:ay->Option Bool) (h:∀ (T:Nat->Prop) (L:World) (hT:TW T L) (hLv:fi T L) (hP:f_1P.p T L) (i:ay) (g:Value) (l:aI ac T L g i.v) (y:Bool) (B:b i=some y),bj aR No f_1g ([.agg (bA i g).toArray]++f_1k) L (fun v w'=>v = .bool y)) (d:f_1P.p T L) (c:LR) (k:Value) (j:aI aa T L k c) (y:Bool) (B:bz b c=some y):bj aR No 125 [k,.func (.func f_1g) #[] f_1k.toArray] L (fun v w'=>v = .bool y):=by
 refine en Tryz.func125 Tryz.ntmps125 hT fun a I=>?_;replace I:=((I.fact f_1P (cL.dn _ d)).fact ci (fi.dn hLv)).fS (aI.dn j);unfold bz at B;refine al I fun a I=>?_;obtain⟨m,f,B⟩:=bd B;refine kE I RA (BJ _ _ I.dlt I.g1 f_1g e f_1k f_1P b h I.g2 c _ I.g0 _ f) fun w a I=>?_;exact fz
def jj (d:ay) (b:ao):=some (decide (b.r<d.c))
theorem yV (c:ay) (b:ao) (l f g:Value) (d:Nat) (h:aI ac T L l c.v) (j:aI ab T L f b.i) (k:aI aa T L g b.s) (e:(fb d 0 (bp b f g)).p T L) (y:Bool) (B:jj c b=some y):bj aR No 126 [.agg (bA c l).toArray,pt d 0] L (fun v w'=>v = .bool y):=by
 refine en Tryz.func126 Tryz.ntmps126 hT fun a I=>?_;replace I:=(((I.fact (fb d 0 (bp b f g)) (cL.dn _ e)).fS (aI.dn h)).fS (aI.dn j)).fS (aI.dn k);unfold jj at B;refine kB I fun m n a w O I=>?_;exact fz
def io (b:ao):=(bz (fun d=>jj d b) b.s).bind fun c=>some (!(c))
def cG (b:Int) (c:Bool):Option (Fl (Int) (Fl (Unit) Bool)):=cond c (some (.out (.out false))) (some (.go (IntKind.i64.wrap (b+1))))
def dU (e:ao) (b:Int):=cond (decide (b<(e.i.length:Int))) ((bO e.i b).bind fun c=>(lj c.d).bind fun g=>cond (!(g)) (cG b true) (cond (decide ((0:Int)<b)) ((bO e.i (IntKind.i64.wrap (b-1))).bind fun f=>(xr f.d c.d).bind fun h=>cond (decide ((0:Int)<=h)) (cG b true) (cond (decide ((1073741824:Int)<(c.u.size:Int))) (cG b true) (cond (decide (c.x<0)) (cG b true) (cG b (decide (e.r<c.x)))))) (cond (decide ((1073741824:Int)<(c.u.size:Int))) (cG b true) (cond (decide (c.x<0)) (cG b true) (cG b (decide (e.r<c.x))))))) (some (.out (.go ())))
def eu (b:ao):=cond (decide (b.r<0)) (some (false)) (cond (decide ((1073741824:Int)<b.r)) (some (false)) (cond (decide ((64:Int)<(b.i.length:Int))) (some (false)) ((gv b.s).bind fun c=>cond (!(c)) (some (false)) ((loop (fun s:Int=>dU b s) 0).bind fun r=>Fl.el r (fun s=>io b) (fun y=>some (y))))))
theorem uT (hLv:fi T L) (b:ao) (f g:Value) (Z:aI ab T L f b.i) (a0:aI aa T L g b.s) (y:Bool) (B:eu b=some y):bj aR No 43 [.agg (bp b f g).toArray] L (fun v w'=>v = .bool y):=by
 refine en Tryz.func43 Tryz.ntmps43 hT fun a I=>?_;replace I:=((I.fact ci (fi.dn hLv)).fS (aI.dn Z)).fS (aI.dn a0);unfold eu at B;refine kB I fun c a6 a w O I=>?_;refine al I fun a I=>?_;refine aA ?_;refine dW ?_;refine al I fun a I=>?_;rcases cd B with⟨x,B⟩|⟨x,B⟩
 ·exact fz
 refine al I fun a I=>?_;rcases cd B with⟨z,B⟩|⟨z,B⟩
 ·exact fz
 refine al I fun a I=>?_;rcases cd B with⟨l,B⟩|⟨l,B⟩
 ·exact fz
 refine al I fun a I=>?_;obtain⟨an,r,B⟩:=bd B;refine wg I rfl rfl rfl l (bP I Q5 rfl rfl (yO _ _ I.dlt I.g2 b.s _ I.g0 _ r) fun _ w C a O U=>?_);obtain rfl:=C;have I:=eL U;refine al I fun a I=>?_;rcases cd B with⟨A,B⟩|⟨A,B⟩
 ·exact fz
 refine al I fun a I=>?_;refine aN (J:=fun a w=>St L No T 78 [(1,pt c 0)] [.box c (bp b f g) 25] [aT ab f b.i,aT aa g b.s,ci] a w/\io b=some y) ?_ ?_
 ·refine al I fun a I=>?_;obtain⟨r1,Y,hMo1⟩:=bd B;refine bH _ (fun s a w=>∃ (e:Int),e=s/\St L No T 78 [(1,pt c 0),(26,f),(27,am (b.i.length:Int)),(28,am e)] [.box c (bp b f g) 25] [aT ab f b.i,aT aa g b.s,ci] a w) Y ⟨_,rfl,I.mt [0] [1,0,2]⟩ ?_;rintro s a w X ⟨e,rfl,I⟩ B hf1;have B:dU b e=some X:=B;unfold dU at B;refine al I fun a I=>?_;refine aA ?_;rcases cd B with⟨D,B⟩|⟨D,B⟩
  ·refine al I fun a I=>?_;refine aA ?_;refine al I fun a I=>?_;obtain⟨k,m,B⟩:=bd B;refine wl rfl (bE (R:=ab) I Dp BS rfl rfl 0 rfl m rfl fun a2 a9 a4 E a I=>?_);obtain rfl:=E;refine kA I vU fun a3 a7 a w O I=>?_;refine go I fun a w I=>?_;refine aN (J:=fun a w=>∃ (h:Bool),St L No T 78 [(1,pt c 0),(26,f),(27,am (b.i.length:Int)),(28,am e),(71,.bool h)] [.box c (bp b f g) 25] [aT ab f b.i,aT aa g b.s,ci] a w/\cG e h=some X) ?_ ?_
   ·refine dr [] I fun w hQ I=>?_;refine gE [0,1] I fun a I=>?_;obtain⟨ag,p,B⟩:=bd B;refine ec 2 I Q6 (AY _ _ I.dlt I.g3 k.d _ p) fun _ w C a O U=>?_;obtain rfl:=C;have I:=eL U;refine gE [3,4] I fun a I=>?_;rcases cd B with⟨F,B⟩|⟨F,B⟩
    ·refine gE [5,6,7,8,9,10,11,12,13,14,15,16,17,18,19,20,21,22,23,24,25,26,27,28,29,30,31,32,33,34,35,36,37,38] I fun a I=>?_;refine eD ?_;exact fin
    refine gE [5,6,7] I fun a I=>?_;rcases cd B with⟨j,B⟩|⟨j,B⟩
    ·refine gE [8,9,10,11] I fun a I=>?_;obtain⟨u,n,B⟩:=bd B;obtain⟨t,V,a5,G,H,I⟩:=nw (R:=ab) I Dp BS 1 rfl n;obtain rfl:=G;refine dg 12 I j (v:=pt t V) (H rfl rfl) fun a I=>?_;refine gE [13,14,15,16] I fun a I=>?_;obtain⟨ak,q,B⟩:=bd B;refine ey (i:=17) rfl (by kernel_rfl) I rfl rfl rfl j (bP I OK rfl rfl (EB _ _ I.dlt I.g4 u.d k.d _ q) fun _ w C a O U=>⟨iJ (O),?_⟩);obtain rfl:=C;have I:=eL U;refine gE [18,19,20,21] I fun a I=>?_;rcases cd B with⟨K,B⟩|⟨K,B⟩
     ·refine gE [22,23,24,25,26,27,28,29,30,31,32,33,34,35,36,37,38] I fun a I=>?_;refine eD ?_;exact fin
     refine gE [22,23,24,25,26,27] I fun a I=>?_;rcases cd B with⟨M,B⟩|⟨M,B⟩
     ·refine gE [28,29,30,31,32,33,34,35,36,37,38] I fun a I=>?_;refine eD ?_;exact fin
     refine gE [28,29,30,31,32] I fun a I=>?_;rcases cd B with⟨N,B⟩|⟨N,B⟩
     ·refine gE [33,34,35,36,37,38] I fun a I=>?_;refine eD ?_;exact fin
     refine gE [33,34,35,36,37,38] I fun a I=>?_;refine eD ?_;exact fin
    refine gE [8,9,10,11,12,13,14,15,16,17,18,19,20,21,22,23,24,25,26,27] I fun a I=>?_;rcases cd B with⟨P,B⟩|⟨P,B⟩
    ·refine gE [28,29,30,31,32,33,34,35,36,37,38] I fun a I=>?_;refine eD ?_;exact fin
    refine gE [28,29,30,31,32] I fun a I=>?_;rcases cd B with⟨Q,B⟩|⟨Q,B⟩
    ·refine gE [33,34,35,36,37,38] I fun a I=>?_;refine eD ?_;exact fin
    refine gE [33,34,35,36,37,38] I fun a I=>?_;refine eD ?_;exact fin
   rintro a w ⟨h,I,B⟩;unfold cG at B;exact fz
  exact fz
 rintro a w ⟨I,B⟩;unfold io at B;refine al I fun a I=>?_;replace I:=I.zx 0 rfl;refine qy I (xe (vs:=[pt c 0]) I rfl) fun a I=>?_;obtain⟨af,o,B⟩:=bd B;refine kE I Q7 (lu _ _ I.dlt I.g3 126 Q8 [pt c 0] (Pt (fb c 0 (bp b f g)) (Pt (aT ab f b.i) (Pt (aT aa g b.s) OB))) (fun W=>jj W b) (fun T L hT hLv hP W a1 S y B=>yV T L hT W b a1 f g c S hP.2.1 hP.2.2.1 hP.1 y B) ⟨I.g0,I.g1,I.g2,trivial⟩ b.s _ I.g2 _ o) fun w a I=>?_;exact fz
end
end
section
open Go.Lib hiding intOf
variable {n:Nat}
theorem pB (n:Nat):itoa (n:Int)=decDigits n:=by
 unfold itoa
 first | rw [if_neg (by omega)]; simp | simp
noncomputable def ia (n:Nat):ah:=⟨30,db n⟩
theorem sW (h:n<1000000000):zH n=some (db n):=by
 unfold zH PY;rw [show (decide (-9223372036854775808<=(n:Int))&&decide ((n:Int)<=9223372036854775807))=true by simp; omega];rfl
theorem yP (h:n<100):o1 n=some (ia n):=by
 unfold o1;rw [show decide ((n:Int)<0)=false by simp,show decide ((99:Int)<(n:Int))=false by simp; omega];simp [cond,sW (show n<1000000000 by omega),ia]
theorem HT (h:n<1000):zr (db n)=some ((n:Int),false):=by
 unfold zr;have hl:(db n).toList=decDigits n:=by rw [tg,pB]
 have hs:(db n).size<=140737488355328:=by
  have h1:(db n).size=(itoa n).length:=by simp [db,ByteArray.size]
  have:=zB n 3 (by omega);rw [h1,pB]; omega
 rw [show Nat.ble (db n).size 140737488355328=true from sw hs,hl,Cf (by omega)];rfl
theorem LE (h:n<100):dt (ia n)=some true:=by
 have h1:oF 30=some true:=by unfold oF; rfl
 have h2:lC (ia n)=some n:=by
  unfold lC ia;rw [h1];simp only [ad,HT (show n<1000 by omega),sW (show n<1000000000 by omega)];rw [show decide ((n:Int)<0)=false by simp,show decide ((99:Int)<(n:Int))=false by simp; omega];simp
 unfold dt;rw [show (ia n).k=30 from rfl,h1,h2];simp
theorem FG (n:Int) {m:Nat} (hm:0<m) (hm2:m<=1000000000):∃ r:Nat,r<m/\mS n m=some (r:Int):=by
 have h1:=E2 n (b:=(m:Int)) (by omega);have h2 : -(m:Int)<Int.tmod n m:=by
  rcases (show n<0∨0<=n by omega) with h | h
  ·have:=E2 (-n) (b:=(m:Int)) (by omega);rw [Int.neg_tmod] at this;omega
  ·have:=E3 (m:Int) h;omega
 refine⟨(Int.tmod (Int.tmod n m+m) m).toNat,?_,?_⟩
 ·have h3:=E2 (Int.tmod n m+m) (b:=(m:Int)) (by omega);have h4:=E3 (a:=Int.tmod n m+m) (m:Int) (by omega);omega
 ·unfold mS;have h4:=E3 (a:=Int.tmod n m+m) (m:Int) (by omega);rw [show decide ((m:Int)<1)=false by simp; omega,show ((m:Int) != 0)=true by simp; omega,lU (by omega) (by omega),Int.toNat_of_nonneg h4];rfl
theorem JV (h:n<1000000000):zr (db n)=some ((n:Int),false):=by
 unfold zr;have hl:(db n).toList=decDigits n:=by rw [tg,pB]
 have hs:(db n).size<=140737488355328:=by
  have h1:(db n).size=(itoa n).length:=by simp [db,ByteArray.size]
  have:=zB n 9 (by omega);rw [h1,pB]; omega
 rw [show Nat.ble (db n).size 140737488355328=true from sw hs,hl,Cf (by omega)];rfl
theorem Kl {k:Int} (O:k=30∨k=31∨k=32) (h:n<100):lC ⟨k,db n⟩=some n:=by
 have h1:oF k=some true:=by rcases O with rfl | rfl | rfl <;> (unfold oF; rfl)
 unfold lC;rw [h1];simp only [ad,JV (show n<1000000000 by omega),sW (show n<1000000000 by omega)];rw [show decide ((n:Int)<0)=false by simp,show decide ((99:Int)<(n:Int))=false by simp; omega];simp
theorem MX {k:Int} (O:k=30∨k=31∨k=32) (h:n<100):dt ⟨k,db n⟩=some true:=by
 have h1:oF k=some true:=by rcases O with rfl | rfl | rfl <;> (unfold oF; rfl)
 unfold dt;rw [h1,Kl O h];simp
noncomputable def Js (r:aX) (n:Nat):ah:=⟨if r.o then 32 else 31,db n⟩
theorem Kr {l:List aX} (h:n<l.length) (h100:n<100):mV l n=some (Js l[n] n):=by
 unfold mV;rw [show decide ((n:Int)<0)=false by simp,show decide (((l.length:Int):Int)<=(n:Int))=false by simp; omega,show decide ((99:Int)<(n:Int))=false by simp; omega,bq h,sW (by omega)];simp only [ad,cond_false];unfold rR Js;cases l[n].o <;> simp
theorem Kx (s:ByteArray):s.toList.length=s.size:=by rw [ByteArray.toList_eq]; rfl
theorem J9 (c:UInt8) (r:List UInt8) (n:Nat):cT (c::r) n=if (decide (48<=c.toNat)&&decide (c.toNat<=57))=true then cT r (10*n+(c.toNat-48)) else -1:=rfl
theorem L1:cr.toList=[]:=by rw [ByteArray.toList_eq]
theorem Le (s:ByteArray):mp s=some (ta s.toList):=by
 have hsz:=Kx s;have j3t:dM s true=some (-1):=by unfold dM; rfl
 have j3f:s.size<=9->dM s false=some (cT s.toList 0):=fun h9=>by
  unfold dM;simp only [cond_false];have key:∃ r,loop (fun s_1:Int×Int=>jf s s_1.1 s_1.2) (0,0)=some r/\Fl.el r (fun s=>je s) (fun y=>some y)=some (cT s.toList 0):=?_
  ·obtain⟨r,h1,h2⟩:=key;rw [h1]; exact h2
  refine sX (fun k st=>∃ m:Nat,st=((m:Int),(k:Int))/\cT (s.toList.drop k) m=cT s.toList 0/\m<10 ^ k)
   (fun r=>Fl.el r (fun s=>je s) (fun y=>some y)=some (cT s.toList 0)) s.size (fun k st O hI=>?_) (fun st hI=>?_) ⟨0,rfl,rfl,by simp⟩
  ·obtain⟨m,rfl,e,hm⟩:=hI;have hk':k<s.toList.length:=by omega
   rw [Hw hk'] at e;unfold jf;rw [show decide ((k:Int)<(s.size:Int))=true by simpa using O,bq hk'];simp only [cond_true,ad];have hp:(10:Nat) ^ k<=10 ^ 8:=ux (by omega) (by omega);have hq:(10:Nat) ^ 8=100000000:=rfl;have hu:=(s.toList[k]).toNat_lt;rw [J9] at e;by_cases h48:((s.toList[k]).toNat:Int)<48
   ·rw [show decide (((s.toList[k]).toNat:Int)<48)=true by simpa using h48];rw [if_neg (by simp; omega)] at e;exact .inr ⟨_,rfl,by rw [<- e]; rfl⟩
   ·rw [show decide (((s.toList[k]).toNat:Int)<48)=false by simpa using h48];by_cases h57:(57:Int)<((s.toList[k]).toNat:Int)
    ·rw [show decide ((57:Int)<((s.toList[k]).toNat:Int))=true by simpa using h57];rw [if_neg (by simp; omega)] at e;exact .inr ⟨_,rfl,by rw [<- e]; rfl⟩
    ·rw [show decide ((57:Int)<((s.toList[k]).toNat:Int))=false by simpa using h57];rw [if_pos (by simp; omega)] at e;simp only [cond_false];have hw:IntKind.u8.wrap (((s.toList[k]).toNat:Int)-48)=(((s.toList[k]).toNat-48:Nat):Int):=by rw [IntKind.wrap_u8]; omega
     rw [hw,show IntKind.i64.wrap (10*(m:Int))=((10*m:Nat):Int) from (lU (by omega) (by omega)).trans (by omega),show IntKind.i64.wrap (((s.toList[k]).toNat-48:Nat):Int)=(((s.toList[k]).toNat-48:Nat):Int) from lU (by omega) (by omega),
      lU (by omega) (by omega),lU (by omega) (by omega)]
     exact .inl ⟨_,rfl,10*m+((s.toList[k]).toNat-48),by simp,e,by rw [Be]; omega⟩
  ·obtain⟨m,rfl,e,hm⟩:=hI;rw [<- hsz,Hx] at e;unfold jf;rw [show decide ((s.size:Int)<(s.size:Int))=false by simp];exact⟨_,rfl,by simp only [Fl.el,je]; rw [<- e]; rfl⟩
 unfold mp ta;have hz:(s.toList==cr.toList)=decide (s.toList=[]):=by rw [L1]; cases s.toList <;> rfl
 rw [hz];by_cases h0:s.toList=[]
 ·rw [if_pos (.inl h0),decide_eq_true h0]; exact j3t
 ·rw [decide_eq_false h0];simp only [cond_false];by_cases h9:9<s.toList.length
  ·rw [if_pos (.inr (.inl h9)),show decide ((9:Int)<(s.size:Int))=true by simp; omega]; exact j3t
  ·rw [show decide ((9:Int)<(s.size:Int))=false by simp; omega];have hl:0<s.toList.length:=List.length_pos_iff.2 h0;have h1:bO s.toList (0:Int)=some (s.toList.getD 0 0):=by
    have:=bq hl;simp only [Int.natCast_zero] at this;rw [this,M7,cH hl]; rfl
   rw [h1];simp only [cond_false,ad];by_cases h48:s.toList.getD 0 0=48
   ·rw [h48,show (((48:UInt8).toNat:Int)==48)=true from rfl];simp only [cond_true,true_and];have hq:(!(s.toList==(ByteArray.mk #[48]).toList))=decide (s.toList≠[48]):=by rw [show (ByteArray.mk #[48]).toList=[48] from by rw [ByteArray.toList_eq]]; by_cases h:s.toList=[48] <;> simp [h]
    rw [hq];by_cases h:s.toList=[48]
    ·rw [decide_eq_false (fun h2=>h2 h),j3f (by omega),if_neg (by rintro (h2 | h2 | h2); exact h0 h2; exact h9 h2; exact h2 h)]
    ·rw [decide_eq_true h,if_pos (.inr (.inr h))]; exact j3t
   ·have h48':((s.toList.getD 0 0).toNat:Int)≠48:=fun h=>h48 (UInt8.toNat_inj.1 (by have:(48:UInt8).toNat=48:=rfl; omega));rw [show (((s.toList.getD 0 0).toNat:Int)==48)=false by simpa using h48'];simp only [cond_false];rw [j3f (by omega),if_neg (by rintro (h2 | h2 | h2); exact h0 h2; exact h9 h2; exact h48 h2.1)]
theorem KP {M:Nat} (B:M<1000000000) {s:ByteArray} (hs:s.size<=140737488355328) :
  ∃ p,zr s=some p/\(-9223372036854775808<=p.1->p.1<=9223372036854775807->True)/\CZ M s.toList=(if p.2=true then -1 else if p.1<0∨(M:Int)<p.1 then -1 else if itoa p.1=s.toList then p.1 else -1):=by
 refine⟨_,by unfold zr; rw [show Nat.ble s.size 140737488355328=true from sw hs]; rfl,fun _ _=>trivial,?_⟩;rw [Kk M B];cases atoiAll s.toList <;> simp
theorem Kc {v:Int} (h0:0<=v) (h:v<1000000000):zH v=some (db v):=by
 obtain⟨n,rfl⟩:∃ n:Nat,v=n:=⟨v.toNat,by omega⟩;exact sW (by omega)
def BM (k:ah):Int:=if 30<=k.k/\k.k<=32 then CZ 99 k.t.toList else -1
theorem yY (k:Int):oF k=some (decide (30<=k/\k<=32)):=by
 unfold oF tn;by_cases h1:30<=k <;> by_cases h2:k<=32 <;> simp [h1,h2]
theorem CR {k:ah} (hs:k.t.size<=140737488355328):lC k=some (BM k):=by
 unfold lC BM;rw [yY];by_cases h:30<=k.k/\k.k<=32
 ·rw [if_pos h,decide_eq_true h];obtain⟨p,h1,_,h2⟩:=KP (M:=99) (by omega) hs;rw [h1,h2];simp only [ad,dJ,cond_false];obtain⟨v,b⟩:=p;cases b with
  | true=>rfl
  | false =>
   simp only [cond_false,E1,if_false];by_cases h3:v<0
   ·simp [h3]
   ·by_cases h4:(99:Int)<v
    ·simp [h3,h4]
    ·rw [Kc (by omega) (by omega),if_neg (by omega),decide_eq_false h3,decide_eq_false h4];simp only [cond_false,ad,tg];by_cases h5:itoa v=k.t.toList
     ·simp [h5]
     ·rw [if_neg h5,show (itoa v==k.t.toList)=false by simpa using h5]; rfl
 ·rw [if_neg h,decide_eq_false h]; rfl
theorem qP (k:ah):j2 k=some (BM k):=by
 unfold j2 BM CZ;rw [Le];simp only [ad];unfold jN;have:=I4 k.t.toList;by_cases h1:30<=k.k <;> by_cases h2:k.k<=32 <;> by_cases h3:ta k.t.toList<=99 <;> simp [h1,h2,h3]
end
section
open Go.Lib hiding intOf
variable {a b:ah}
theorem IS:∀ a:List UInt8,compareBytes a a=0
 | []=>rfl
 | x::r=>by
  have:¬ x<x:=UInt8.lt_irrefl x;simp [compareBytes,this,IS r]
theorem OG:∀ {a b:List UInt8},compareBytes a b=0->a=b
 | [],[],_=>rfl
 | [],_::_,h=>by simp [compareBytes] at h
 | _::_,[],h=>by simp [compareBytes] at h
 | x::a,y::b,h=>by
  unfold compareBytes at h;split at h
  ·cases h
  ·split at h
   ·cases h
   ·rename_i h1 h2;have e:x=y:=UInt8.le_antisymm (Bg.1 h2) (Bg.1 h1);rw [e,OG h]
theorem IR:∀ a b:List UInt8,compareBytes b a = -compareBytes a b
 | [],[]=>rfl
 | [],_::_=>rfl
 | _::_,[]=>rfl
 | x::a,y::b=>by
  unfold compareBytes;by_cases h1:x<y
  ·have h2:¬ y<x:=fun h=>UInt8.lt_irrefl _ (UInt8.lt_trans h1 h);simp [h1,h2]
  ·by_cases h2:y<x
   ·simp [h1,h2]
   ·simp [h1,h2,IR a b]
theorem KT (a b:List UInt8):compareBytes a b = -1∨compareBytes a b=0∨compareBytes a b=1:=by
 induction a generalizing b with
 | nil=>cases b <;> simp [compareBytes]
 | cons x a ih =>
  cases b with
  | nil=>simp [compareBytes]
  | cons y b =>
   unfold compareBytes;split
   ·simp
   ·split
    ·simp
    ·exact ih b
theorem Gr:∀ {a b c:List UInt8},compareBytes a b<0->compareBytes b c<0->compareBytes a c<0
 | [],[],_,h,_=>by simp [compareBytes] at h
 | [],_::_,[],_,h=>by simp [compareBytes] at h
 | [],_::_,_::_,_,_=>by simp [compareBytes]
 | _::_,[],_,h,_=>by simp [compareBytes] at h
 | _::_,_::_,[],_,h=>by simp [compareBytes] at h
 | x::a,y::b,z::c,h1,h2=>by
  unfold compareBytes at h1 h2 ⊢;by_cases e1:x<y
  ·by_cases e2:y<z
   ·simp [UInt8.lt_trans e1 e2]
   ·by_cases e3:z<y
    ·simp [e2,e3] at h2
    ·have e:y=z:=UInt8.le_antisymm (Bg.1 e3) (Bg.1 e2);subst e; simp [e1]
  ·by_cases e2:y<x
   ·simp [e1,e2] at h1
   ·have e:x=y:=UInt8.le_antisymm (Bg.1 e2) (Bg.1 e1);subst e;simp only [e1,if_false] at h1;by_cases e3:x<z
    ·simp [e3]
    ·by_cases e4:z<x
     ·simp [e3,e4] at h2
     ·simp only [e3,e4,if_false] at h2 ⊢;exact Gr h1 h2
def dC (a b:ah):Int:=if a.k<b.k then -1 else if b.k<a.k then 1 else compareBytes a.t.toList b.t.toList
theorem toList_inj {a b:ByteArray} (h:a.toList=b.toList):a=b:=by
 rw [ByteArray.toList_eq,ByteArray.toList_eq] at h;exact ByteArray.ext (HG.1 h)
theorem AN (a:ah):dC a a=0:=by simp [dC,IS]
theorem NQ (h:dC a b=0):a=b:=by
 unfold dC at h;split at h
 ·cases h
 ·split at h
  ·cases h
  ·obtain⟨k,t⟩:=a;obtain⟨l,s⟩:=b;simp only [ah.mk.injEq] at *;exact⟨by omega,toList_inj (OG h)⟩
theorem Ez (a b:ah):dC b a = -dC a b:=by
 unfold dC;by_cases h1:a.k<b.k
 ·have h2:¬ b.k<a.k:=by omega
  simp [h1,h2]
 ·by_cases h2:b.k<a.k
  ·simp [h1,h2]
  ·simp [h1,h2,IR a.t.toList]
theorem ti (a b:ah):dC a b = -1∨dC a b=0∨dC a b=1:=by
 unfold dC;split
 ·simp
 ·split
  ·simp
  ·exact KT _ _
theorem tj {c:ah} (h1:dC a b<0) (h2:dC b c<0):dC a c<0:=by
 unfold dC at h1 h2 ⊢;by_cases e1:a.k<b.k
 ·by_cases e2:b.k<c.k
  ·rw [if_pos (by omega)]; omega
  ·by_cases e3:c.k<b.k
   ·simp [e2,e3] at h2
   ·rw [if_pos (by omega)]; omega
 ·by_cases e2:b.k<a.k
  ·simp [e1,e2] at h1
  ·simp only [e1,e2,if_false] at h1;by_cases e3:b.k<c.k
   ·rw [if_pos (by omega)]; omega
   ·by_cases e4:c.k<b.k
    ·simp [e3,e4] at h2
    ·simp only [e3,e4,if_false] at h2;rw [if_neg (by omega),if_neg (by omega)];exact Gr h1 h2
theorem rM:0<dC a b↔dC b a<0:=by rw [Ez a b]; omega
theorem LA:¬ dC a a<0:=by rw [AN]; omega
theorem xq (h:dC a b<0):a≠b:=fun e=>by subst e; exact LA h
theorem zK (a b:ah):dC a b<0∨a=b∨dC b a<0:=by
 rcases ti a b with h | h | h
 ·exact .inl (by omega)
 ·exact .inr (.inl (NQ h))
 ·exact .inr (.inr (by rw [Ez a b]; omega))
theorem xW {c:ah} (h1:¬ dC b a<0) (h2:dC b c<0):dC a c<0:=by
 rcases zK a b with h | h | h
 ·exact tj h h2
 ·subst h; exact h2
 ·exact absurd h h1
def jK (a b:ah):Bool:=a.k==b.k&&a.t.toList==b.t.toList
theorem oa:jK a b=true↔a=b:=by
 unfold jK;obtain⟨k,t⟩:=a;obtain⟨l,s⟩:=b;simp only [qj,beq_iff_eq,ah.mk.injEq];exact⟨fun h=>⟨h.1,toList_inj h.2⟩,fun h=>⟨h.1,by rw [h.2]⟩⟩
theorem BX:jK a b=false↔a≠b:=by rw [<- Hv,oa]
theorem NB (x y:Int):rG x y=some (if x<y then -1 else if y<x then 1 else 0):=by
 unfold rG n4;by_cases h1:x<y
 ·simp [h1]
 ·by_cases h2:y<x <;> simp [h1,h2]
theorem Qc (a b:Int):Cr [a,b]=some (if a≠0 then a else b):=by
 unfold Cr;by_cases h:a=0
 ·subst h;rw [zL (s':=1)]
  ·by_cases hb:b=0
   ·subst hb;rw [zL (s':=2)]
    ·rw [pD (r:=.go ())]
     ·rfl
     ·rfl
    ·rfl
   ·rw [pD (r:=.out b)]
    ·simp [Fl.el]
    ·unfold uH;have:(b != 0)=true:=by simpa using hb
     simp [bO,this]
  ·rfl
 ·rw [pD (r:=.out a)]
  ·simp [Fl.el,h]
  ·unfold uH;have:(a != 0)=true:=by simpa using h
   simp [bO,this]
theorem Fi (a b:ah):xr a b=some (dC a b):=by
 unfold xr dC sU;rw [NB];simp only [ad];rw [Qc];by_cases h1:a.k<b.k
 ·simp [h1]
 ·by_cases h2:b.k<a.k <;> simp [h1,h2]
section
variable {κ ν:Type} {q:κ->κ->Bool} (hq:∀ a b,q a b=true↔a=b)
def Nd (xs:List (κ×ν)):Prop:=(xs.map (·.1)).Nodup
include hq
theorem tw (a:κ):q a a=true:=(hq a a).2 rfl
theorem AS {a b:κ} (h:a≠b):q a b=false:=by rw [<- Hv,hq]; exact h
theorem CY {k:κ} {v:ν}:∀ {xs:List (κ×ν)},Nd xs->(dx q k xs=some v↔(k,v)∈xs)
 | [],_=>by simp [dx]
 | x::r,h=>by
  have h':=A9.1 (show (x.1::r.map (·.1)).Nodup from h);have ih:=CY (k:=k) (v:=v) (xs:=r) h'.2;by_cases e:k=x.1
  ·subst e;rw [dx,tw hq,cond_true];constructor
   ·intro h; injection h with h; rw [<- h]; exact xk
   ·intro hm;rcases dX.1 hm with hm | hm
    ·rw [<- hm]
    ·exact absurd (F8 (f:=(·.1)) hm) h'.1
  ·rw [dx,AS hq e,cond_false,ih,dX];constructor
   ·exact .inr
   ·rintro (h | h)
    ·exact absurd (congrArg (·.1) h) e
    ·exact h
theorem EH {k:κ}:∀ {xs:List (κ×ν)},dx q k xs=none↔∀ v,(k,v) ∉ xs
 | []=>by simp [dx]
 | x::r=>by
  by_cases e:k=x.1
  ·rw [dx,e,tw hq,cond_true];constructor
   ·intro h; cases h
   ·intro h; exact absurd xk (h x.2)
  ·rw [dx,AS hq e,cond_false,EH];constructor
   ·intro h v hv;rcases dX.1 hv with hv | hv
    ·exact e (congrArg (·.1) hv)
    ·exact h v hv
   ·intro h v hv; exact h v (yl _ hv)
theorem zN (k k':κ) (v:ν):∀ (xs:List (κ×ν)),dx q k (gT q k' v xs)=if q k k' then some v else dx q k xs
 | []=>by simp [gT,dx,Bool.cond_eq_ite]
 | x::r=>by
  by_cases e:k'=x.1
  ·rw [gT,e,tw hq,cond_true,dx,dx];cases q k x.1 <;> simp
  ·rw [gT,AS hq e,cond_false,dx,dx,zN k k' v r];by_cases e2:k=x.1
   ·have:q k k'=false:=AS hq (fun h=>e (h.symm.trans e2));rw [e2,tw hq,cond_true,cond_true,<- e2,this]; rfl
   ·rw [AS hq e2]; rfl
theorem EI (k:κ) (v:ν):∀ {xs:List (κ×ν)},Nd xs->(gT q k v xs).Perm ((k,v)::xs.filter fun y=>!q k y.1)
 | [],_=>by simp [gT]
 | x::r,h=>by
  have h':=A9.1 (show (x.1::r.map (·.1)).Nodup from h);by_cases e:k=x.1
  ·rw [gT,e,tw hq,cond_true,yi (by simp [tw hq])];rw [E5.2];intro y hy;rw [AS hq]; rfl;intro e2;exact h'.1 (e2▸F8 hy)
  ·rw [gT,AS hq e,cond_false,E4 (by simp [AS hq e])];exact ((EI k v h'.2).cons x).trans (List.Perm.swap _ _ _)
theorem wI (k:κ):∀ {xs:List (κ×ν)},Nd xs->ui q k xs=xs.filter fun y=>!q k y.1
 | [],_=>rfl
 | x::r,h=>by
  have h':=A9.1 (show (x.1::r.map (·.1)).Nodup from h);by_cases e:k=x.1
  ·rw [ui,e,tw hq,cond_true,yi (by simp [tw hq])];rw [E5.2];intro y hy;rw [AS hq]; rfl;intro e2;exact h'.1 (e2▸F8 hy)
  ·rw [ui,AS hq e,cond_false,E4 (by simp [AS hq e]),wI k h'.2]
omit hq in
theorem Nd.perm {xs ys:List (κ×ν)} (h:Nd xs) (p:xs.Perm ys):Nd ys:=(p.map _).nodup_iff.1 h
omit hq in
theorem Nd.filter {xs:List (κ×ν)} (h:Nd xs) (p:κ×ν->Bool):Nd (xs.filter p):=h.sublist (List.Sublist.map _ List.filter_sublist)
theorem Nd.put {xs:List (κ×ν)} (h:Nd xs) (k:κ) (v:ν):Nd (gT q k v xs):=by
 refine Nd.perm ?_ (EI hq k v h).symm;show (k::(xs.filter fun y=>!q k y.1).map (·.1)).Nodup;refine A9.2 ⟨fun hm=>?_,h.filter _⟩;obtain⟨y,hy,e⟩:=kC.1 hm;have:=(oB.1 hy).2;rw [e,tw hq] at this;cases this
theorem Nd.del {xs:List (κ×ν)} (h:Nd xs) (k:κ):Nd (ui q k xs):=by rw [wI hq k h]; exact h.filter _
theorem LZ (k k':κ) {xs:List (κ×ν)} (h:Nd xs):dx q k (ui q k' xs)=if q k k' then none else dx q k xs:=by
 rw [wI hq k' h];by_cases e:k=k'
 ·subst e;rw [tw hq,if_pos rfl,EH hq];intro v hv;have:=(oB.1 hv).2;simp [tw hq] at this
 ·rw [AS hq e,if_neg (by simp)];refine Option.ext fun v=>?_;rw [CY hq (h.filter _),CY hq h,oB];simp [AS hq (fun h=>e h.symm)]
end
end
section
open Go.Lib hiding intOf
open Go.Sort (grow grow_grow alloc_eq_grow SWO HoldsK Holds flatK putRowK heap_grow_old)
instance:Inhabited ah:=⟨⟨0,⟨#[]⟩⟩⟩
section
variable {α:Type} [Inhabited α] {enc:α->bK} {n:Nat}
end
end
end Go.Proofs.YtcpplgcgcbihoaaGreatDoor
