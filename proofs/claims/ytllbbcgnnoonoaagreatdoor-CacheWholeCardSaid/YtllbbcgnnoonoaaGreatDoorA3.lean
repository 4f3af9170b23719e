/- Texts of the proof, joined (3). -/
import Derived.Test.YtllbbcgnnoonoaaGreatDoorA1
import Derived.Test.YtllbbcgnnoonoaaGreatDoorProg
import Derived.Shelf.SlSortCmp.WholeK
import Derived.Test.YtllbbcgnnoonoaaGreatDoorA0
import Derived.Deep.RegionHeld3
import Derived.IntWalk
import Derived.Test.YtllbbcgnnoonoaaGreatDoorA2
import Derived.Shelf.SlSortCmp.NoneTotal
import Derived.Lib.RowBridge
set_option linter.unusedVariables false
set_option linter.unusedSimpArgs false
set_option linter.unusedSectionVars false
namespace Go.Proofs.YtllbbcgnnoonoaaGreatDoor
section
set_option maxRecDepth 100000
set_option maxHeartbeats 4000000
open Go.RowKit
variable (T:Nat->Prop) (L:World) (hT:TW T L)
include hT
noncomputable section
def po (b:LN):=some (decide ((b.length:Int)<=400))
theorem FV (b:LN) (d:Value) (c:aQ (aY.int .i64) T L d b) (y:Bool) (B:po b=some y):bm aO No 5 [d] L (fun v w'=>v = .bool y):=by
 refine en Tryz.func5 Tryz.ntmps5 hT fun a I=>?_;replace I:=I.fS (aQ.dn c);unfold po at B;exact fz
def Al:Option Int:=some (0)
def kI (c:LN) (b:Int):Option (Fl (Int) (Fl (Unit) Int)):=cond (decide (b<(c.length:Int))) ((bp c b).bind fun d=>cond (d != 0) (some (.out (.out d))) (some (.go (IntKind.i64.wrap (b+1))))) (some (.out (.go ())))
def wT (b:LN):=(loop (fun s:Int=>kI b s) 0).bind fun r=>Fl.el r (fun s=>Al) (fun y=>some (y))
theorem G4 (b:LN) (e:Value) (i:aQ (aY.int .i64) T L e b) (y:Int) (B:wT b=some y):bm aO No 49 [e] L (fun v w'=>v=am y):=by
 refine en Tryz.func49 Tryz.ntmps49 hT fun a I=>?_;replace I:=I.fS (aQ.dn i);unfold wT at B;refine an I fun a I=>?_;refine aK (J:=fun a w=>St L No T 18 [(3,am 0)] [] [] a w/\Al=some y) ?_ ?_
 ·refine an I fun a I=>?_;obtain⟨o,h,hMo1⟩:=bd B;refine bz _ (fun s a w=>∃ (c:Int),c=s/\St L No T 18 [(3,am 0),(6,e),(7,am (b.length:Int)),(8,am c)] [] [aT (aY.int .i64) e b] a w) h ⟨_,rfl,I.mt [] [0]⟩ ?_;rintro s a w m ⟨c,rfl,I⟩ B hf1;have B:kI b c=some m:=B;unfold kI at B;refine an I fun a I=>?_;refine ax ?_;rcases cd B with⟨f,B⟩|⟨f,B⟩
  ·refine an I fun a I=>?_;refine ax ?_;refine an I fun a I=>?_;obtain⟨l,d,B⟩:=bd B;refine wl rfl (bv (R:=(aY.int .i64)) I Ln LG rfl rfl 0 rfl d rfl fun j n k g a I=>?_);obtain rfl:=g;exact fz
  exact fz
 rintro a w ⟨I,B⟩;unfold Al at B;exact fz
def oC (b:Int):=some (b != b)
theorem wo (b:Int) (y:Bool) (B:oC b=some y):bm aO No 146 [am b] L (fun v w'=>v = .bool y):=by
 refine en Tryz.func146 Tryz.ntmps146 hT fun a I=>?_;unfold oC at B;exact fz
def rZ (c d:Int):=(oC c).bind fun e=>(oC d).bind fun b=>cond e (cond b (some (0)) (some ((-1)))) (cond b (some (1)) (cond (decide (c<d)) (some ((-1))) (cond (decide (d<c)) (some (1)) (some (0)))))
theorem DX (b c y:Int) (B:rZ b c=some y):bm aO No 104 [am b,am c] L (fun v w'=>v=am y):=by
 refine en Tryz.func104 Tryz.ntmps104 hT fun a I=>?_;unfold rZ at B;refine an I fun a I=>?_;obtain⟨i,d,B⟩:=bd B;refine kF I PN (wo _ _ I.dlt b _ d) fun w a I=>?_;obtain⟨j,e,B⟩:=bd B;refine kF I PN (wo _ _ I.dlt c _ e) fun w a I=>?_;refine ax ?_;refine an I fun a I=>?_;rcases cd B with⟨f,B⟩|⟨f,B⟩
 ·refine an I fun a I=>?_;refine ax ?_;exact fz
 refine an I fun a I=>?_;refine ax ?_;refine an I fun a I=>?_;rcases cd B with⟨g,B⟩|⟨g,B⟩
 ·exact fz
 refine an I fun a I=>?_;refine ax ?_;refine an I fun a I=>?_;rcases cd B with⟨h,B⟩|⟨h,B⟩
 ·exact fz
 refine an I fun a I=>?_;refine ax ?_;exact fz
def ui (b c:ae):=(rZ b.k c.k).bind fun d=>(pE b.x c.x).bind fun e=>(wT ([d,e])).bind fun f=>some (f)
theorem xR (hLv:dC T L) (d e:ae) (y:Int) (B:ui d e=some y):bm aO No 50 [.agg (bn d).toArray,.agg (bn e).toArray] L (fun v w'=>v=am y):=by
 refine en Tryz.func50 Tryz.ntmps50 hT fun a I=>?_;replace I:=I.fact bK (dC.dn hLv);unfold ui at B;refine kB I fun i m a w O I=>?_;refine kb I fun j n a w O I=>?_;refine an I fun a I=>?_;refine ax ?_;refine dr [] I fun w hQ I=>?_;refine gE [0,1,2,3,5,6,7,8] I fun a I=>?_;obtain⟨b,f,B⟩:=bd B;refine ec 4 I R0 (DX _ _ I.dlt d.k e.k _ f) fun _ w C a O U=>?_;obtain rfl:=C;have I:=fA U;obtain⟨c,g,B⟩:=bd B;refine ec 9 I KN (pF _ _ I.dlt I.g0 d.x e.x _ g) fun _ w C a O U=>?_;obtain rfl:=C;have I:=fA U;refine e1 10 (bq (ps:=[(0,.tmp 9),(1,.tmp 14)]) I Mn Uc (zl:=[am 0,am 0]) (by kernel_rfl) rfl (us:=[[am b],[am c]]) ⟨rfl,⟨rfl,trivial⟩⟩ (ws:=[am b,am c]) rfl rfl rfl rfl fun l a w O I=>⟨jx (O),?_⟩);replace I:=I.lit (R:=(aY.int .i64)) (us:=[am b,am c]) (xs:=[b,c]) 0 rfl (by decide) ((aN (R:=(aY.int .i64)) (x:=b) rfl).append (aN (R:=(aY.int .i64)) (x:=c) rfl)) rfl rfl;have hL:=I;replace hL:=hL.zf (R:=(aY.int .i64)) 0 rfl 0 rfl;obtain⟨o,h,B⟩:=bd B;refine ec 11 I S3 (G4 _ _ hL.dlt ([b,c]) _ hL.g0 _ h) fun _ w C a O U=>?_;obtain rfl:=C;have I:=fA U;refine gE [12] I fun a I=>?_;refine eD ?_;exact fz
def tJ (b:Bool):=some (b)
def o6 (b:Int):=cond (decide ((30:Int)<=b)) (tJ (decide (b<=32))) (tJ false)
theorem EI (c:Int) (y:Bool) (B:o6 c=some y):bm aO No 157 [am c] L (fun v w'=>v = .bool y):=by
 refine en Tryz.func157 Tryz.ntmps157 hT fun a I=>?_;unfold o6 at B;refine an I fun a I=>?_;refine aK (J:=fun a w=>∃ (b:Bool),St L No T 9 [(2,.bool b)] [] [] a w/\tJ b=some y) ?_ ?_
 ·exact fz
 rintro a w ⟨b,I,B⟩;unfold tJ at B;exact fz
def iY (c:ae):=(o6 c.k).bind fun d=>cond (!(d)) (some ((-1))) ((ze c.x).bind fun b=>cond b.2 (some ((-1))) (cond (decide (b.1<0)) (some ((-1))) (cond (decide ((99:Int)<b.1)) (some ((-1))) ((yj b.1).bind fun e=>cond (!(e.toList==c.x.toList)) (some ((-1))) (some (b.1))))))
theorem zJ (hLv:dC T L) (b:ae) (y:Int) (B:iY b=some y):bm aO No 117 [.agg (bn b).toArray] L (fun v w'=>v=am y):=by
 refine en Tryz.func117 Tryz.ntmps117 hT fun a I=>?_;replace I:=I.fact bK (dC.dn hLv);unfold iY at B;refine kB I fun n o a w O I=>?_;refine an I fun a I=>?_;refine ax ?_;refine an I fun a I=>?_;obtain⟨p,f,B⟩:=bd B;refine kF I PR (EI _ _ I.dlt b.k _ f) fun w a I=>?_;rcases cd B with⟨j,B⟩|⟨j,B⟩
 ·exact fz
 refine an I fun a I=>?_;obtain⟨e,g,B⟩:=bd B;refine kc I Ss (N9 _ _ I.dlt I.g0 b.x _ g) fun _ w C a O U=>?_;obtain⟨s,he,d⟩:=C;obtain rfl:=he.symm;have I:=U [] (fun r hr=>by cases hr) sA;refine an I fun a I=>?_;refine ax ?_;refine ax ?_;refine dr [] I fun w hQ I=>?_;refine gE [0] I fun a I=>?_;refine dq 1 I (v:=.bool e.2) (Pi I rfl d Th) fun a I=>?_;refine gE [2] I fun a I=>?_;rcases cd B with⟨l,B⟩|⟨l,B⟩
 ·refine gE [3,4,5,6,7,8,9,10,11,12,13,14,15,16] I fun a I=>?_;refine eD ?_;exact fz
 refine gE [3,4,5,6] I fun a I=>?_;rcases cd B with⟨m,B⟩|⟨m,B⟩
 ·refine gE [7,8,9,10,11,12,13,14,15,16] I fun a I=>?_;refine eD ?_;exact fz
 refine gE [7,8,9,10] I fun a I=>?_;rcases cd B with⟨c,B⟩|⟨c,B⟩
 ·refine gE [11,12,13,14,15,16] I fun a I=>?_;refine eD ?_;exact fz
 refine gE [11,13,14] I fun a I=>?_;obtain⟨q,h,B⟩:=bd B;refine dp (i:=12) rfl (by kernel_rfl) I rfl rfl rfl c (bT I Mg rfl rfl (zH _ _ I.dlt I.g0 e.1 _ h) fun _ w C a O U=>⟨jx (O),?_⟩);obtain rfl:=C;have I:=fA U;refine gE [15,16] I fun a I=>?_;refine eD ?_;exact fz
def eH (b:Bool):=some (b)
def it (b:Int):=cond (decide ((1:Int)<=b)) (eH (decide (b<=22))) (eH false)
theorem xd (c:Int) (y:Bool) (B:it c=some y):bm aO No 158 [am c] L (fun v w'=>v = .bool y):=by
 refine en Tryz.func158 Tryz.ntmps158 hT fun a I=>?_;unfold it at B;refine an I fun a I=>?_;refine aK (J:=fun a w=>∃ (b:Bool),St L No T 9 [(2,.bool b)] [] [] a w/\eH b=some y) ?_ ?_
 ·exact fz
 rintro a w ⟨b,I,B⟩;unfold eH at B;exact fz
def ge (b:Bool):=some (b)
def jM (b:ae) (c:Bool):=(it b.k).bind fun d=>cond d (cond (decide (((b.x.size:Int):Int)<=1073741824)) (cond (!(c)) (ge true) (ge (b.x.toList==cu.toList))) (ge false)) (ge false)
def c6 (b:ae):=(o6 b.k).bind fun c=>cond c ((iY b).bind fun d=>some (decide ((0:Int)<=d))) (cond (b.k==1) (jM b true) (jM b (b.k==21)))
theorem pK (hLv:dC T L) (b:ae) (y:Bool) (B:c6 b=some y):bm aO No 114 [.agg (bn b).toArray] L (fun v w'=>v = .bool y):=by
 refine en Tryz.func114 Tryz.ntmps114 hT fun a I=>?_;replace I:=I.fact bK (dC.dn hLv);unfold c6 at B;refine kB I fun e j a w O I=>?_;refine an I fun a I=>?_;refine ax ?_;refine an I fun a I=>?_;obtain⟨m,g,B⟩:=bd B;refine kF I PR (EI _ _ I.dlt b.k _ g) fun w a I=>?_;rcases cd B with⟨i,B⟩|⟨i,B⟩
 ·refine an I fun a I=>?_;obtain⟨n,h,B⟩:=bd B;refine kE I PG (zJ _ _ I.dlt I.g0 b _ h) fun w a I=>?_;exact fz
 refine an I fun a I=>?_;refine aK (J:=fun a w=>∃ (c:Bool),St L No T 36 [(1,pt e 0),(3,.bool c)] [.box e (bn b) 27] [bK] a w/\jM b c=some y) ?_ ?_
 ·exact fz
 rintro a w ⟨c,I,B⟩;unfold jM at B;refine aK (J:=fun a w=>∃ (d:Bool),St L No T 36 [(2,.bool d)] [] [bK] a w/\ge d=some y) ?_ ?_
 ·refine an I fun a I=>?_;obtain⟨l,f,B⟩:=bd B;refine kE I PS (xd _ _ I.dlt b.k _ f) fun w a I=>?_;exact fz
 rintro a w ⟨d,I,B⟩;unfold ge at B;exact fz
def nU (b:Bool):=some (b)
def nT (b:ae):=cond (b.k==1) (nU true) (cond (b.k==2) (nU true) (nU (b.k==30)))
theorem uj (c:ae) (y:Bool) (B:nT c=some y):bm aO No 87 [.agg (bn c).toArray] L (fun v w'=>v = .bool y):=by
 refine en Tryz.func87 Tryz.ntmps87 hT fun a I=>?_;unfold nT at B;refine kB I fun d e a w O I=>?_;refine an I fun a I=>?_;refine aK (J:=fun a w=>∃ (b:Bool),St L No T 16 [(2,.bool b)] [] [] a w/\nU b=some y) ?_ ?_
 ·exact fz
 rintro a w ⟨b,I,B⟩;unfold nU at B;exact fz
def mI:=some (false)
def ff (b:Bool):=cond b (some (true)) (mI)
def qt (b:Int):=cond (b==7) (ff (b==7)) (cond (b==14) (ff (b==14)) (cond (b==17) (ff (b==17)) (ff (b==18))))
theorem AF (c:Int) (y:Bool) (B:qt c=some y):bm aO No 222 [am c] L (fun v w'=>v = .bool y):=by
 refine en Tryz.func222 Tryz.ntmps222 hT fun a I=>?_;unfold qt at B;refine an I fun a I=>?_;refine aK (J:=fun a w=>St L No T 9 [] [] [] a w/\mI=some y) ?_ ?_
 ·refine an I fun a I=>?_;refine aK (J:=fun a w=>∃ (b:Bool),St L No T 9 [(4,.bool b)] [] [] a w/\ff b=some y) ?_ ?_
  ·exact fz
  rintro a w ⟨b,I,B⟩;unfold ff at B;exact fz
 rintro a w ⟨I,B⟩;unfold mI at B;exact fz
def me (b:Bool):=some (b)
def tI (b:ae):=cond (b.k==32) (me true) ((it b.k).bind fun c=>cond c ((qt b.k).bind fun d=>me d) (me false))
theorem FR (c:ae) (y:Bool) (B:tI c=some y):bm aO No 191 [.agg (bn c).toArray] L (fun v w'=>v = .bool y):=by
 refine en Tryz.func191 Tryz.ntmps191 hT fun a I=>?_;unfold tI at B;refine kB I fun h i a w O I=>?_;refine an I fun a I=>?_;refine aK (J:=fun a w=>∃ (b:Bool),St L No T 16 [(2,.bool b)] [] [] a w/\me b=some y) ?_ ?_
 ·refine an I fun a I=>?_;rcases cd B with⟨d,B⟩|⟨d,B⟩
  ·exact fz
  refine an I fun a I=>?_;obtain⟨j,f,B⟩:=bd B;refine wg I rfl rfl rfl d (bT I PS rfl rfl (xd _ _ I.dlt c.k _ f) fun _ w C a O U=>?_);obtain rfl:=C;have I:=fA U;refine an I fun a I=>?_;rcases cd B with⟨e,B⟩|⟨e,B⟩
  ·refine an I fun a I=>?_;obtain⟨l,g,B⟩:=bd B;refine wg I rfl rfl rfl e (bT I SO rfl rfl (AF _ _ I.dlt c.k _ g) fun _ w C a O U=>?_);obtain rfl:=C;have I:=fA U;exact fz
  exact fz
 rintro a w ⟨b,I,B⟩;unfold me at B;exact fz
def m7 (c:ae):=(c6 c).bind fun b=>some (!(b))
theorem AI (hLv:dC T L) (b:ae) (y:Bool) (B:m7 b=some y):bm aO No 192 [.agg (bn b).toArray] L (fun v w'=>v = .bool y):=by
 refine en Tryz.func192 Tryz.ntmps192 hT fun a I=>?_;replace I:=I.fact bK (dC.dn hLv);unfold m7 at B;refine kB I fun d e a w O I=>?_;refine an I fun a I=>?_;obtain⟨f,c,B⟩:=bd B;refine kE I Ew (pK _ _ I.dlt I.g0 b _ c) fun w a I=>?_;exact fz
def uF:=some ((-1))
def oG (c:LK) (f:ae->Option Bool) (b:Int):Option (Fl (Int) (Fl (Unit) Int)):=cond (decide (b<(c.length:Int))) ((bp c b).bind fun d=>(f d).bind fun e=>cond e (some (.out (.out b))) (some (.go (IntKind.i64.wrap (b+1))))) (some (.out (.go ())))
def tD (b:ae->Option Bool) (c:LK):=(loop (fun s:Int=>oG c b s) 0).bind fun r=>Fl.el r (fun s=>uF) (fun y=>some (y))
theorem FN (hLv:dC T L) (f_1g:Nat) (f:aR aO f_1g=true) (f_1k:bG) (f_1P:co) (d:ae->Option Bool) (m:∀ (T:Nat->Prop) (L:World) (hT:TW T L) (hLv:dC T L) (hP:f_1P.p T L) (q:ae) (y:Bool) (B:d q=some y),bm aO No f_1g ([.agg (bn q).toArray]++f_1k) L (fun v w'=>v = .bool y)) (e:f_1P.p T L) (c:LK) (i:Value) (o:aQ ah T L i c) (y:Int) (B:tD d c=some y):bm aO No 223 [i,.func (.func f_1g) #[] f_1k.toArray] L (fun v w'=>v=am y):=by
 refine en Tryz.func223 Tryz.ntmps223 hT fun a I=>?_;replace I:=((I.fact f_1P (co.dn _ e)).fact bK (dC.dn hLv)).fS (aQ.dn o);unfold tD at B;refine an I fun a I=>?_;refine aK (J:=fun a w=>St L No T 19 [] [] [bK,f_1P] a w/\uF=some y) ?_ ?_
 ·refine an I fun a I=>?_;obtain⟨A,n,hMo1⟩:=bd B;refine bz _ (fun s a w=>∃ (b:Int),b=s/\St L No T 19 [(0,i),(1,.func (.func f_1g) #[] f_1k.toArray),(7,am (c.length:Int)),(8,am b)] [] [aT ah i c,bK,f_1P] a w) n ⟨_,rfl,I.mt [] [0,1,2]⟩ ?_;rintro s a w u ⟨b,rfl,I⟩ B hf1;have B:oG c d b=some u:=B;unfold oG at B;refine an I fun a I=>?_;refine ax ?_;rcases cd B with⟨k,B⟩|⟨k,B⟩
  ·refine an I fun a I=>?_;refine ax ?_;refine an I fun a I=>?_;obtain⟨j,g,B⟩:=bd B;refine wl rfl (bv (R:=ah) I nC gB rfl rfl 0 rfl g rfl fun r x t l a I=>?_);obtain rfl:=l;refine an I fun a I=>?_;obtain⟨z,h,B⟩:=bd B;refine wl rfl (qn (cap:=f_1k) I rfl f rfl rfl (m _ _ I.dlt I.g2 I.g3 j _ h) fun _ w C a O U=>?_);obtain rfl:=C;have I:=fA U;exact fz
  exact fz
 rintro a w ⟨I,B⟩;unfold uF at B;exact fz
def oD (c:ae->Option Bool) (d:LK):=(tD c d).bind fun b=>some (decide ((0:Int)<=b))
theorem BK (hLv:dC T L) (f_1g:Nat) (e:aR aO f_1g=true) (f_1k:bG) (f_1P:co) (b:ae->Option Bool) (g:∀ (T:Nat->Prop) (L:World) (hT:TW T L) (hLv:dC T L) (hP:f_1P.p T L) (j:ae) (y:Bool) (B:b j=some y),bm aO No f_1g ([.agg (bn j).toArray]++f_1k) L (fun v w'=>v = .bool y)) (d:f_1P.p T L) (c:LK) (i:Value) (h:aQ ah T L i c) (y:Bool) (B:oD b c=some y):bm aO No 193 [i,.func (.func f_1g) #[] f_1k.toArray] L (fun v w'=>v = .bool y):=by
 refine en Tryz.func193 Tryz.ntmps193 hT fun a I=>?_;replace I:=((I.fact f_1P (co.dn _ d)).fact bK (dC.dn hLv)).fS (aQ.dn h);unfold oD at B;refine an I fun a I=>?_;obtain⟨k,f,B⟩:=bd B;refine kE I SP (FN _ _ I.dlt I.g1 f_1g e f_1k f_1P b g I.g2 c _ I.g0 _ f) fun w a I=>?_;exact fz
def fB (b:Bool):=some (b)
def dP (b:ar) (c:Bool):=cond c (some (false)) (cond (decide ((0:Int)<=b.l)) (cond (decide (b.l<=b.u)) (cond (decide (b.u<=1073741824)) (cond (decide ((1:Int)<=b.a)) (cond (decide (b.a<=1073741824)) ((oD m7 b.v).bind fun d=>fB (!(d))) (fB false)) (fB false)) (fB false)) (fB false)) (fB false))
def qu (c:ar):=(c6 c.b).bind fun d=>cond (!(d)) (dP c true) ((nT c.b).bind fun e=>cond e (dP c true) (cond (decide ((1073741824:Int)<(c.t.size:Int))) (dP c true) (cond (decide ((4000:Int)<(c.v.length:Int))) (dP c true) (cond c.y ((tI c.b).bind fun f=>dP c (!(f))) (dP c false)))))
theorem CZ (hLv:dC T L) (c:ar) (n:Value) (z:aQ ah T L n c.v) (y:Bool) (B:qu c=some y):bm aO No 154 [.agg (bN c n).toArray] L (fun v w'=>v = .bool y):=by
 refine en Tryz.func154 Tryz.ntmps154 hT fun a I=>?_;replace I:=(I.fact bK (dC.dn hLv)).fS (aQ.dn z);unfold qu at B;refine kB I fun f A a w O I=>?_;refine an I fun a I=>?_;refine ax ?_;refine aK (J:=fun a w=>∃ (e:Bool),St L No T 67 [(1,pt f 0),(34,.bool e)] [.box f (bN c n) 78] [aT ah n c.v,bK] a w/\dP c e=some y) ?_ ?_
 ·refine an I fun a I=>?_;obtain⟨E,k,B⟩:=bd B;refine kF I Ew (pK _ _ I.dlt I.g1 c.b _ k) fun w a I=>?_;rcases cd B with⟨g,B⟩|⟨g,B⟩
  ·exact fz
  refine an I fun a I=>?_;obtain⟨F,l,B⟩:=bd B;refine wg I rfl rfl rfl g (bT I Oo rfl rfl (uj _ _ I.dlt c.b _ l) fun _ w C a O U=>?_);obtain rfl:=C;have I:=fA U;refine an I fun a I=>?_;rcases cd B with⟨o,B⟩|⟨o,B⟩
  ·exact fz
  refine an I fun a I=>?_;rcases cd B with⟨p,B⟩|⟨p,B⟩
  ·exact fz
  refine an I fun a I=>?_;rcases cd B with⟨q,B⟩|⟨q,B⟩
  ·exact fz
  refine an I fun a I=>?_;rcases cd B with⟨h,B⟩|⟨h,B⟩
  ·refine an I fun a I=>?_;obtain⟨G,m,B⟩:=bd B;refine wg I rfl rfl rfl h (bT I SI rfl rfl (FR _ _ I.dlt c.b _ m) fun _ w C a O U=>?_);obtain rfl:=C;have I:=fA U;exact fz
  exact fz
 rintro a w ⟨e,I,B⟩;unfold dP at B;rcases cd B with⟨r,B⟩|⟨r,B⟩
 ·exact fz
 refine an I fun a I=>?_;refine aK (J:=fun a w=>∃ (d:Bool),St L No T 67 [(2,.bool d)] [] [bK] a w/\fB d=some y) ?_ ?_
 ·refine an I fun a I=>?_;rcases cd B with⟨s,B⟩|⟨s,B⟩
  ·refine an I fun a I=>?_;rcases cd B with⟨t,B⟩|⟨t,B⟩
   ·refine an I fun a I=>?_;rcases cd B with⟨u,B⟩|⟨u,B⟩
    ·refine an I fun a I=>?_;rcases cd B with⟨x,B⟩|⟨x,B⟩
     ·refine an I fun a I=>?_;rcases cd B with⟨i,B⟩|⟨i,B⟩
      ·refine an I fun a I=>?_;obtain⟨D,j,B⟩:=bd B;refine wg I rfl rfl rfl i (bT I SK rfl rfl (BK _ _ I.dlt I.g1 192 SJ [] Eq m7 (fun T L hT hLv _ H y B=>AI T L hT hLv H y B) trivial c.v _ I.g0 _ j) fun _ w C a O U=>?_);obtain rfl:=C;have I:=fA U;exact fz
      exact fz
     exact fz
    exact fz
   exact fz
  exact fz
 rintro a w ⟨d,I,B⟩;unfold fB at B;exact fz
def oq (b:LR):=some (decide ((b.length:Int)<=4000))
def ee (b:Int) (c:Bool):Option (Fl (Int) (Fl (Unit) Bool)):=cond c (some (.out (.out false))) (some (.go (IntKind.i64.wrap (b+1))))
def il (e:LR) (c:Int):=cond (decide (c<(e.length:Int))) ((bp e c).bind fun d=>(qu d).bind fun g=>cond (!(g)) (ee c true) (cond (decide ((0:Int)<c)) ((bp e (IntKind.i64.wrap (c-1))).bind fun f=>(ui f.b d.b).bind fun h=>ee c (decide ((0:Int)<=h))) (ee c false))) (some (.out (.go ())))
def kU (b:LR):=(loop (fun s:Int=>il b s) 0).bind fun r=>Fl.el r (fun s=>oq b) (fun y=>some (y))
theorem yJ (hLv:dC T L) (c:LR) (e:Value) (F:aQ aa T L e c) (y:Bool) (B:kU c=some y):bm aO No 108 [e] L (fun v w'=>v = .bool y):=by
 refine en Tryz.func108 Tryz.ntmps108 hT fun a I=>?_;replace I:=(I.fact bK (dC.dn hLv)).fS (aQ.dn F);unfold kU at B;refine an I fun a I=>?_;refine aK (J:=fun a w=>St L No T 35 [(0,e)] [] [aT aa e c,bK] a w/\oq c=some y) ?_ ?_
 ·refine an I fun a I=>?_;obtain⟨X,E,hMo1⟩:=bd B;refine bz _ (fun s a w=>∃ (d:Int),d=s/\St L No T 35 [(0,e),(5,e),(6,am (c.length:Int)),(7,am d)] [] [aT aa e c,bK] a w) E ⟨_,rfl,I.mt [] [0,1]⟩ ?_;rintro s a w D ⟨d,rfl,I⟩ B hf1;have B:il c d=some D:=B;unfold il at B;refine an I fun a I=>?_;refine ax ?_;rcases cd B with⟨r,B⟩|⟨r,B⟩
  ·refine an I fun a I=>?_;refine ax ?_;refine an I fun a I=>?_;obtain⟨h,j,B⟩:=bd B;refine wl rfl (bv (R:=aa) I rG pA rfl rfl 0 rfl j rfl fun G P K t a I=>?_);obtain⟨V,rfl,n⟩:=t;replace I:=I.fS n;refine kA I jB fun H N a w O I=>?_;refine go I fun a w I=>?_;refine aK (J:=fun a w=>∃ (f:Bool),St L No T 35 [(0,e),(5,e),(6,am (c.length:Int)),(7,am d),(30,.bool f)] [] [aT aa e c,bK] a w/\ee d f=some D) ?_ ?_
   ·refine dr [] I fun w hQ I=>?_;refine gE [0] I fun a I=>?_;obtain⟨Q,l,B⟩:=bd B;refine ec 1 I Sp (CZ _ _ I.dlt I.g3 h _ I.g0 _ l) fun _ w C a O U=>?_;obtain rfl:=C;have I:=fA U;refine gE [2,3] I fun a I=>?_;rcases cd B with⟨u,B⟩|⟨u,B⟩
    ·refine gE [4,5,6,7,8,9,10,11,12,13,14,15,16,17,18] I fun a I=>?_;refine eD ?_;exact fin
    refine gE [4,5,6] I fun a I=>?_;rcases cd B with⟨g,B⟩|⟨g,B⟩
    ·refine gE [7,8,9] I fun a I=>?_;obtain⟨q,k,B⟩:=bd B;obtain⟨p,A,M,x,z,I⟩:=km (R:=aa) I rG pA 2 rfl k;obtain⟨W,rfl,o⟩:=x;replace I:=I.fS o;refine dg 10 I g (v:=pt p A) (z rfl rfl) fun a I=>?_;refine gE [11,12,13,14] I fun a I=>?_;obtain⟨S,m,B⟩:=bd B;refine dp (i:=15) rfl (by kernel_rfl) I rfl rfl rfl g (bT I Oj rfl rfl (xR _ _ I.dlt I.g5 q.b h.b _ m) fun _ w C a O U=>⟨jx (O),?_⟩);obtain rfl:=C;have I:=fA U;refine gE [16,17,18] I fun a I=>?_;refine eD ?_;exact fin
    refine gE [7,8,9,10,11,12,13,14,15,16,17,18] I fun a I=>?_;refine eD ?_;exact fin
   rintro a w ⟨f,I,B⟩;unfold ee at B;exact fz
  exact fz
 rintro a w ⟨I,B⟩;unfold oq at B;exact fz
def mJ (b:Bool):=some (b)
def nB (b:ae):=(c6 b).bind fun c=>cond c ((nT b).bind fun d=>mJ d) (mJ false)
theorem AP (hLv:dC T L) (c:ae) (y:Bool) (B:nB c=some y):bm aO No 109 [.agg (bn c).toArray] L (fun v w'=>v = .bool y):=by
 refine en Tryz.func109 Tryz.ntmps109 hT fun a I=>?_;replace I:=I.fact bK (dC.dn hLv);unfold nB at B;refine kB I fun g h a w O I=>?_;refine an I fun a I=>?_;refine aK (J:=fun a w=>∃ (b:Bool),St L No T 9 [(2,.bool b)] [] [bK] a w/\mJ b=some y) ?_ ?_
 ·refine an I fun a I=>?_;obtain⟨i,e,B⟩:=bd B;refine kF I Ew (pK _ _ I.dlt I.g0 c _ e) fun w a I=>?_;rcases cd B with⟨d,B⟩|⟨d,B⟩
  ·refine an I fun a I=>?_;obtain⟨j,f,B⟩:=bd B;refine wg I rfl rfl rfl d (bT I Oo rfl rfl (uj _ _ I.dlt c _ f) fun _ w C a O U=>?_);obtain rfl:=C;have I:=fA U;exact fz
  exact fz
 rintro a w ⟨b,I,B⟩;unfold mJ at B;exact fz
def rb:=some ((-1))
def kM (c:LR) (f:ar->Option Bool) (b:Int):Option (Fl (Int) (Fl (Unit) Int)):=cond (decide (b<(c.length:Int))) ((bp c b).bind fun d=>(f d).bind fun e=>cond e (some (.out (.out b))) (some (.go (IntKind.i64.wrap (b+1))))) (some (.out (.go ())))
def oH (b:ar->Option Bool) (c:LR):=(loop (fun s:Int=>kM c b s) 0).bind fun r=>Fl.el r (fun s=>rb) (fun y=>some (y))
theorem BM (hLv:dC T L) (f_1g:Nat) (f:aR aO f_1g=true) (f_1k:bG) (f_1P:co) (d:ar->Option Bool) (o:∀ (T:Nat->Prop) (L:World) (hT:TW T L) (hLv:dC T L) (hP:f_1P.p T L) (q:ar) (k:Value) (A:aQ ah T L k q.v) (y:Bool) (B:d q=some y),bm aO No f_1g ([.agg (bN q k).toArray]++f_1k) L (fun v w'=>v = .bool y)) (e:f_1P.p T L) (c:LR) (j:Value) (t:aQ aa T L j c) (y:Int) (B:oH d c=some y):bm aO No 155 [j,.func (.func f_1g) #[] f_1k.toArray] L (fun v w'=>v=am y):=by
 refine en Tryz.func155 Tryz.ntmps155 hT fun a I=>?_;replace I:=((I.fact f_1P (co.dn _ e)).fact bK (dC.dn hLv)).fS (aQ.dn t);unfold oH at B;refine an I fun a I=>?_;refine aK (J:=fun a w=>St L No T 19 [] [] [bK,f_1P] a w/\rb=some y) ?_ ?_
 ·refine an I fun a I=>?_;obtain⟨G,r,hMo1⟩:=bd B;refine bz _ (fun s a w=>∃ (b:Int),b=s/\St L No T 19 [(0,j),(1,.func (.func f_1g) #[] f_1k.toArray),(7,am (c.length:Int)),(8,am b)] [] [aT aa j c,bK,f_1P] a w) r ⟨_,rfl,I.mt [] [0,1,2]⟩ ?_;rintro s a w z ⟨b,rfl,I⟩ B hf1;have B:kM c d b=some z:=B;unfold kM at B;refine an I fun a I=>?_;refine ax ?_;rcases cd B with⟨m,B⟩|⟨m,B⟩
  ·refine an I fun a I=>?_;refine ax ?_;refine an I fun a I=>?_;obtain⟨l,g,B⟩:=bd B;refine wl rfl (bv (R:=aa) I rG pA rfl rfl 0 rfl g rfl fun u D x n a I=>?_);obtain⟨F,rfl,i⟩:=n;replace I:=I.fS i;refine an I fun a I=>?_;obtain⟨E,h,B⟩:=bd B;refine wl rfl (qn (cap:=f_1k) I rfl f rfl rfl (o _ _ I.dlt I.g3 I.g4 l _ I.g0 _ h) fun _ w C a O U=>?_);obtain rfl:=C;have I:=fA U;exact fz
  exact fz
 rintro a w ⟨I,B⟩;unfold rb at B;exact fz
def cn (c:ar->Option Bool) (d:LR):=(oH c d).bind fun b=>some (decide ((0:Int)<=b))
theorem lu (hLv:dC T L) (f_1g:Nat) (e:aR aO f_1g=true) (f_1k:bG) (f_1P:co) (b:ar->Option Bool) (h:∀ (T:Nat->Prop) (L:World) (hT:TW T L) (hLv:dC T L) (hP:f_1P.p T L) (i:ar) (g:Value) (l:aQ ah T L g i.v) (y:Bool) (B:b i=some y),bm aO No f_1g ([.agg (bN i g).toArray]++f_1k) L (fun v w'=>v = .bool y)) (d:f_1P.p T L) (c:LR) (k:Value) (j:aQ aa T L k c) (y:Bool) (B:cn b c=some y):bm aO No 110 [k,.func (.func f_1g) #[] f_1k.toArray] L (fun v w'=>v = .bool y):=by
 refine en Tryz.func110 Tryz.ntmps110 hT fun a I=>?_;replace I:=((I.fact f_1P (co.dn _ d)).fact bK (dC.dn hLv)).fS (aQ.dn j);unfold cn at B;refine an I fun a I=>?_;obtain⟨m,f,B⟩:=bd B;refine kE I Sq (BM _ _ I.dlt I.g1 f_1g e f_1k f_1P b h I.g2 c _ I.g0 _ f) fun w a I=>?_;exact fz
def li (c:ar) (b:ap):=some (decide (b.r<c.u))
theorem yM (c:ar) (b:ap) (l f g:Value) (d:Nat) (h:aQ ah T L l c.v) (j:aQ ad T L f b.i) (k:aQ aa T L g b.s) (e:(bS d 0 (bA b f g)).p T L) (y:Bool) (B:li c b=some y):bm aO No 111 [.agg (bN c l).toArray,pt d 0] L (fun v w'=>v = .bool y):=by
 refine en Tryz.func111 Tryz.ntmps111 hT fun a I=>?_;replace I:=(((I.fact (bS d 0 (bA b f g)) (co.dn _ e)).fS (aQ.dn h)).fS (aQ.dn j)).fS (aQ.dn k);unfold li at B;refine kB I fun m n a w O I=>?_;exact fz
def jS (b:ap):=(cn (fun d=>li d b) b.s).bind fun c=>some (!(c))
def cG (b:Int) (c:Bool):Option (Fl (Int) (Fl (Unit) Bool)):=cond c (some (.out (.out false))) (some (.go (IntKind.i64.wrap (b+1))))
def jT (e:ap) (c:Int):=cond (decide (c<(e.i.length:Int))) ((bp e.i c).bind fun d=>(nB d.b).bind fun g=>cond (!(g)) (cG c true) (cond (decide ((0:Int)<c)) ((bp e.i (IntKind.i64.wrap (c-1))).bind fun f=>(ui f.b d.b).bind fun h=>cond (decide ((0:Int)<=h)) (cG c true) (cond (decide ((1073741824:Int)<(d.t.size:Int))) (cG c true) (cond (decide (d.l<0)) (cG c true) (cG c (decide (e.r<d.l)))))) (cond (decide ((1073741824:Int)<(d.t.size:Int))) (cG c true) (cond (decide (d.l<0)) (cG c true) (cG c (decide (e.r<d.l))))))) (some (.out (.go ())))
def lh (b:ap):=cond (decide (b.r<0)) (some (false)) (cond (decide ((1073741824:Int)<b.r)) (some (false)) (cond (decide ((64:Int)<(b.i.length:Int))) (some (false)) ((kU b.s).bind fun c=>cond (!(c)) (some (false)) ((loop (fun s:Int=>jT b s) 0).bind fun r=>Fl.el r (fun s=>jS b) (fun y=>some (y))))))
theorem AO (hLv:dC T L) (c:ap) (f g:Value) (Z:aQ ad T L f c.i) (a0:aQ aa T L g c.s) (y:Bool) (B:lh c=some y):bm aO No 58 [.agg (bA c f g).toArray] L (fun v w'=>v = .bool y):=by
 refine en Tryz.func58 Tryz.ntmps58 hT fun a I=>?_;replace I:=((I.fact bK (dC.dn hLv)).fS (aQ.dn Z)).fS (aQ.dn a0);unfold lh at B;refine kB I fun d a9 a w O I=>?_;refine an I fun a I=>?_;refine ax ?_;refine ip ?_;refine an I fun a I=>?_;rcases cd B with⟨x,B⟩|⟨x,B⟩
 ·exact fz
 refine an I fun a I=>?_;rcases cd B with⟨z,B⟩|⟨z,B⟩
 ·exact fz
 refine an I fun a I=>?_;rcases cd B with⟨l,B⟩|⟨l,B⟩
 ·exact fz
 refine an I fun a I=>?_;obtain⟨av,r,B⟩:=bd B;refine wg I rfl rfl rfl l (bT I R3 rfl rfl (yJ _ _ I.dlt I.g2 c.s _ I.g0 _ r) fun _ w C a O U=>?_);obtain rfl:=C;have I:=fA U;refine an I fun a I=>?_;rcases cd B with⟨A,B⟩|⟨A,B⟩
 ·exact fz
 refine an I fun a I=>?_;refine aK (J:=fun a w=>St L No T 78 [(1,pt d 0)] [.box d (bA c f g) 37] [aT ad f c.i,aT aa g c.s,bK] a w/\jS c=some y) ?_ ?_
 ·refine an I fun a I=>?_;obtain⟨r1,Y,hMo1⟩:=bd B;refine bz _ (fun s a w=>∃ (e:Int),e=s/\St L No T 78 [(1,pt d 0),(26,f),(27,am (c.i.length:Int)),(28,am e)] [.box d (bA c f g) 37] [aT ad f c.i,aT aa g c.s,bK] a w) Y ⟨_,rfl,I.mt [0] [1,0,2]⟩ ?_;rintro s a w X ⟨e,rfl,I⟩ B hf1;have B:jT c e=some X:=B;unfold jT at B;refine an I fun a I=>?_;refine ax ?_;rcases cd B with⟨D,B⟩|⟨D,B⟩
  ·refine an I fun a I=>?_;refine ax ?_;refine an I fun a I=>?_;obtain⟨k,m,B⟩:=bd B;refine wl rfl (bv (R:=ad) I El Em rfl rfl 0 rfl m rfl fun a2 af a4 E a I=>?_);obtain rfl:=E;refine kA I A8 fun a3 ab a w O I=>?_;refine go I fun a w I=>?_;refine aK (J:=fun a w=>∃ (h:Bool),St L No T 78 [(1,pt d 0),(26,f),(27,am (c.i.length:Int)),(28,am e),(71,.bool h)] [.box d (bA c f g) 37] [aT ad f c.i,aT aa g c.s,bK] a w/\cG e h=some X) ?_ ?_
   ·refine dr [] I fun w hQ I=>?_;refine gE [0,1] I fun a I=>?_;obtain⟨ak,p,B⟩:=bd B;refine ec 2 I R4 (AP _ _ I.dlt I.g3 k.b _ p) fun _ w C a O U=>?_;obtain rfl:=C;have I:=fA U;refine gE [3,4] I fun a I=>?_;rcases cd B with⟨F,B⟩|⟨F,B⟩
    ·refine gE [5,6,7,8,9,10,11,12,13,14,15,16,17,18,19,20,21,22,23,24,25,26,27,28,29,30,31,32,33,34,35,36,37,38] I fun a I=>?_;refine eD ?_;exact fin
    refine gE [5,6,7] I fun a I=>?_;rcases cd B with⟨j,B⟩|⟨j,B⟩
    ·refine gE [8,9,10,11] I fun a I=>?_;obtain⟨u,n,B⟩:=bd B;obtain⟨t,V,a5,G,H,I⟩:=km (R:=ad) I El Em 1 rfl n;obtain rfl:=G;refine dg 12 I j (v:=pt t V) (H rfl rfl) fun a I=>?_;refine gE [13,14,15,16] I fun a I=>?_;obtain⟨ao,q,B⟩:=bd B;refine dp (i:=17) rfl (by kernel_rfl) I rfl rfl rfl j (bT I Oj rfl rfl (xR _ _ I.dlt I.g4 u.b k.b _ q) fun _ w C a O U=>⟨jx (O),?_⟩);obtain rfl:=C;have I:=fA U;refine gE [18,19,20,21] I fun a I=>?_;rcases cd B with⟨K,B⟩|⟨K,B⟩
     ·refine gE [22,23,24,25,26,27,28,29,30,31,32,33,34,35,36,37,38] I fun a I=>?_;refine eD ?_;exact fin
     refine gE [22,23,24,25,26,27] I fun a I=>?_;rcases cd B with⟨M,B⟩|⟨M,B⟩
     ·refine gE [28,29,30,31,32,33,34,35,36,37,38] I fun a I=>?_;refine eD ?_;exact fin
     refine gE [28,29,30,31,32] I fun a I=>?_;rcases cd B with⟨N,B⟩|⟨N,B⟩
     ·refine gE [33,34,35,36,37,38] I fun a I=>?_;refine eD ?_;exact fin
     refine gE [33,34,35,36,37,38] I fun a I=>?_;refine eD ?_;exact fin
    refine gE [8,9,10,11,12,13,14,15,16,17,18,19,20,21,22,23,24,25,26,27] I fun a I=>?_;rcases cd B with⟨P,B⟩|⟨P,B⟩
    ·refine gE [28,29,30,31,32,33,34,35,36,37,38] I fun a I=>?_;refine eD ?_;exact fin
    refine gE [28,29,30,31,32] I fun a I=>?_;rcases cd B with⟨Q,B⟩|⟨Q,B⟩
    ·refine gE [33,34,35,36,37,38] I fun a I=>?_;refine eD ?_;exact fin
    refine gE [33,34,35,36,37,38] I fun a I=>?_;refine eD ?_;exact fin
   rintro a w ⟨h,I,B⟩;unfold cG at B;exact fz
  exact fz
 rintro a w ⟨I,B⟩;unfold jS at B;refine an I fun a I=>?_;replace I:=I.zx 0 rfl;refine qy I (vt (vs:=[pt d 0]) I rfl) fun a I=>?_;obtain⟨ag,o,B⟩:=bd B;refine kE I R5 (lu _ _ I.dlt I.g3 111 R6 [pt d 0] (NZ (bS d 0 (bA c f g)) (NZ (aT ad f c.i) (NZ (aT aa g c.s) Eq))) (fun W=>li W c) (fun T L hT hLv hP W a1 S y B=>yM T L hT W c a1 f g d S hP.2.1 hP.2.2.1 hP.1 y B) ⟨I.g0,I.g1,I.g2,trivial⟩ c.s _ I.g2 _ o) fun w a I=>?_;exact fz
def dB (b:LI):=gd (cm (([]:List be).length+b.length)) <| some ((([]:List be)++b))
theorem pv (d:LI) (m:Value) (l:aQ ad T L m d) (y:LI) (B:dB d=some y):bm aO No 112 [m] L (fun v w'=>∃ (k:Value) (eK:bG),v=k/\jy ad T L w' [bX k eK] 88 k eK y):=by
 refine en Tryz.func112 Tryz.ntmps112 hT fun a I=>?_;replace I:=I.fS (aQ.dn l);unfold dB at B;refine an I fun a I=>?_;refine ax ?_;refine an I fun a I=>?_;obtain⟨b,f,g,n⟩:=Cc (R:=ad) I El 0 rfl;refine wl rfl (ky (v:=.bool b) I (g rfl) rfl rfl fun a I=>?_);refine an I fun a I=>?_;rcases JG (b) with c | c
 ·rw [f c] at B;have B:some ([])=some y:=B;refine an I fun a I=>?_;cases B
  refine aG I rfl (aF I rfl aH) ?_;exact⟨.slice none 0 0,[],rfl,kv _ _ _ _ _ _⟩
 refine an I fun a I=>?_;refine wl rfl (xN ad I FJ rfl fun o a w O I=>?_);refine an I fun a I=>?_;obtain⟨h,B⟩:=a6 B;refine wl rfl (cr (R:=ad) (xs:=([]:List be)) (ys:=d) I FJ (by decide) (by decide) rfl rfl 0 rfl 0 rfl 1 rfl h rfl fun j e a w O I=>?_);refine an I fun a I=>?_;cases B
 refine aG I rfl (aF I rfl aH) ?_;exact⟨j,e,rfl,I.zo ⟨.inr (az (i:=0) rfl),trivial⟩ 0 rfl 0 rfl⟩
def qh (b:LR):=gd (cm (([]:List ar).length+b.length)) <| some ((([]:List ar)++b))
theorem Cp (d:LR) (m:Value) (l:aQ aa T L m d) (y:LR) (B:qh d=some y):bm aO No 156 [m] L (fun v w'=>∃ (k:Value) (eK:bG),v=k/\jy aa T L w' [bo k eK] 78 k eK y):=by
 refine en Tryz.func156 Tryz.ntmps156 hT fun a I=>?_;replace I:=I.fS (aQ.dn l);unfold qh at B;refine an I fun a I=>?_;refine ax ?_;refine an I fun a I=>?_;obtain⟨b,f,g,n⟩:=Cc (R:=aa) I rG 0 rfl;refine wl rfl (ky (v:=.bool b) I (g rfl) rfl rfl fun a I=>?_);refine an I fun a I=>?_;rcases JG (b) with c | c
 ·rw [f c] at B;have B:some ([])=some y:=B;refine an I fun a I=>?_;cases B
  refine aG I rfl (aF I rfl aH) ?_;exact⟨.slice none 0 0,[],rfl,kv _ _ _ _ _ _⟩
 refine an I fun a I=>?_;refine wl rfl (xN aa I CA rfl fun o a w O I=>?_);refine an I fun a I=>?_;obtain⟨h,B⟩:=a6 B;refine wl rfl (cr (R:=aa) (xs:=([]:List ar)) (ys:=d) I CA (by decide) (by decide) rfl rfl 0 rfl 0 rfl 1 rfl h rfl fun j e a w O I=>?_);refine an I fun a I=>?_;cases B
 refine aG I rfl (aF I rfl aH) ?_;exact⟨j,e,rfl,I.zo ⟨.inr (az (i:=0) rfl),trivial⟩ 0 rfl 0 rfl⟩
def pC (b:LK):=gd (cm (([]:List ae).length+b.length)) <| some ((([]:List ae)++b))
theorem Bc (d:LK) (m:Value) (l:aQ ah T L m d) (y:LK) (B:pC d=some y):bm aO No 118 [m] L (fun v w'=>∃ (k:Value) (eK:bG),v=k/\jy ah T L w' [aJ k eK] 27 k eK y):=by
 refine en Tryz.func118 Tryz.ntmps118 hT fun a I=>?_;replace I:=I.fS (aQ.dn l);unfold pC at B;refine an I fun a I=>?_;refine ax ?_;refine an I fun a I=>?_;obtain⟨b,f,g,n⟩:=Cc (R:=ah) I nC 0 rfl;refine wl rfl (ky (v:=.bool b) I (g rfl) rfl rfl fun a I=>?_);refine an I fun a I=>?_;rcases JG (b) with c | c
 ·rw [f c] at B;have B:some ([])=some y:=B;refine an I fun a I=>?_;cases B
  refine aG I rfl (aF I rfl aH) ?_;exact⟨.slice none 0 0,[],rfl,kv _ _ _ _ _ _⟩
 refine an I fun a I=>?_;refine wl rfl (xN ah I ol rfl fun o a w O I=>?_);refine an I fun a I=>?_;obtain⟨h,B⟩:=a6 B;refine wl rfl (cr (R:=ah) (xs:=([]:List ae)) (ys:=d) I ol (by decide) (by decide) rfl rfl 0 rfl 0 rfl 1 rfl h rfl fun j e a w O I=>?_);refine an I fun a I=>?_;cases B
 refine aG I rfl (aF I rfl aH) ?_;exact⟨j,e,rfl,I.zo ⟨.inr (az (i:=0) rfl),trivial⟩ 0 rfl 0 rfl⟩
def pp (c:ar):=(pC c.v).bind fun d=>some ((ar.mk c.b c.t d c.l c.u c.a c.y))
theorem vS (b:ar) (j:Value) (h:aQ ah T L j b.v) (y:ar) (B:pp b=some y):bm aO No 122 [.agg (bN b j).toArray] L (fun v w'=>∃ (g:Value) (eK:bG),v = .agg (bN y g).toArray/\jy ah T L w' [aJ g eK] 27 g eK y.v):=by
 refine en Tryz.func122 Tryz.ntmps122 hT fun a I=>?_;replace I:=I.fS (aQ.dn h);unfold pp at B;refine kB I fun k m a w O I=>?_;refine ka I jB fun l n a w O I=>?_;refine an I fun a I=>?_;obtain⟨o,d,B⟩:=bd B;refine kc I PH (Bc _ _ I.dlt b.v _ I.g0 _ d) fun _ w C a O U=>?_;obtain⟨f,e,he,c⟩:=C;obtain rfl:=he.symm;have I:=sN U c;refine go I fun a w I=>?_;cases B
 refine aG I rfl (rC 1 I) ?_;exact⟨f,e,rfl,I.zo ⟨.inr (az (i:=0) rfl),trivial⟩ 0 rfl 0 rfl⟩
def tO (b:LR):=some (b)
def m6 (e c:LR) (b:Int):Option (Fl (LR×Int) (LR)):=cond (decide (b<(e.length:Int))) ((bp c b).bind fun d=>(pp d).bind fun f=>(bp c b).bind fun g=>some (.go ((c.set (Int.toNat b) f),IntKind.i64.wrap (b+1)))) (some (.out c))
def pM (c:LR):=(qh c).bind fun b=>(loop (fun s:LR×Int=>m6 b s.1 s.2) (b,0)).bind fun r=>tO r
theorem yl (o:LR) (X:Value) (W:aQ aa T L X o) (y:LR) (B:pM o=some y):bm aO No 113 [X] L (fun v w'=>∃ (S:Value) (eK:bG),v=S/\jy aa T L w' [bo S eK] 78 S eK y):=by
 refine en Tryz.func113 Tryz.ntmps113 hT fun a I=>?_;replace I:=I.fS (aQ.dn W);unfold pM at B;refine an I fun a I=>?_;obtain⟨p,t,B⟩:=bd B;refine kc I Sr (Cp _ _ I.dlt o _ I.g0 _ t) fun _ w C a O U=>?_;obtain⟨b,a1,he,m⟩:=C;obtain rfl:=he.symm;have I:=sN U m;refine an I fun a I=>?_;refine aK (J:=fun a w=>∃ (g:LR) (c:LV),St L No T 22 [(3,b)] [bo b c] [au aa c g] a w/\tO g=some y) ?_ ?_
 ·refine an I fun a I=>?_;obtain⟨r1,V,hMo1⟩:=bd B;refine bz _ (fun s a w=>∃ (e:LR) (d:Int) (f:LV),(e,d)=s/\St L No T 22 [(3,b),(8,b),(9,am (p.length:Int)),(10,am d)] [bo b f] [au aa f e] a w) V ⟨_,_,_,rfl,I.mt [0] [0]⟩ ?_;rintro s a w f1 ⟨e,d,f,rfl,I⟩ B hf1;have B:m6 p e d=some f1:=B;unfold m6 at B;refine an I fun a I=>?_;refine ax ?_;rcases cd B with⟨D,B⟩|⟨D,B⟩
  ·refine an I fun a I=>?_;refine ax ?_;refine an I fun a I=>?_;obtain⟨l,r,B⟩:=bd B;refine wl rfl (dK (R:=aa) I rG pA rfl rfl 0 rfl 0 rfl r rfl fun Y af ak a2 E F G a I=>?_);obtain⟨N,rfl,x⟩:=E;replace I:=I.fS x;refine qy I (bY (k:=0) I pA 0 rfl F G rfl id (us:=(bN l N)) rfl rfl (fun h=>by cases h)) fun a I=>?_;refine ka I jB fun Z ab a w O I=>?_;refine go I fun a w I=>?_;obtain⟨q,u,B⟩:=bd B;refine kc I Mc (vS _ _ I.dlt l _ I.g0 _ u) fun _ w C a O U=>?_;obtain⟨P,a3,he,n⟩:=C;obtain rfl:=he.symm;have I:=sN U n;obtain⟨A,j,B⟩:=bd B;refine wl rfl (dK (R:=aa) I rG pA rfl rfl 2 rfl 2 rfl j rfl fun a0 ag ao a4 H K M a I=>?_);obtain⟨Q,rfl,z⟩:=H;replace I:=(I.fS z).zf (R:=ah) 0 rfl 1 rfl;refine wl rfl (ig (R:=aa) (k:=0) (cs:=(bN A Q)) (us:=(bN q P)) (x':=q) I rfl rfl rfl pA 1 rfl 4 rfl K M j (⟨_,rfl,I.g1⟩) rfl rfl (⟨_,rfl,I.g0⟩) fun a5 w O I=>?_);exact fz
  exact fz
 rintro a w ⟨g,c,I,B⟩;unfold tO at B;refine an I fun a I=>?_;cases B
 refine aG I rfl (aF I rfl aH) ?_;exact⟨b,c,rfl,I.zo ⟨.inr (az (i:=0) rfl),trivial⟩ 0 rfl 0 rfl⟩
def mp (b:ap):=(dB b.i).bind fun c=>(pM b.s).bind fun d=>some ((ap.mk b.r c d))
theorem BR (b:ap) (r t:Value) (p:aQ ad T L r b.i) (q:aQ aa T L t b.s) (y:ap) (B:mp b=some y):bm aO No 59 [.agg (bA b r t).toArray] L (fun v w'=>∃ (f:Value) (rJ:bG) (g:Value) (KP:bG),v = .agg (bA y f g).toArray/\jy ad T L w' [bX f rJ,bo g KP] 88 f rJ y.i/\jy aa T L w' [bX f rJ,bo g KP] 78 g KP y.s/\(∀ k,f.ownBlock=some k->g.ownBlock≠some k)):=by
 refine en Tryz.func59 Tryz.ntmps59 hT fun a I=>?_;replace I:=(I.fS (aQ.dn p)).fS (aQ.dn q);unfold mp at B;refine kB I fun c x a w O I=>?_;refine ka I vx fun u z a w O I=>?_;refine an I fun a I=>?_;refine ax ?_;refine dr [(7,.blk (some c)),(9,.blk (some c))] I fun w hQ I=>?_;refine gE [0,1,3,4] I fun a I=>?_;obtain⟨A,h,B⟩:=bd B;refine ec 2 I R7 (pv _ _ I.dlt b.i _ I.g1 _ h) fun _ w C a O U=>?_;obtain⟨n,l,he,d⟩:=C;obtain rfl:=he.symm;have I:=sN U d;refine gE [6] I fun a I=>?_;obtain⟨D,j,B⟩:=bd B;refine ec 5 I PF (yl _ _ I.dlt b.s _ I.g1 _ j) fun _ w C a O U=>?_;obtain⟨o,m,he,e⟩:=C;obtain rfl:=he.symm;have I:=sN U e;refine es 7 I fun w I=>?_;refine gE [8] I fun a I=>?_;refine es 9 I fun w I=>?_;refine eD ?_;refine go I fun a w I=>?_;cases B
 refine aG I rfl (rC 2 I) ?_;exact⟨n,l,o,m,rfl,I.zo ⟨.inr (az (i:=1) rfl),⟨.inr (az (i:=0) rfl),trivial⟩⟩ 1 rfl 1 rfl,I.zo ⟨.inr (az (i:=1) rfl),⟨.inr (az (i:=0) rfl),trivial⟩⟩ 0 rfl 0 rfl,(I.zp 1 rfl 0 rfl (by decide))⟩
end
end
section
open Go.RowKit
theorem tA:GE aO 35 78 8 96:=wV (by kernel_rfl:Bh aO 35=some (78,8,96))
set_option maxHeartbeats 2000000 in
theorem K0 (cl xc:bG) (n:Nat) (v:Value) (w:World) (hown:mN w 0 78 8 v cl) (hcl:cl.length=n*8) (hxl:xc.length=8) (hx1:∀ u∈xc,u.oneCell'=true) (hn:n<=4294967296)
  (vb:Nat) (hv:w.heap[vb]? = some (.cells xc.toArray 78 (0,0))) :
  Calls aO 123 #[v,.int .i64 n,.slice (some ⟨vb,0,none⟩) 1 1] w fun e w' =>
   ∃ v',e = .returned v'/\mN w' 0 78 8 v' (cl++xc)/\w.grownBy w' v.ownBlock/\(∀ k,v'.ownBlock=some k->v.ownBlock=some k∨w.heap.size<=k):=by
 obtain⟨A,m,c,rfl,h1,hnc,hc,hat⟩:=hown.form (by omega);obtain rfl:m=n:=by omega
 unfold maxLen at hc;have hsrc:At w (some ⟨vb,0,none⟩) xc:=.inr ⟨vb,0,rfl,fun j u hu=>by rw [cell_of_row w vb _ _ _ _ hv]; simpa using hu⟩;have Hsrc:=uE hsrc;have Hown:=uE hown;have Hv:=uE hv;have Hx1:=uE hx1;clear hsrc hown hv hat hx1;have hb1:cl.length+xc.length<=35000000000*4:=by omega
 cases A with
 | none =>
  go_enter Tryz.func123,Tryz.ntmps123
  go_wp2_with (at_builtin; refine Dt _ rfl _ _ 35 rfl _ 8 96 tA 0 (.slice none m c) cl rfl Hown.out _ 1 1 xc rfl (by rw [hxl]) Hsrc.out Hx1.out (by unfold maxLen; omega) (by omega) (cT _) ?_; intro v1 w1 hown1 hg1 hat1)
  all_goals (go_ret; exact⟨v1,rfl,hown1,hg1,fun k O=>by rcases hat1 with h | h <;> rw [h] at O; exact .inl O; exact .inr (by injection O with O; omega)⟩)
 | some a =>
  obtain⟨ab,ao,asp⟩:=a
  go_enter Tryz.func123,Tryz.ntmps123
  go_wp2_with (at_builtin; refine Dt _ rfl _ _ 35 rfl _ 8 96 tA 0 (.slice (some ⟨ab,ao,asp⟩) m c) cl rfl Hown.out _ 1 1 xc rfl (by rw [hxl]) Hsrc.out Hx1.out (by unfold maxLen; omega) (by omega) (cT _) ?_; intro v1 w1 hown1 hg1 hat1)
  all_goals (go_ret; exact⟨v1,rfl,hown1,hg1,fun k O=>by rcases hat1 with h | h <;> rw [h] at O; exact .inl O; exact .inr (by injection O with O; omega)⟩)
set_option maxHeartbeats 4000000 in
set_option maxRecDepth 100000 in
theorem I5 (cl xc:bG) (n i g off c:Nat) (cs:Array Value) (fz:Nat×Nat) (w:World) (hi:i<n) (hroom:n+1<=c) (hc:c<=maxLen) (hl:n<=4294967296) (hcl:cl.length=n*8) (hxl:xc.length=8) (hx1:∀ u∈xc,u.oneCell'=true) (hc1:∀ u∈cl,u.oneCell'=true)
  (hg:w.heap[g]? = some (.cells cs 78 fz)) (hfz:fz=(0,0)∨cs.size<=fz.1) (hfit:off+c*8<=cs.size) (hcs:∀ j u,cl[j]? = some u->cs[off+j]? = some u)
  (vb:Nat) (hv:w.heap[vb]? = some (.cells xc.toArray 78 (0,0))) (hne:vb≠g) :
  Calls aO 123 #[.slice (some ⟨g,off,none⟩) n c,.int .i64 i,.slice (some ⟨vb,0,none⟩) 1 1] w fun e w' =>
   ∃ v',e = .returned v'/\mN w' 0 78 8 v' (cl.take (i*8)++xc++cl.drop (i*8))/\w.grownBy w' (some g)/\(∀ k,v'.ownBlock=some k->some g=some k∨w.heap.size<=k):=by
 have hc':=hc;unfold maxLen at hc;obtain⟨TT,hT⟩:∃ TT,TT=cl.take (i*8):=⟨_,rfl⟩;obtain⟨DD,hD⟩:∃ DD,DD=cl.drop (i*8):=⟨_,rfl⟩;have hTl:TT.length=i*8:=by rw [hT,gQ,hcl]; omega
 have hDl:DD.length=(n-i)*8:=by rw [hD,sL,hcl]; omega
 rw [<- hT,<- hD];have hD1:∀ u∈DD,u.oneCell'=true:=fun u hu=>hc1 u (by rw [hD] at hu; exact Dy hu);have hcell:∀ o,w.cell? ⟨g,o,none⟩=cs[o]?:=fun o=>cell_of_row w g o cs _ _ hg;obtain⟨G1,hG1⟩:∃ G,G=w.drew.setCells g (off+(i+1)*8) DD:=⟨_,rfl⟩;obtain⟨c1,a1,a2,a3,a4⟩:=eB g _ fz DD (off+(i+1)*8) w.drew cs hg;obtain⟨c2,b1,b2,b3,b4⟩:=eB g _ fz xc (off+i*8) G1 c1 (by rw [hG1]; exact a1);have hv1:G1.heap[vb]? = some (.cells xc.toArray 78 (0,0)):=by rw [hG1,qO _ _ _ _ _ hne]; exact hv
 have hcp1:∀ ty dc sc,(Builtin.copy_ #[35,35] ty #[.slice (some ⟨g,off+(i+1)*8,none⟩) (n-i) dc,.slice (some ⟨g,off+i*8,none⟩) (n+1-i) sc]).run aO w.drew = .ok (goInt ((n-i:Nat):Int)) G1:=fun ty dc sc=>by
  rw [hG1];refine sW (P:=aO) w.drew _ _ ty _ 8 96 tA g (off+(i+1)*8) _ dc g (off+i*8) _ sc _ _ (by simp only [Nat.min_def]; split <;> omega) hDl ?_ ?_ ?_ hD1
  ·intro j u hu;show w.cell? _=_;rw [hcell,my];rw [hD,qT] at hu;exact hcs _ u hu
  ·intro j hj;show (w.cell? _).isSome=true;rw [hcell,xD (by omega)]; rfl
  ·intro j hj;show w.frozen? _=false;exact BF.free ⟨fz,hg,hfz⟩ (by omega)
 have hcp2:∀ ty dc,(Builtin.copy_ #[35,35] ty #[.slice (some ⟨g,off+i*8,none⟩) (n+1-i) dc,.slice (some ⟨vb,0,none⟩) 1 1]).run aO G1 = .ok (goInt 1) (G1.setCells g (off+i*8) xc):=fun ty dc=>by
  have hg1:G1.heap[g]? = some (.cells c1 78 fz):=by rw [hG1]; exact a1
  refine sW (P:=aO) G1 _ _ ty _ 8 96 tA g (off+i*8) _ dc vb 0 1 1 1 xc (by simp only [Nat.min_def]; split <;> omega) (by rw [hxl]) ?_ ?_ ?_ hx1
  ·intro j u hu;rw [cell_of_row _ vb _ _ _ _ hv1];simpa using hu
  ·intro j hj;rw [cell_of_row _ g _ _ _ _ hg1,xD (by omega)]; rfl
  ·intro j hj;exact BF.free ⟨fz,hg1,by rw [a2]; exact hfz⟩ (by omega)
 have hov:∀ lb cb,(callFunc 164 #[.slice (some ⟨vb,0,none⟩) 1 1,.slice (some ⟨g,off+(i+1)*8,none⟩) lb cb]).run aO w = .ok (.value (.bool false)) w:=fun lb cb=>by
  rw [run_callFunc_extern Tryz.func164 (by kernel_rfl) (by kernel_rfl) (by kernel_rfl) (e:=Extern.SlicesOverlaps.overlaps #[35,35] #[4]) (by kernel_rfl),
   Lib.run_overlaps_apart w 35 4 78 Tryz.underlying35 8 (fun _=>by kernel_rfl) ⟨vb,0,none⟩ ⟨g,off+(i+1)*8,none⟩ 1 1 lb cb hne 78 78 8 cs.size
    (by simp [World.shape?,hv,hxl]) (by simp [World.shape?,hg]) (by omega) (by simp [World.frozen?,hv]) (by simp [World.frozen?,hv])]
  rfl
 have hz2:¬ ((i:Int)=(n:Int)):=by omega
 have hw1:IntKind.i64.wrap ((i:Int)+1)=(i:Int)+1:=IntWalk.i64_in _ (by omega);have hb1:(0:Int)<=(i:Int)+1:=by omega
 have htn:((i:Int)+1).toNat=i+1:=by omega
 have hb2:¬ (c=i+1):=by omega
 have hb3:(i:Int)<=(n:Int)+1:=by omega
 have hb4:¬ (c=i):=by omega
 have hin:i<=n:=by omega
 have HT:=uE hT;have HD:=uE hD;have Hg:=uE hg;have Hv:=uE hv;have Hv1:=uE hv1;have HTl:=uE hTl;have HDl:=uE hDl;have HG1:=uE hG1;have Ha1:=uE a1;have Hb1:=uE b1;have Hc:=uE hcs;have Ha:=uE a4;have Hb:=uE b4;have Ha3:=uE a3;have Hb3:=uE b3;have Ha2:=uE a2;have Hb2:=uE b2;have Hcl:=uE hcl;have Hxl:=uE hxl;have Hfz:=uE hfz;clear hT hD hg hv hv1 hTl hDl hG1 a1 b1 hcs a4 b4 a3 b3 hcell a2 b2 hcl hxl hfz hx1 hc1 hD1
 go_enter Tryz.func123,Tryz.ntmps123
 go_wp2_with (simp only [hov])
 go_region_law (refine E1 rfl _ _ 35 35 rfl _ _ (by simp [Act.eval,Act.put]) (by simp [Act.eval,Act.put]) (hcp1 _ _ _) ?_)
 go_wp2_with (at_builtin; refine Iq _ rfl _ _ 35 35 rfl _ _ rfl rfl (hcp2 _ _) ?_)
 go_ret
 have eT:=HTl.out;have eD:=HDl.out;have eX:=Hxl.out;refine⟨_,rfl,.inr ⟨g,off,n+1,c,c2,rfl,?_,cT _,⟨fz,Hb1.out,by rw [Hb2.out,Ha2.out]; exact Hfz.out⟩,hroom,hc',by rw [Hb2.out,Ha2.out]; exact hfit,?_⟩,?_,fun k O=>.inl O⟩
 ·rw [br,br,eT,eD,eX]; omega
 ·refine Ju (cs:=cs) (c1:=c1) (fun j u hu=>?_) (fun j u hu=>?_) (fun j hj=>?_) (fun j u hu=>?_) (fun j hj=>?_)
  ·rw [HT.out,pY] at hu;split at hu
   ·exact Hc.out j u hu
   ·cases hu
  ·have:=Ha.out (by omega) j u hu;rwa [show off+(i+1)*8+j=off+TT.length+xc.length+j by rw [eT,eX]; omega] at this
  ·exact Ha3.out j (.inl (by rw [eT] at hj; omega))
  ·have:=Hb.out (by rw [eX,Ha2.out]; omega) j u hu;rwa [<- eT] at this
  ·refine Hb3.out j ?_;rw [eT,eX] at hj;rw [eX];omega
 ·have e1:=lm w.drew g (off+(i+1)*8) DD;have e2:=lm G1 g (off+i*8) xc;rw [<- HG1.out] at e1;exact World.grownBy.trans (a:=w) (b:=G1) ⟨e1.os,e1.tape,e1.output,e1.size,e1.block⟩ e2
set_option maxHeartbeats 4000000 in
set_option maxRecDepth 100000 in
theorem I4 (cl xc:bG) (n i g off c:Nat) (cs:Array Value) (fz:Nat×Nat) (w:World) (hi:i<n) (hnc:n<=c) (hroom:c<n+1) (hc:c<=maxLen) (hl:n<=4294967296) (hcl:cl.length=n*8) (hxl:xc.length=8) (hx1:∀ u∈xc,u.oneCell'=true) (hc1:∀ u∈cl,u.oneCell'=true)
  (hg:w.heap[g]? = some (.cells cs 78 fz)) (hfit:off+c*8<=cs.size) (hcs:∀ j u,cl[j]? = some u->cs[off+j]? = some u)
  (vb:Nat) (hv:w.heap[vb]? = some (.cells xc.toArray 78 (0,0))) :
  Calls aO 123 #[.slice (some ⟨g,off,none⟩) n c,.int .i64 i,.slice (some ⟨vb,0,none⟩) 1 1] w fun e w' =>
   ∃ v',e = .returned v'/\mN w' 0 78 8 v' (cl.take (i*8)++xc++cl.drop (i*8))/\w.grownBy w' (some g)/\(∀ k,v'.ownBlock=some k->some g=some k∨w.heap.size<=k):=by
 have hc':=hc;unfold maxLen at hc;obtain⟨TT,hT⟩:∃ TT,TT=cl.take (i*8):=⟨_,rfl⟩;obtain⟨DD,hD⟩:∃ DD,DD=cl.drop (i*8):=⟨_,rfl⟩;have hTl:TT.length=i*8:=by rw [hT,gQ,hcl]; omega
 have hDl:DD.length=(n-i)*8:=by rw [hD,sL,hcl]; omega
 rw [<- hT,<- hD];have hD1:∀ u∈DD,u.oneCell'=true:=fun u hu=>hc1 u (by rw [hD] at hu; exact Dy hu);have hcell:∀ o,w.cell? ⟨g,o,none⟩=cs[o]?:=fun o=>cell_of_row w g o cs _ _ hg;have hgl:g<w.heap.size:=(A7.1 hg).1;have hvl:vb<w.heap.size:=(A7.1 hv).1;obtain⟨_,⟨i0,z,hi0,hz0,hsize,hby,hzs⟩,_⟩:=tA;have hold:(Builtin.firstCells i0.size i (.slice (some ⟨g,off,none⟩) i c)).run aO w.drew = .ok TT.toArray w.drew:=by
  rw [hsize];exact run_firstCells_some w.drew 8 i ⟨g,off,none⟩ i c _ hTl (fun j u hu=>by
   rw [Addr.add_lit];show w.cell? _=_;rw [hcell];rw [hT,pY] at hu;split at hu
   ·exact hcs j u hu
   ·cases hu)
 have O:i+(n+1-i)=n+1:=by omega
 obtain⟨G,hG⟩:∃ G,G=grownCap w (n+1) c 78:=⟨_,rfl⟩;obtain⟨ROW,hROW⟩:∃ ROW:Array Value,ROW=TT.toArray++Builtin.zeroCells z.cells (n+1-i)++Builtin.zeroCells z.cells (G-(n+1)):=⟨_,rfl⟩;have hGn:n+1<=G:=by rw [hG]; exact grownCap_ge w _ _ _
 have hG63:G<=maxLen:=by rw [hG]; exact grownCap_le_maxLen w _ _ _ (by unfold maxLen; omega)
 have hRl:ROW.size=G*8:=by
  rw [hROW];simp only [Kx,A2,size_zeroCells,hzs,hTl];omega
 have hrz:∀ ty,(Builtin.append_ #[35,3] ty #[.slice (some ⟨g,off,none⟩) i c,.int .i64 ((n:Int)+1-(i:Int))]).run aO w =
   .ok (.slice (some ⟨w.heap.size,0,none⟩) (n+1) G) (w.drew.alloc (.cells ROW 78)):=fun ty=>by
  have h:=Lib.run_append_grow_zeros w 35 3 ty 78 i0 z .i64 .i64 Tryz.underlying35 Tryz.underlying3 hi0 hz0 (some ⟨g,off,none⟩) i c _ hold (n+1-i) (by omega) (by omega) (by omega) (by omega) (by rw [hby]; omega) (by rw [hby,O]; exact growslice_fits hroom (by omega));rw [O,<- hG,<- hROW] at h;rw [show (n:Int)+1-(i:Int)=((n+1-i:Nat):Int) by omega];exact h
 obtain⟨W1,hW1⟩:∃ W1,W1=w.drew.alloc (.cells ROW 78):=⟨_,rfl⟩;have hW1g:W1.heap[w.heap.size]? = some (.cells ROW 78 (0,0)):=by rw [hW1]; exact heap_alloc_new w.drew _
 have hW1o:∀ k,k<w.heap.size->W1.heap[k]? = w.heap[k]?:=fun k O=>by rw [hW1]; exact Below.heap_alloc w.drew _ k O
 rw [<- hW1] at hrz;have hcpA:∀ ty dc,(Builtin.copy_ #[35,35] ty #[.slice (some ⟨w.heap.size,i*8,none⟩) (n+1-i) dc,.slice (some ⟨vb,0,none⟩) 1 1]).run aO W1 = .ok (goInt 1) (W1.setCells w.heap.size (i*8) xc):=fun ty dc=>by
  refine sW (P:=aO) W1 _ _ ty _ 8 96 tA w.heap.size (i*8) _ dc vb 0 1 1 1 xc (by simp only [Nat.min_def]; split <;> omega) (by rw [hxl]) ?_ ?_ ?_ hx1
  ·intro j u hu;rw [cell_of_row _ vb _ _ _ _ ((hW1o vb hvl).trans hv)];simpa using hu
  ·intro j hj;rw [cell_of_row _ _ _ _ _ _ hW1g,xD (by omega)]; rfl
  ·intro j hj;simp [World.frozen?,hW1g]
 obtain⟨c1,a1,a2,a3,a4⟩:=eB w.heap.size _ (0,0) xc (i*8) W1 ROW hW1g;obtain⟨W2,hW2⟩:∃ W2,W2=W1.setCells w.heap.size (i*8) xc:=⟨_,rfl⟩;rw [<- hW2] at a1 hcpA;have hcpB:∀ ty dc sc,(Builtin.copy_ #[35,35] ty #[.slice (some ⟨w.heap.size,(i+1)*8,none⟩) (n-i) dc,.slice (some ⟨g,off+i*8,none⟩) (n-i) sc]).run aO W2.drew = .ok (goInt ((n-i:Nat):Int)) (W2.drew.setCells w.heap.size ((i+1)*8) DD):=fun ty dc sc=>by
  refine sW (P:=aO) W2.drew _ _ ty _ 8 96 tA w.heap.size ((i+1)*8) _ dc g (off+i*8) _ sc _ _ (by simp only [Nat.min_def]; split <;> omega) hDl ?_ ?_ ?_ hD1
  ·intro j u hu;show W2.cell? _=_;rw [hW2,World.cell?_of_block (a:=⟨g,_,none⟩) (qO _ _ _ W1 g (by omega)),World.cell?_of_block (a:=⟨g,_,none⟩) (hW1o g hgl),hcell,my];rw [hD,qT] at hu;exact hcs _ u hu
  ·intro j hj;show (W2.cell? _).isSome=true;rw [cell_of_row _ _ _ _ _ _ a1,xD (by omega)]; rfl
  ·intro j hj;show W2.frozen? _=false;simp [World.frozen?,a1]
 obtain⟨c2,b1,b2,b3,b4⟩:=eB w.heap.size _ (0,0) DD ((i+1)*8) W2.drew c1 a1;have hz2:¬ ((i:Int)=(n:Int)):=by omega
 have hz3:(c:Int)<(n:Int)+1:=by omega
 have hw1:IntKind.i64.wrap ((i:Int)+1)=(i:Int)+1:=IntWalk.i64_in _ (by omega);have hb1:(0:Int)<=(i:Int)+1:=by omega
 have htn:((i:Int)+1).toNat=i+1:=by omega
 have hb3:(i:Int)<=(n:Int)+1:=by omega
 have hb4:¬ (c=i):=by omega
 have hin:i<=n:=by omega
 have hGi:¬ (G=i):=by omega
 have hGim:¬ (G=i+1):=by omega
 have hG63':=hG63;unfold maxLen at hG63;have HT:=uE hT;have HD:=uE hD;have HTl:=uE hTl;have HDl:=uE hDl;have Hb1:=uE b1;have Hc:=uE hcs;have Ha:=uE a4;have Hb:=uE b4;have Ha3:=uE a3;have Hb3:=uE b3;have Ha2:=uE a2;have Hb2:=uE b2;have HR:=uE hRl;have HROW:=uE hROW;have HW1:=uE hW1;have HW2:=uE hW2;have Hxl:=uE hxl;clear hT hD hg hv hTl hDl a1 b1 hcs a4 b4 a3 b3 hcell a2 b2 hRl hROW hW1 hW2 hG hold O hW1g hW1o hi0 hz0 hsize hby hzs hcl hxl hx1 hc1 hD1
 go_enter Tryz.func123,Tryz.ntmps123
 go_wp2_with (first
  | (at_builtin; refine xy _ rfl _ _ _ _ rfl _ _ rfl rfl (hrz _) ?_)
  | (at_builtin; refine Iq _ rfl _ _ 35 35 rfl _ _ rfl rfl (hcpA _ _) ?_))
 go_region_law (refine E1 rfl _ _ 35 35 rfl _ _ (by simp [Act.eval,Act.put]) (by simp [Act.eval,Act.put]) (hcpB _ _ _) ?_)
 go_wp2
 go_ret
 have eT:=HTl.out;have eD:=HDl.out;have eX:=Hxl.out;refine⟨.slice (some ⟨w.heap.size,0,none⟩) (n+1) G,rfl,.inr ⟨w.heap.size,0,n+1,G,c2,rfl,?_,cT _,BF.of Hb1.out,hGn,hG63',by rw [Hb2.out,Ha2.out,HR.out]; omega,?_⟩,?_,fun k O=>.inr (uO (bJ O))⟩
 ·rw [br,br,eT,eD,eX]; omega
 ·refine Ig (cs:=ROW) (c1:=c1) (fun j u hu=>?_) (fun j u hu=>?_) (fun j hj=>?_) (fun j u hu=>?_) (fun j hj=>?_)
  ·have hj:=(bR.1 hu).1;rw [HROW.out,kj,Array.append_assoc,Pp (by simpa using hj)];simpa using hu
  ·have:=Ha.out (by rw [eX,HR.out]; omega) j u hu;rwa [kj,eT]
  ·refine Ha3.out j ?_;rw [eT,eX] at hj;rw [eX];omega
  ·have:=Hb.out (by rw [eD,Ha2.out,HR.out]; omega) j u hu;rwa [show (i+1)*8+j=0+TT.length+xc.length+j by rw [eT,eX]; omega] at this
  ·exact Hb3.out j (.inl (by rw [eT,eX] at hj; omega))
 ·have e0:w.grownBy W1 (some g):=by rw [HW1.out]; exact⟨rfl,rfl,rfl,by simp,fun k O _=>Below.heap_alloc w.drew _ k O⟩
  have e1:=lm W1 w.heap.size (i*8) xc;have e2:=lm W2.drew w.heap.size ((i+1)*8) DD;rw [<- HW2.out] at e1;refine⟨?_,?_,?_,?_,?_⟩
  ·exact e2.os.trans (e1.os.trans e0.os)
  ·exact e2.tape.trans (e1.tape.trans e0.tape)
  ·exact e2.output.trans (e1.output.trans e0.output)
  ·exact du e0.size (du e1.size e2.size)
  ·intro k O hne;have hk1:=uP O e0.size;have hk2:=uP hk1 e1.size;have hne':some k≠some w.heap.size:=fun e=>by injection e; omega
   exact (e2.block k hk2 hne').trans ((e1.block k hk1 hne').trans (e0.block k O hne))
theorem KZ (cl xc:bG) (n:Nat) (v:Value) (i:Nat) (w:World) (hown:mN w 0 78 8 v cl) (hcl:cl.length=n*8) (hxl:xc.length=8) (hx1:∀ u∈xc,u.oneCell'=true) (hc1:∀ u∈cl,u.oneCell'=true) (hi:i<=n) (hl:n<=4294967296)
  (vb:Nat) (hv:w.heap[vb]? = some (.cells xc.toArray 78 (0,0))) (hne:v.ownBlock≠some vb) :
  Calls aO 123 #[v,.int .i64 i,.slice (some ⟨vb,0,none⟩) 1 1] w fun e w' =>
   ∃ v',e = .returned v'/\mN w' 0 78 8 v' (cl.take (i*8)++xc++cl.drop (i*8))/\w.grownBy w' v.ownBlock/\(∀ k,v'.ownBlock=some k->v.ownBlock=some k∨w.heap.size<=k):=by
 rcases e9 i n with h | h
 ·have ho:=hown;rcases hown with⟨rfl,h0⟩|⟨g,off,m,cap,cs,rfl,h1,hb,hg,hnc,hc,hsz,hcs⟩
  ·rw [h0] at hcl;simp at hcl;omega
  ·obtain rfl:m=n:=by omega
   obtain⟨fz,hg,hfz⟩:=hg;have hne':vb≠g:=fun e=>hne (by simp [Value.ownBlock,e]);rcases e9 cap (m+1) with h2 | h2
   ·exact I4 cl xc m i g off cap cs fz w h hnc h2 hc hl hcl hxl hx1 hc1 hg hsz hcs vb hv
   ·exact I5 cl xc m i g off cap cs fz w h h2 hc hl hcl hxl hx1 hc1 hg hfz hsz hcs vb hv hne'
 ·obtain rfl:i=n:=by omega
  have e1:cl.take (i*8)++xc++cl.drop (i*8)=cl++xc:=by
   rw [<- hcl,f9,Ff,jA]
  rw [e1];exact K0 cl xc i v w hown hcl hxl hx1 hl vb hv
theorem My {α:Type} {R:aY α} (C:R.size=8) (T:Nat->Prop) (L:World) (v:Value) (cl:bG) (vb:Nat) (xc:bG) (xs:List α) (x:α) (i:Int) (hD:vy T L [.own v 78 R.size cl,.box vb xc 78]) (hv:bf R (dT T [.own v 78 R.size cl,.box vb xc 78]) L cl xs) (hx:R.rel (dT T [.own v 78 R.size cl,.box vb xc 78]) L xc x)
  (h0:decide (0<=i)=true) (h1:decide (i<=xs.length)=true) (hr:cm (xs.length+1)=true):bm aO (MD [.own v 78 R.size cl,.box vb xc 78]) 123 [v,.int .i64 i,.slice (some ⟨vb,0,none⟩) 1 1] L (fun v' w'=>∃ cl',bf R (dT T [.own v' 78 R.size cl']) w' cl' (xs.take i.toNat++x::xs.drop i.toNat)/\kl L w' [.own v 78 R.size cl,.box vb xc 78] [.own v' 78 R.size cl']):=by
 have h0:=of_decide_eq_true h0;have h1:=of_decide_eq_true h1;have hr:=Da hr;obtain⟨k,rfl⟩:∃ k:Nat,i=k:=⟨i.toNat,by omega⟩;have hown:=(hD.own _ dF).1;have hbox:L.heap[vb]? = some (.cells xc.toArray 78 (0,0)):=hD.own (.box vb xc 78) (by simp);have hap:=(jl.1 hD.apart).1 (.box vb xc 78) (by simp);have hne:v.ownBlock≠some vb:=fun e=>hap vb e rfl;have hpos:0<R.size:=by rw [C]; omega
 have hx1:=hv.cell hpos;have hcl:=hv.1;rw [C] at hown hcl;refine (KZ cl xc xs.length v k L hown hcl (by rw [R.len hx,C]) (fun u hu=>R.one hx u hu) hx1 (by omega) (by omega) vb hbox hne).mono ?_;rintro e w' ⟨v',rfl,g1,g2,g3⟩;have O:=Kt.grown g2;have hkM:Kt (MD [.own v 78 R.size cl,.box vb xc 78]) L w':=O.mono fun j hj=>⟨_,dF,hj⟩;have hN:kl L w' [.own v 78 R.size cl,.box vb xc 78] [.own v' 78 R.size (cl.take (k*8)++xc++cl.drop (k*8))]:=by
  refine⟨fun r hr=>?_,fun r hr j hj=>?_,Gz _⟩
  ·simp only [bC,cF,or_false] at hr;subst hr;refine⟨?_,hpos⟩;rw [C]; exact g1
  ·simp only [bC,cF,or_false] at hr;subst hr;rcases g3 j hj with h | h
   ·exact .inl ⟨_,dF,h⟩
   ·exact .inr h
 refine⟨v',rfl,hkM,_,?_,hN⟩;have hlo:=hv.cut (cT k) (by omega:k<=xs.length);have hhi:=hv.cut (by omega:k<=xs.length) (bx _);have e8:k*R.size=k*8:=by rw [C]
 rw [DF,Fg,Fg,e8] at hlo;rw [f9,sI (by rw [hv.1]; exact bx _),e8] at hhi;have h3:=(hlo.append (aN hx)).append hhi;rw [show ((k:Int)).toNat=k by omega,show xs.take k++x::xs.drop k=xs.take k++[x]++xs.drop k by simp];refine h3.keep (hkM.mono fun j hj=>.inr hj) fun j hj=>?_;rcases hj with hj | ⟨r,hr,hj⟩
 ·exact .inl (.inl hj)
 ·rcases hN.from_ r hr j hj with h | h
  ·exact .inl (.inr h)
  ·exact .inr h
end
end Go.Proofs.YtllbbcgnnoonoaaGreatDoor
section
namespace Go.Proofs
open Go.Shelf
def Tryz.sortKey_ren:Go.Shelf.Ren:=⟨fun | 6=>119 | 15=>161 | 14=>160 | 28=>204 | 29=>205 | 20=>196 | 21=>197 | 22=>198 | 23=>199 | 24=>200 | 25=>201 | 26=>202 | 27=>203 | 46=>229 | 47=>230 | 48=>231 | 49=>232 | 50=>233 | 57=>244 | n=>n,fun | 22=>59 | 24=>27 | 25=>90 | 3=>3 | 39=>150 | 0=>0 | 53=>252 | 55=>45 | 4=>4 | 46=>246 | 45=>245 | 50=>173 | 5=>5 | 9=>9 | 66=>270 | 70=>274 | 76=>286 | 77=>127 | n=>n,fun | n=>n⟩
theorem Tryz.sortKey:Go.Proofs.SlLaysF0.n6 Tryz.prog Tryz.sortKey_ren:={
 mixed:=by kernel_rfl
 f6:=⟨Tryz.f119.name,by decide,Tryz.func119.trans (congrArg some (by kernel_rfl))⟩
 f14:=⟨Tryz.f160.name,by decide,Tryz.func160.trans (congrArg some (by kernel_rfl))⟩
 f15:=Tryz.func161.trans (congrArg some (by kernel_rfl))
 f20:=⟨Tryz.f196.name,by decide,Tryz.func196.trans (congrArg some (by kernel_rfl))⟩
 f21:=⟨Tryz.f197.name,by decide,Tryz.func197.trans (congrArg some (by kernel_rfl))⟩
 f22:=⟨Tryz.f198.name,by decide,Tryz.func198.trans (congrArg some (by kernel_rfl))⟩
 f23:=⟨Tryz.f199.name,by decide,Tryz.func199.trans (congrArg some (by kernel_rfl))⟩
 f24:=⟨Tryz.f200.name,by decide,Tryz.func200.trans (congrArg some (by kernel_rfl))⟩
 f25:=⟨Tryz.f201.name,by decide,Tryz.func201.trans (congrArg some (by kernel_rfl))⟩
 f26:=⟨Tryz.f202.name,by decide,Tryz.func202.trans (congrArg some (by kernel_rfl))⟩
 f27:=⟨Tryz.f203.name,by decide,Tryz.func203.trans (congrArg some (by kernel_rfl))⟩
 f28:=Tryz.func204.trans (congrArg some (by kernel_rfl))
 f29:=Tryz.func205.trans (congrArg some (by kernel_rfl))
 f46:=⟨Tryz.f229.name,by decide,Tryz.func229.trans (congrArg some (by kernel_rfl))⟩
 f47:=Tryz.func230.trans (congrArg some (by kernel_rfl))
 f48:=Tryz.func231.trans (congrArg some (by kernel_rfl))
 f49:=⟨Tryz.f232.name,by decide,Tryz.func232.trans (congrArg some (by kernel_rfl))⟩
 f50:=⟨Tryz.f233.name,by decide,Tryz.func233.trans (congrArg some (by kernel_rfl))⟩
 f57:=⟨Tryz.f244.name,by decide,Tryz.func244.trans (congrArg some (by kernel_rfl))⟩
 t0:=Tryz.underlying0
 a0:=Tryz.isAgg0
 z0:=Tryz.sizeOf0
 v0:=Tryz.zeroValue0
 t3:=Tryz.underlying3
 a3:=Tryz.isAgg3
 z3:=Tryz.sizeOf3
 v3:=Tryz.zeroValue3
 t4:=Tryz.underlying4
 a4:=Tryz.isAgg4
 z4:=Tryz.sizeOf4
 v4:=Tryz.zeroValue4
 t5:=Tryz.underlying5
 a5:=Tryz.isAgg5
 z5:=Tryz.sizeOf5
 v5:=Tryz.zeroValue5
 t9:=Tryz.underlying9
 a9:=Tryz.isAgg9
 z9:=Tryz.sizeOf9
 v9:=Tryz.zeroValue9
 t22:=Tryz.underlying59
 a22:=Tryz.isAgg59
 z22:=Tryz.sizeOf59
 v22:=Tryz.zeroValue59
 t25:=Tryz.underlying90
 a25:=Tryz.isAgg90
 z25:=Tryz.sizeOf90
 v25:=Tryz.zeroValue90
 t39:=Tryz.underlying150
 a39:=Tryz.isAgg150
 z39:=Tryz.sizeOf150
 v39:=Tryz.zeroValue150
 t45:=Tryz.underlying245
 a45:=Tryz.isAgg245
 z45:=Tryz.sizeOf245
 v45:=Tryz.zeroValue245
 t46:=Tryz.underlying246
 a46:=Tryz.isAgg246
 z46:=Tryz.sizeOf246
 v46:=Tryz.zeroValue246
 t50:=Tryz.underlying173
 a50:=Tryz.isAgg173
 z50:=Tryz.sizeOf173
 v50:=Tryz.zeroValue173
 t53:=Tryz.underlying252
 a53:=Tryz.isAgg252
 z53:=Tryz.sizeOf252
 v53:=Tryz.zeroValue252
 t55:=Tryz.underlying45
 a55:=Tryz.isAgg45
 z55:=Tryz.sizeOf45
 v55:=Tryz.zeroValue45
 t66:=Tryz.underlying270
 a66:=Tryz.isAgg270
 z66:=Tryz.sizeOf270
 v66:=Tryz.zeroValue270
 t70:=Tryz.underlying274
 a70:=Tryz.isAgg274
 z70:=Tryz.sizeOf274
 v70:=Tryz.zeroValue274
 t76:=Tryz.underlying286
 a76:=Tryz.isAgg286
 z76:=Tryz.sizeOf286
 v76:=Tryz.zeroValue286
 t77:=Tryz.underlying127
 a77:=Tryz.isAgg127
 z77:=Tryz.sizeOf127
 v77:=Tryz.zeroValue127 }
end Go.Proofs
end
namespace Go.Proofs.YtllbbcgnnoonoaaGreatDoor
section
open Go.RowKit
open Go.Lib hiding intOf
open Go.Sort (grow grow_grow alloc_eq_grow)
def Gr (w w':World):Prop:=∃ q os,w'=grow (w.drewN q) os
theorem Gr.refl (w:World):Gr w w:=⟨0,#[],by rw [Go.Sort.grow_empty]; rfl⟩
theorem Gr.trans {a b c:World} (h:Gr a b) (k:Gr b c):Gr a c:=by
 obtain⟨q,os,rfl⟩:=h;obtain⟨q2,os2,rfl⟩:=k;exact⟨q+q2,os++os2,by show grow (grow ((a.drewN q).drewN q2) os) os2=_; rw [grow_grow,World.drewN_drewN]⟩
theorem Gr.drew (w:World):Gr w w.drew:=⟨1,#[],by rw [Go.Sort.grow_empty]; rfl⟩
theorem Gr.alloc (w:World) (o:Obj):Gr w (w.alloc o):=⟨0,#[o],by rw [alloc_eq_grow]; rfl⟩
theorem Gr.cell {w w':World} (h:Gr w w') {a:Addr} {v:Value} (hc:w.cell? a=some v):w'.cell? a=some v:=by
 obtain⟨q,os,rfl⟩:=h;exact cell_grown (World.block_lt_of_cell? _ _ hc) hc q os
set_option maxHeartbeats 2000000 in
theorem Oq (b:Nat) (x y:Int) (w:World) (h0:w.cell? ⟨b,0,none⟩=some (.int .i64 x)) (h1:w.cell? ⟨b,1,none⟩=some (.int .i64 y)) :
  Calls aO 49 #[.slice (some ⟨b,0,none⟩) 2 2] w fun e w'=>e = .returned (.int .i64 (if x≠0 then x else y))/\Gr w w':=by
 go_enter Tryz.func49,Tryz.ntmps49
 go_wp2_with fail
 go_loopw [8] (fun i wr=>Gr w wr/\((i = .int .i64 0)∨(i = .int .i64 1/\Hid (x=0))∨(i = .int .i64 2/\Hid (x=0/\y=0)))) (fun i _=>2-(intOf i).toNat)
 case atStart=>exact⟨Gr.refl _,.inl rfl⟩
 case round =>
  obtain⟨hb,rfl | ⟨rfl,H⟩|⟨rfl,H⟩⟩:=hrel
  ·have d0:=hb.cell h0;by_cases hx:x=0
   ·have HX:=uE hx
    go_wp2_with fail
    exact⟨⟨hb,.inr (.inl ⟨rfl,HX⟩)⟩,by simp [intOf]⟩
   ·go_wp2_with fail
    go_ret
    exact⟨by simp [hx],hb⟩
  ·have d1:=hb.cell h1;by_cases hy:y=0
   ·have HY:Hid (x=0/\y=0):=uE ⟨H.out,hy⟩
    go_wp2_with fail
    exact⟨⟨hb,.inr (.inr ⟨rfl,HY⟩)⟩,by simp [intOf]⟩
   ·go_wp2_with fail
    go_ret
    exact⟨by simp [H.out],hb⟩
  ·go_wp2_with fail
   all_goals (go_ret; exact⟨by simp [H.out],hb⟩)
set_option maxHeartbeats 2000000 in
theorem MC (a b:Int×ByteArray) (w:World) :
  Calls aO 50 #[.agg #[.int .i64 a.1,.string a.2],.agg #[.int .i64 b.1,.string b.2]] w fun e w'=>e = .returned (.int .i64 (if compareInt a.1 b.1≠0 then compareInt a.1 b.1 else compareBytes a.2.data.toList b.2.data.toList))/\Gr w w':=by
 have hc:=fun W'=>Tryz.cmp_Compare_int a.1 b.1 W';have hs:=fun W'=>Tryz.strings_Compare a.2 b.2 W';obtain⟨r1,h1⟩:∃ r,r=compareInt a.1 b.1:=⟨_,rfl⟩;obtain⟨r2,h2⟩:∃ r,r=compareBytes a.2.data.toList b.2.data.toList:=⟨_,rfl⟩;rw [<- h1] at hc ⊢;rw [<- h2] at hs ⊢;clear h1 h2;have ho:=fun W' b h0 h1=>Oq b r1 r2 W' h0 h1;obtain⟨rr,hrr⟩:∃ rr,rr=if r1≠0 then r1 else r2:=⟨_,rfl⟩;simp only [<- hrr] at ho ⊢;clear hrr
 go_enter Tryz.func50,Tryz.ntmps50
 go_wp2_with fail
 have hg0:Gr w ((w.alloc (.cells #[.int .i64 a.1,.string a.2] 27)).alloc (.cells #[.int .i64 b.1,.string b.2] 27)):=(Gr.alloc _ _).trans (Gr.alloc _ _);have hA0:((w.alloc (.cells #[.int .i64 a.1,.string a.2] 27)).alloc (.cells #[.int .i64 b.1,.string b.2] 27)).cell? ⟨w.heap.size,0,none⟩=some (.int .i64 a.1):=by simp
 have hA1:((w.alloc (.cells #[.int .i64 a.1,.string a.2] 27)).alloc (.cells #[.int .i64 b.1,.string b.2] 27)).cell? ⟨w.heap.size,1,none⟩=some (.string a.2):=by simp
 have hB0:((w.alloc (.cells #[.int .i64 a.1,.string a.2] 27)).alloc (.cells #[.int .i64 b.1,.string b.2] 27)).cell? ⟨w.heap.size+1,0,none⟩=some (.int .i64 b.1):=by simp
 have hB1:((w.alloc (.cells #[.int .i64 a.1,.string a.2] 27)).alloc (.cells #[.int .i64 b.1,.string b.2] 27)).cell? ⟨w.heap.size+1,1,none⟩=some (.string b.2):=by simp
 generalize ((w.alloc (.cells #[.int .i64 a.1,.string a.2] 27)).alloc (.cells #[.int .i64 b.1,.string b.2] 27))=W1 at *;generalize w.heap.size=A at *
 go_region_held3 (fun w'=>w'.cell? ⟨A,0,none⟩=some (.int .i64 a.1)/\w'.cell? ⟨A,1,none⟩=some (.string a.2)/\w'.cell? ⟨A+1,0,none⟩=some (.int .i64 b.1)/\w'.cell? ⟨A+1,1,none⟩=some (.string b.2)) (first | exact⟨hA0,hA1,hB0,hB1⟩ | exact⟨q0,q1,q2,q3⟩ | go_keep) (first
  | (go_at_call 104; refine (hc _).mono ?_; rintro e w' ⟨rfl,rfl⟩)
  | (go_at_call 51; refine (hs _).mono ?_; rintro e w' ⟨rfl,rfl⟩)
  | (go_at_call 49; refine (ho _ _ ?_ ?_).mono ?_; simp; simp; rintro e w' ⟨rfl,hg⟩; have hg2:=(Gr.alloc W1 _).trans ((Gr.drew _).trans hg); have q0:=hg2.cell hA0; have q1:=hg2.cell hA1; have q2:=hg2.cell hB0; have q3:=hg2.cell hB1))
 all_goals (go_wp2_with fail; go_ret; exact⟨rfl,hg0.trans hg2⟩)
end
section
open Go.RowKit
variable {σ ρ:Type} {B:σ->Option (Fl σ ρ)}
theorem s8 (I:Nat->σ->Prop) (post:ρ->Prop) (N:Nat)
  (hs:∀ k s,k<N->I k s->(∃ s',B s=some (.go s')/\I (k+1) s')∨∃ r,B s=some (.out r)/\post r) (he:∀ s,I N s->∃ r,B s=some (.out r)/\post r) {s:σ} (h0:I 0 s):∃ r,loop B s=some r/\post r:=by
 have key:∀ (m k:Nat) (s:σ),k+m=N->I k s->∃ r,loop B s=some r/\post r:=by
  intro m
  induction m with
  | zero =>
   intro k s O hI;obtain rfl:k=N:=by omega
   obtain⟨r,h1,h2⟩:=he s hI;exact⟨r,cR h1,h2⟩
  | succ m ih =>
   intro k s O hI;rcases hs k s (by omega) hI with⟨s',h1,h2⟩|⟨r,h1,h2⟩
   ·obtain⟨r,h3,h4⟩:=ih (k+1) s' (by omega) h2;exact⟨r,(eV h1).trans h3,h4⟩
   ·exact⟨r,cR h1,h2⟩
 exact key N 0 s (by omega) h0
theorem xT (I:Nat->σ->Prop) (y:ρ) (N:Nat)
  (hs:∀ k s,k<N->I k s->(∃ s',B s=some (.go s')/\I (k+1) s')∨B s=some (.out y)) (he:∀ s,I N s->B s=some (.out y)) {s:σ} (h0:I 0 s):loop B s=some y:=by
 obtain⟨r,h1,rfl⟩:=s8 I (fun r=>r=y) N (fun k s O hI=>(hs k s O hI).imp id fun h=>⟨y,h,rfl⟩) (fun s hI=>⟨y,he s hI,rfl⟩) h0;exact h1
theorem ki {z:Int} (h1 : -9223372036854775808<=z) (h2:z<=9223372036854775807):IntKind.i64.wrap z=z:=by rw [IntKind.wrap_i64]; omega
theorem bB {α:Type} {xs:List α} {k:Nat} (h:k<xs.length):bp xs (k:Int)=some xs[k]:=by
 unfold bp;simp [h]
theorem Kj {α:Type} {xs:List α} {l h:Nat} (h1:l<=h) (h2:h<=xs.length):sH xs (l:Int) (h:Int)=some ((xs.take h).drop l):=by
 unfold sH;rw [if_pos ⟨by omega,by omega,by omega⟩];simp
theorem eZ {n:Nat} (h:n<=4294967296):cm n=true:=wd h
def Ok {α:Type} (m:Option α) (P:α->Prop):Prop:=∃ y,m=some y/\P y
section
variable {α β:Type} {m:Option α} {P Q:α->Prop} {R:β->Prop} {f:α->Option β} {b:Bool} {x y:Option α}
theorem aq {v:α} (h:P v):Ok (some v) P:=⟨v,rfl,h⟩
theorem aP (h:Ok m Q) (k:∀ v,Q v->Ok (f v) R):Ok (m.bind f) R:=by
 obtain⟨v,rfl,hv⟩:=h;exact k v hv
theorem aX {v:α} (h:m=some v) (k:Ok (f v) R):Ok (m.bind f) R:=by rw [h]; exact k
theorem aS (ht:b=true->Ok x P) (hf:b=false->Ok y P):Ok (cond b x y) P:=by
 cases b
 ·exact hf rfl
 ·exact ht rfl
theorem cY (hb:b=true) (h:Ok x P):Ok (gd b x) P:=by subst hb; exact h
theorem Ok.mono (h:Ok m Q) (k:∀ v,Q v->P v):Ok m P:=by obtain⟨v,e,hv⟩:=h; exact⟨v,e,k v hv⟩
theorem y9 {xs:List α} {i:Int} (h0:0<=i) (h1:i<xs.length) (k:∀ v,xs[i.toNat]? = some v->v∈xs->Ok (f v) R):Ok ((bp xs i).bind f) R:=by
 have O:i.toNat<xs.length:=by omega
 have e:bp xs i=some xs[i.toNat]:=by
  have:=bB O;rwa [Int.toNat_of_nonneg h0] at this
 rw [e];exact k _ (bh O) (dG O)
theorem bL {s:σ} {g:ρ->Option β} (I:Nat->σ->Prop) (post:ρ->Prop) (N:Nat) (h0:I 0 s)
  (hs:∀ k s,k<=N->I k s->Ok (B s) fun r=>match r with
   | .go s'=>k<N/\I (k+1) s'
   | .out r=>post r)
  (k:∀ r,post r->Ok (g r) R):Ok ((Go.Proofs.YtllbbcgnnoonoaaGreatDoor.loop B s).bind g) R:=by
 obtain⟨r,h1,h2⟩:=s8 (B:=B) I post N (fun k s O hI=>by
   obtain⟨y,e,hy⟩:=hs k s (by omega) hI;cases y with
   | go s'=>exact .inl ⟨s',e,hy.2⟩
   | out r=>exact .inr ⟨r,e,hy⟩) (fun s hI=>by
   obtain⟨y,e,hy⟩:=hs N s (bx _) hI;cases y with
   | go s'=>exact absurd hy.1 (by omega)
   | out r=>exact⟨r,e,hy⟩) h0
 rw [h1];exact k r h2
end
end
section
open Go.RowKit
open Go.Lib hiding intOf
section
variable {σ ρ α:Type} {B:σ->Option (Fl σ ρ)}
theorem o7 (st:Nat->σ) (m:Nat) {s0:σ} (h0:s0=st 0) {r:ρ} (hgo:∀ k,k<m->B (st k)=some (.go (st (k+1)))) (hout:B (st m)=some (.out r)):loop B s0=some r:=by
 subst h0;exact xT (fun k s=>s=st k) r m (fun k s O hs=>.inl ⟨st (k+1),by rw [hs]; exact hgo k O,rfl⟩) (fun s hs=>by rw [hs]; exact hout) rfl
theorem vN {xs:List α} (p:α->Bool) (st:Nat->σ) {s0:σ} (h0:s0=st 0) {y:Nat->α->ρ} {n:ρ} (hgo:∀ k x,xs[k]? = some x->p x=false->B (st k)=some (.go (st (k+1))))
  (hy:∀ k x,xs[k]? = some x->p x=true->B (st k)=some (.out (y k x))) (hn:B (st xs.length)=some (.out n)) :
  (∃ k x,xs[k]? = some x/\p x=true/\(∀ j z,j<k->xs[j]? = some z->p z=false)/\loop B s0=some (y k x))∨(∀ z∈xs,p z=false)/\loop B s0=some n:=by
 by_cases h:xs.findIdx p<xs.length
 ·have e:=bh h;have hp:=List.findIdx_getElem (w:=h);have hb:∀ j z,j<xs.findIdx p->xs[j]? = some z->p z=false:=fun j z hj hz=>by
   have:=JA hj;obtain⟨h1,h2⟩:=bR.1 hz;rw [h2] at this; simpa using this
  refine .inl ⟨_,_,e,hp,hb,o7 st _ h0 (fun k O=>?_) (hy _ _ e hp)⟩;have hk2:k<xs.length:=by omega
  exact hgo k _ (bh hk2) (hb k _ O (bh hk2))
 ·have hb:∀ j z,xs[j]? = some z->p z=false:=fun j z hz=>by
   obtain⟨h1,h2⟩:=bR.1 hz;have:=JA (p:=p) (xs:=xs) (i:=j) (by omega);rw [h2] at this; simpa using this
  refine .inr ⟨fun z hz=>?_,o7 st xs.length h0 (fun k O=>hgo k _ (bh O) (hb k _ (bh O))) hn⟩;obtain⟨i,hi⟩:=dt.1 hz;exact hb i z hi
theorem xf {xs:List α} (p:α->Bool) (st:Nat->σ) {s0:σ} (h0:s0=st 0) {y n:ρ} (hgo:∀ k x,xs[k]? = some x->p x=false->B (st k)=some (.go (st (k+1))))
  (hy:∀ k x,xs[k]? = some x->p x=true->B (st k)=some (.out y)) (hn:B (st xs.length)=some (.out n)):loop B s0=some (if xs.any p then y else n):=by
 rcases vN p st h0 (y:=fun _ _=>y) hgo hy hn with⟨k,x,h1,h2,_,h3⟩|⟨h1,h2⟩
 ·rw [if_pos (BA.2 ⟨x,az h1,h2⟩)]; exact h3
 ·rw [if_neg (fun h=>by obtain⟨x,hx,e⟩:=BA.1 h; rw [h1 x hx] at e; cases e)]; exact h2
theorem eh {xs:List α} (st:Nat->σ) {s0:σ} (h0:s0=st 0) {r:ρ} (hgo:∀ k x,xs[k]? = some x->B (st k)=some (.go (st (k+1)))) (hout:B (st xs.length)=some (.out r)):loop B s0=some r :=
 o7 st xs.length h0 (fun k O=>hgo k _ (bh O)) hout
theorem jJ {β γ:Type} {m:Option β} {v:β} {f:β->Option γ} {y:Option γ} (h:m=some v) (k:f v=y):m.bind f=y:=by subst h; exact k
end
theorem aV {α:Type} (xs:List α) (k:Nat):bp xs (k:Int)=xs[k]?:=by simp [bp]
theorem dlt {k n:Nat} (h:k<n):decide ((k:Int)<(n:Int))=true:=decide_eq_true (by omega)
theorem Hj {k n:Nat} (h:¬ k<n):decide ((k:Int)<(n:Int))=false:=decide_eq_false (by omega)
theorem iU {α:Type} {xs:List α} {k:Nat} {x:α} (h:xs[k]? = some x):decide ((k:Int)<(xs.length:Int))=true:=dlt (bR.1 h).1
theorem bZ (n:Nat):decide ((n:Int)<(n:Int))=false:=Hj (Nat.lt_irrefl _)
theorem cy {k:Nat} (h:k<=9223372036854775806):IntKind.i64.wrap ((k:Int)+1)=((k+1:Nat):Int):=by rw [ki (by omega) (by omega)]; omega
theorem aU {α:Type} {xs:List α} {k:Nat} {x:α} (h:xs[k]? = some x):k<xs.length:=(bR.1 h).1
theorem bI {α:Type} {xs:List α} {k:Nat} {x:α} (h:xs[k]? = some x):xs.take (k+1)=xs.take k++[x]:=by
 rw [List.take_add_one,h]; rfl
theorem BL {α:Type} (p:α->Bool) (xs:List α) (k:Nat):((xs.take k).filter p).length<=xs.length :=
 du (Fi _ _) (by rw [gQ]; omega)
theorem Nr {α:Type} {xs:List α} {k:Nat} {x:α} (h:xs[k]? = some x):xs.set k x=xs:=by
 obtain⟨h1,h2⟩:=bR.1 h;rw [<- h2]; exact List.set_getElem_self h1
def Rm (n:Nat):Prop:=n<=1000000000
theorem vX {α:Type} {xs:List α} {a:Nat} (h:a<=xs.length):sH xs (a:Int) (xs.length:Int)=some (xs.drop a):=by
 rw [Kj h (bx _),f9]
theorem vm {α:Type} {xs:List α} {a:Nat} (h:a<=xs.length):sH xs 0 (a:Int)=some (xs.take a):=by
 have:=Kj (xs:=xs) (cT a) h;rwa [Fg] at this
theorem wb {z:Int} (h1 : -1000000000000<=z) (h2:z<=1000000000000):IntKind.i64.wrap z=z:=ki (by omega) (by omega)
end
section
open Go.RowKit
open Go.Lib hiding intOf
variable {n:Nat}
theorem oJ (n:Nat):itoa (n:Int)=decDigits n:=by
 unfold itoa
 first | rw [if_neg (by omega)]; simp | simp
noncomputable def bO (n:Nat):ae:=⟨30,cV n⟩
theorem rf (h:n<1000000000):yj n=some (cV n):=by
 unfold yj QM;rw [show (decide (-9223372036854775808<=(n:Int))&&decide ((n:Int)<=9223372036854775807))=true by simp; omega];rfl
theorem vU (h:n<100):lD n=some (bO n):=by
 unfold lD;rw [show decide ((n:Int)<0)=false by simp,show decide ((99:Int)<(n:Int))=false by simp; omega];simp [cond,rf (show n<1000000000 by omega),bO]
theorem IN (h:n<1000):ze (cV n)=some ((n:Int),false):=by
 unfold ze;have hl:(cV n).toList=decDigits n:=by rw [tG,oJ]
 have hs:(cV n).size<=140737488355328:=by
  have h1:(cV n).size=(itoa n).length:=by simp [cV,ByteArray.size]
  have:=zE n 3 (by omega);rw [h1,oJ]; omega
 rw [show Nat.ble (cV n).size 140737488355328=true from wd hs,hl,Ch (by omega)];rfl
theorem MF (h:n<100):c6 (bO n)=some true:=by
 have h1:o6 30=some true:=by unfold o6; rfl
 have h2:iY (bO n)=some n:=by
  unfold iY bO;rw [h1];simp only [al,IN (show n<1000 by omega),rf (show n<1000000000 by omega)];rw [show decide ((n:Int)<0)=false by simp,show decide ((99:Int)<(n:Int))=false by simp; omega];simp
 unfold c6;rw [show (bO n).k=30 from rfl,h1,h2];simp
theorem QS (n:Int) {m:Nat} (hm:0<m) (hm2:m<=1000000000):∃ r:Nat,r<m/\xi n m=some (r:Int):=by
 have h1:=Fd n (b:=(m:Int)) (by omega);have h2 : -(m:Int)<Int.tmod n m:=by
  rcases (show n<0∨0<=n by omega) with h | h
  ·have:=Fd (-n) (b:=(m:Int)) (by omega);rw [Int.neg_tmod] at this;omega
  ·have:=Fe (m:Int) h;omega
 refine⟨(Int.tmod (Int.tmod n m+m) m).toNat,?_,?_⟩
 ·have h3:=Fd (Int.tmod n m+m) (b:=(m:Int)) (by omega);have h4:=Fe (a:=Int.tmod n m+m) (m:Int) (by omega);omega
 ·unfold xi;have h4:=Fe (a:=Int.tmod n m+m) (m:Int) (by omega);rw [show decide ((m:Int)<1)=false by simp; omega,show ((m:Int) != 0)=true by simp; omega,ki (by omega) (by omega),Int.toNat_of_nonneg h4];rfl
theorem KE (h:n<1000000000):ze (cV n)=some ((n:Int),false):=by
 unfold ze;have hl:(cV n).toList=decDigits n:=by rw [tG,oJ]
 have hs:(cV n).size<=140737488355328:=by
  have h1:(cV n).size=(itoa n).length:=by simp [cV,ByteArray.size]
  have:=zE n 9 (by omega);rw [h1,oJ]; omega
 rw [show Nat.ble (cV n).size 140737488355328=true from wd hs,hl,Ch (by omega)];rfl
theorem EN {k:Int} (O:k=30∨k=31∨k=32) (h:n<100):iY ⟨k,cV n⟩=some n:=by
 have h1:o6 k=some true:=by rcases O with rfl | rfl | rfl <;> (unfold o6; rfl)
 unfold iY;rw [h1];simp only [al,KE (show n<1000000000 by omega),rf (show n<1000000000 by omega)];rw [show decide ((n:Int)<0)=false by simp,show decide ((99:Int)<(n:Int))=false by simp; omega];simp
theorem NI {k:Int} (O:k=30∨k=31∨k=32) (h:n<100):c6 ⟨k,cV n⟩=some true:=by
 have h1:o6 k=some true:=by rcases O with rfl | rfl | rfl <;> (unfold o6; rfl)
 unfold c6;rw [h1,EN O h];simp
noncomputable def H5 (r:aL) (n:Nat):ae:=⟨if r.q then 32 else 31,cV n⟩
theorem Lf {l:List aL} (h:n<l.length) (h100:n<100):kY l n=some (H5 l[n] n):=by
 unfold kY;rw [show decide ((n:Int)<0)=false by simp,show decide (((l.length:Int):Int)<=(n:Int))=false by simp; omega,show decide ((99:Int)<(n:Int))=false by simp; omega,bB h,rf (by omega)];simp only [al,cond_false];unfold sa H5;cases l[n].q <;> simp
theorem Lm (s:ByteArray):s.toList.length=s.size:=by rw [ByteArray.toList_eq]; rfl
theorem KX (c:UInt8) (r:List UInt8) (n:Nat):cU (c::r) n=if (decide (48<=c.toNat)&&decide (c.toNat<=57))=true then cU r (10*n+(c.toNat-48)) else -1:=rfl
theorem MR:cu.toList=[]:=by rw [ByteArray.toList_eq]
theorem Mj (s:ByteArray):ml s=some (tz s.toList):=by
 have hsz:=Lm s;have j3t:dw s true=some (-1):=by unfold dw; rfl
 have j3f:s.size<=9->dw s false=some (cU s.toList 0):=fun h9=>by
  unfold dw;simp only [cond_false];have key:∃ r,loop (fun s_1:Int×Int=>iM s s_1.1 s_1.2) (0,0)=some r/\Fl.el r (fun s=>iL s) (fun y=>some y)=some (cU s.toList 0):=?_
  ·obtain⟨r,h1,h2⟩:=key;rw [h1]; exact h2
  refine s8 (fun k st=>∃ m:Nat,st=((m:Int),(k:Int))/\cU (s.toList.drop k) m=cU s.toList 0/\m<10 ^ k)
   (fun r=>Fl.el r (fun s=>iL s) (fun y=>some y)=some (cU s.toList 0)) s.size (fun k st O hI=>?_) (fun st hI=>?_) ⟨0,rfl,rfl,by simp⟩
  ·obtain⟨m,rfl,e,hm⟩:=hI;have hk':k<s.toList.length:=by omega
   rw [NT hk'] at e;unfold iM;rw [show decide ((k:Int)<(s.size:Int))=true by simpa using O,bB hk'];simp only [cond_true,al];have hp:(10:Nat) ^ k<=10 ^ 8:=DC (by omega) (by omega);have hq:(10:Nat) ^ 8=100000000:=rfl;have hu:=(s.toList[k]).toNat_lt;rw [KX] at e;by_cases h48:((s.toList[k]).toNat:Int)<48
   ·rw [show decide (((s.toList[k]).toNat:Int)<48)=true by simpa using h48];rw [if_neg (by simp; omega)] at e;exact .inr ⟨_,rfl,by rw [<- e]; rfl⟩
   ·rw [show decide (((s.toList[k]).toNat:Int)<48)=false by simpa using h48];by_cases h57:(57:Int)<((s.toList[k]).toNat:Int)
    ·rw [show decide ((57:Int)<((s.toList[k]).toNat:Int))=true by simpa using h57];rw [if_neg (by simp; omega)] at e;exact .inr ⟨_,rfl,by rw [<- e]; rfl⟩
    ·rw [show decide ((57:Int)<((s.toList[k]).toNat:Int))=false by simpa using h57];rw [if_pos (by simp; omega)] at e;simp only [cond_false];have hw:IntKind.u8.wrap (((s.toList[k]).toNat:Int)-48)=(((s.toList[k]).toNat-48:Nat):Int):=by rw [IntKind.wrap_u8]; omega
     rw [hw,show IntKind.i64.wrap (10*(m:Int))=((10*m:Nat):Int) from (ki (by omega) (by omega)).trans (by omega),show IntKind.i64.wrap (((s.toList[k]).toNat-48:Nat):Int)=(((s.toList[k]).toNat-48:Nat):Int) from ki (by omega) (by omega),
      ki (by omega) (by omega),ki (by omega) (by omega)]
     exact .inl ⟨_,rfl,10*m+((s.toList[k]).toNat-48),by simp,e,by rw [A5]; omega⟩
  ·obtain⟨m,rfl,e,hm⟩:=hI;rw [<- hsz,Ff] at e;unfold iM;rw [show decide ((s.size:Int)<(s.size:Int))=false by simp];exact⟨_,rfl,by simp only [Fl.el,iL]; rw [<- e]; rfl⟩
 unfold ml tz;have hz:(s.toList==cu.toList)=decide (s.toList=[]):=by rw [MR]; cases s.toList <;> rfl
 rw [hz];by_cases h0:s.toList=[]
 ·rw [if_pos (.inl h0),decide_eq_true h0]; exact j3t
 ·rw [decide_eq_false h0];simp only [cond_false];by_cases h9:9<s.toList.length
  ·rw [if_pos (.inr (.inl h9)),show decide ((9:Int)<(s.size:Int))=true by simp; omega]; exact j3t
  ·rw [show decide ((9:Int)<(s.size:Int))=false by simp; omega];have hl:0<s.toList.length:=List.length_pos_iff.2 h0;have h1:bp s.toList (0:Int)=some (s.toList.getD 0 0):=by
    have:=bB hl;simp only [Int.natCast_zero] at this;rw [this,NU,bh hl]; rfl
   rw [h1];simp only [cond_false,al];by_cases h48:s.toList.getD 0 0=48
   ·rw [h48,show (((48:UInt8).toNat:Int)==48)=true from rfl];simp only [cond_true,true_and];have hq:(!(s.toList==(ByteArray.mk #[48]).toList))=decide (s.toList≠[48]):=by rw [show (ByteArray.mk #[48]).toList=[48] from by rw [ByteArray.toList_eq]]; by_cases h:s.toList=[48] <;> simp [h]
    rw [hq];by_cases h:s.toList=[48]
    ·rw [decide_eq_false (fun h2=>h2 h),j3f (by omega),if_neg (by rintro (h2 | h2 | h2); exact h0 h2; exact h9 h2; exact h2 h)]
    ·rw [decide_eq_true h,if_pos (.inr (.inr h))]; exact j3t
   ·have h48':((s.toList.getD 0 0).toNat:Int)≠48:=fun h=>h48 (UInt8.toNat_inj.1 (by have:(48:UInt8).toNat=48:=rfl; omega));rw [show (((s.toList.getD 0 0).toNat:Int)==48)=false by simpa using h48'];simp only [cond_false];rw [j3f (by omega),if_neg (by rintro (h2 | h2 | h2); exact h0 h2; exact h9 h2; exact h48 h2.1)]
theorem LZ {M:Nat} (B:M<1000000000) {s:ByteArray} (hs:s.size<=140737488355328) :
  ∃ p,ze s=some p/\(-9223372036854775808<=p.1->p.1<=9223372036854775807->True)/\CU M s.toList=(if p.2=true then -1 else if p.1<0∨(M:Int)<p.1 then -1 else if itoa p.1=s.toList then p.1 else -1):=by
 refine⟨_,by unfold ze; rw [show Nat.ble s.size 140737488355328=true from wd hs]; rfl,fun _ _=>trivial,?_⟩;rw [K9 M B];cases atoiAll s.toList <;> simp
theorem K1 {v:Int} (h0:0<=v) (h:v<1000000000):yj v=some (cV v):=by
 obtain⟨n,rfl⟩:∃ n:Nat,v=n:=⟨v.toNat,by omega⟩;exact rf (by omega)
def AC (k:ae):Int:=if 30<=k.k/\k.k<=32 then CU 99 k.x.toList else -1
theorem yU (k:Int):o6 k=some (decide (30<=k/\k<=32)):=by
 unfold o6 tJ;by_cases h1:30<=k <;> by_cases h2:k<=32 <;> simp [h1,h2]
theorem CO {k:ae} (hs:k.x.size<=140737488355328):iY k=some (AC k):=by
 unfold iY AC;rw [yU];by_cases h:30<=k.k/\k.k<=32
 ·rw [if_pos h,decide_eq_true h];obtain⟨p,h1,_,h2⟩:=LZ (M:=99) (by omega) hs;rw [h1,h2];simp only [al,eE,cond_false];obtain⟨v,b⟩:=p;cases b with
  | true=>rfl
  | false =>
   simp only [cond_false,DG,if_false];by_cases h3:v<0
   ·simp [h3]
   ·by_cases h4:(99:Int)<v
    ·simp [h3,h4]
    ·rw [K1 (by omega) (by omega),if_neg (by omega),decide_eq_false h3,decide_eq_false h4];simp only [cond_false,al,tG];by_cases h5:itoa v=k.x.toList
     ·simp [h5]
     ·rw [if_neg h5,show (itoa v==k.x.toList)=false by simpa using h5]; rfl
 ·rw [if_neg h,decide_eq_false h]; rfl
theorem rE (k:ae):jN k=some (AC k):=by
 unfold jN AC CU;rw [Mj];simp only [al];unfold jD;have:=JT k.x.toList;by_cases h1:30<=k.k <;> by_cases h2:k.k<=32 <;> by_cases h3:tz k.x.toList<=99 <;> simp [h1,h2,h3]
end
section
open Go.RowKit
open Go.Lib hiding intOf
variable {a b:ae}
theorem JJ:∀ a:List UInt8,compareBytes a a=0
 | []=>rfl
 | x::r=>by
  have:¬ x<x:=UInt8.lt_irrefl x;simp [compareBytes,this,JJ r]
theorem GV:∀ {a b:List UInt8},compareBytes a b=0->a=b
 | [],[],_=>rfl
 | [],_::_,h=>by simp [compareBytes] at h
 | _::_,[],h=>by simp [compareBytes] at h
 | x::a,y::b,h=>by
  unfold compareBytes at h;split at h
  ·cases h
  ·split at h
   ·cases h
   ·rename_i h1 h2;have e:x=y:=UInt8.le_antisymm (A6.1 h2) (A6.1 h1);rw [e,GV h]
theorem Fv:∀ a b:List UInt8,compareBytes b a = -compareBytes a b
 | [],[]=>rfl
 | [],_::_=>rfl
 | _::_,[]=>rfl
 | x::a,y::b=>by
  unfold compareBytes;by_cases h1:x<y
  ·have h2:¬ y<x:=fun h=>UInt8.lt_irrefl _ (UInt8.lt_trans h1 h);simp [h1,h2]
  ·by_cases h2:y<x
   ·simp [h1,h2]
   ·simp [h1,h2,Fv a b]
theorem L8 (a b:List UInt8):compareBytes a b = -1∨compareBytes a b=0∨compareBytes a b=1:=by
 induction a generalizing b with
 | nil=>cases b <;> simp [compareBytes]
 | cons x a ih =>
  cases b with
  | nil=>simp [compareBytes]
  | cons y b =>
   unfold compareBytes;split
   ·simp
   ·split
    ·simp
    ·exact ih b
theorem Ck:∀ {a b c:List UInt8},compareBytes a b<0->compareBytes b c<0->compareBytes a c<0
 | [],[],_,h,_=>by simp [compareBytes] at h
 | [],_::_,[],_,h=>by simp [compareBytes] at h
 | [],_::_,_::_,_,_=>by simp [compareBytes]
 | _::_,[],_,h,_=>by simp [compareBytes] at h
 | _::_,_::_,[],_,h=>by simp [compareBytes] at h
 | x::a,y::b,z::c,h1,h2=>by
  unfold compareBytes at h1 h2 ⊢;by_cases e1:x<y
  ·by_cases e2:y<z
   ·simp [UInt8.lt_trans e1 e2]
   ·by_cases e3:z<y
    ·simp [e2,e3] at h2
    ·have e:y=z:=UInt8.le_antisymm (A6.1 e3) (A6.1 e2);subst e; simp [e1]
  ·by_cases e2:y<x
   ·simp [e1,e2] at h1
   ·have e:x=y:=UInt8.le_antisymm (A6.1 e2) (A6.1 e1);subst e;simp only [e1,if_false] at h1;by_cases e3:x<z
    ·simp [e3]
    ·by_cases e4:z<x
     ·simp [e3,e4] at h2
     ·simp only [e3,e4,if_false] at h2 ⊢;exact Ck h1 h2
def bV (a b:ae):Int:=if a.k<b.k then -1 else if b.k<a.k then 1 else compareBytes a.x.toList b.x.toList
theorem toList_inj {a b:ByteArray} (h:a.toList=b.toList):a=b:=by
 rw [ByteArray.toList_eq,ByteArray.toList_eq] at h;exact Fc (Dx.1 h)
theorem u5 (a:ae):bV a a=0:=by simp [bV,JJ]
theorem B4 (h:bV a b=0):a=b:=by
 unfold bV at h;split at h
 ·cases h
 ·split at h
  ·cases h
  ·obtain⟨k,t⟩:=a;obtain⟨l,s⟩:=b;simp only [ae.mk.injEq] at *;exact⟨by omega,toList_inj (GV h)⟩
theorem K5:bV a b=0↔a=b:=⟨B4,fun h=>by rw [h,u5]⟩
theorem xP (a b:ae):bV b a = -bV a b:=by
 unfold bV;by_cases h1:a.k<b.k
 ·have h2:¬ b.k<a.k:=by omega
  simp [h1,h2]
 ·by_cases h2:b.k<a.k
  ·simp [h1,h2]
  ·simp [h1,h2,Fv a.x.toList]
theorem tH (a b:ae):bV a b = -1∨bV a b=0∨bV a b=1:=by
 unfold bV;split
 ·simp
 ·split
  ·simp
  ·exact L8 _ _
theorem lC {c:ae} (h1:bV a b<0) (h2:bV b c<0):bV a c<0:=by
 unfold bV at h1 h2 ⊢;by_cases e1:a.k<b.k
 ·by_cases e2:b.k<c.k
  ·rw [if_pos (by omega)]; omega
  ·by_cases e3:c.k<b.k
   ·simp [e2,e3] at h2
   ·rw [if_pos (by omega)]; omega
 ·by_cases e2:b.k<a.k
  ·simp [e1,e2] at h1
  ·simp only [e1,e2,if_false] at h1;by_cases e3:b.k<c.k
   ·rw [if_pos (by omega)]; omega
   ·by_cases e4:c.k<b.k
    ·simp [e3,e4] at h2
    ·simp only [e3,e4,if_false] at h2;rw [if_neg (by omega),if_neg (by omega)];exact Ck h1 h2
theorem qo:0<bV a b↔bV b a<0:=by rw [xP a b]; omega
theorem w9:¬ bV a a<0:=by rw [u5]; omega
theorem As (h:bV a b<0):¬ bV b a<0:=by rw [xP a b]; omega
theorem uh (h:bV a b<0):a≠b:=fun e=>by subst e; exact w9 h
theorem u6 (a b:ae):bV a b<0∨a=b∨bV b a<0:=by
 rcases tH a b with h | h | h
 ·exact .inl (by omega)
 ·exact .inr (.inl (B4 h))
 ·exact .inr (.inr (by rw [xP a b]; omega))
theorem oK {c:ae} (h1:¬ bV b a<0) (h2:bV b c<0):bV a c<0:=by
 rcases u6 a b with h | h | h
 ·exact lC h h2
 ·subst h; exact h2
 ·exact absurd h h1
def fa (a b:ae):Bool:=a.k==b.k&&a.x.toList==b.x.toList
theorem fc:fa a b=true↔a=b:=by
 unfold fa;obtain⟨k,t⟩:=a;obtain⟨l,s⟩:=b;simp only [lq,beq_iff_eq,ae.mk.injEq];exact⟨fun h=>⟨h.1,toList_inj h.2⟩,fun h=>⟨h.1,by rw [h.2]⟩⟩
theorem xQ:fa a b=false↔a≠b:=by rw [<- Bool.not_eq_true,fc]
theorem Or (x y:Int):rZ x y=some (if x<y then -1 else if y<x then 1 else 0):=by
 unfold rZ oC;by_cases h1:x<y
 ·simp [h1]
 ·by_cases h2:y<x <;> simp [h1,h2]
theorem Q0 (a b:Int):wT [a,b]=some (if a≠0 then a else b):=by
 unfold wT;by_cases h:a=0
 ·subst h;rw [eV (s':=1)]
  ·by_cases hb:b=0
   ·subst hb;rw [eV (s':=2)]
    ·rw [cR (r:=.go ())]
     ·rfl
     ·rfl
    ·rfl
   ·rw [cR (r:=.out b)]
    ·simp [Fl.el]
    ·unfold kI;have:(b != 0)=true:=by simpa using hb
     simp [bp,this]
  ·rfl
 ·rw [cR (r:=.out a)]
  ·simp [Fl.el,h]
  ·unfold kI;have:(a != 0)=true:=by simpa using h
   simp [bp,this]
theorem Fx (a b:ae):ui a b=some (bV a b):=by
 unfold ui bV pE;rw [Or];simp only [al];rw [Q0];by_cases h1:a.k<b.k
 ·simp [h1]
 ·by_cases h2:b.k<a.k <;> simp [h1,h2]
section
variable {κ ν:Type} {q:κ->κ->Bool} (hq:∀ a b,q a b=true↔a=b)
def Nd (xs:List (κ×ν)):Prop:=(xs.map (·.1)).Nodup
include hq
theorem tN (a:κ):q a a=true:=(hq a a).2 rfl
theorem AE {a b:κ} (h:a≠b):q a b=false:=by rw [<- Bool.not_eq_true,hq]; exact h
theorem CS {k:κ} {v:ν}:∀ {xs:List (κ×ν)},Nd xs->(cJ q k xs=some v↔(k,v)∈xs)
 | [],_=>by simp [cJ]
 | x::r,h=>by
  have h':=yW.1 (show (x.1::r.map (·.1)).Nodup from h);have ih:=CS (k:=k) (v:=v) (xs:=r) h'.2;by_cases e:k=x.1
  ·subst e;rw [cJ,tN hq,cond_true];constructor
   ·intro h; injection h with h; rw [<- h]; exact dF
   ·intro hm;rcases bC.1 hm with hm | hm
    ·rw [<- hm]
    ·exact absurd (wc (f:=(·.1)) hm) h'.1
  ·rw [cJ,AE hq e,cond_false,ih,bC];constructor
   ·exact .inr
   ·rintro (h | h)
    ·exact absurd (congrArg (·.1) h) e
    ·exact h
theorem EL {k:κ}:∀ {xs:List (κ×ν)},cJ q k xs=none↔∀ v,(k,v) ∉ xs
 | []=>by simp [cJ]
 | x::r=>by
  by_cases e:k=x.1
  ·rw [cJ,e,tN hq,cond_true];constructor
   ·intro h; cases h
   ·intro h; exact absurd dF (h x.2)
  ·rw [cJ,AE hq e,cond_false,EL];constructor
   ·intro h v hv;rcases bC.1 hv with hv | hv
    ·exact e (congrArg (·.1) hv)
    ·exact h v hv
   ·intro h v hv; exact h v (lp _ hv)
theorem lZ (k k':κ) (v:ν):∀ (xs:List (κ×ν)),cJ q k (ew q k' v xs)=if q k k' then some v else cJ q k xs
 | []=>by simp [ew,cJ,Bool.cond_eq_ite]
 | x::r=>by
  by_cases e:k'=x.1
  ·rw [ew,e,tN hq,cond_true,cJ,cJ];cases q k x.1 <;> simp
  ·rw [ew,AE hq e,cond_false,cJ,cJ,lZ k k' v r];by_cases e2:k=x.1
   ·have:q k k'=false:=AE hq (fun h=>e (h.symm.trans e2));rw [e2,tN hq,cond_true,cond_true,<- e2,this]; rfl
   ·rw [AE hq e2]; rfl
theorem EM (k:κ) (v:ν):∀ {xs:List (κ×ν)},Nd xs->(ew q k v xs).Perm ((k,v)::xs.filter fun y=>!q k y.1)
 | [],_=>by simp [ew]
 | x::r,h=>by
  have h':=yW.1 (show (x.1::r.map (·.1)).Nodup from h);by_cases e:k=x.1
  ·rw [ew,e,tN hq,cond_true,t7 (by simp [tN hq])];rw [xG.2];intro y hy;rw [AE hq]; rfl;intro e2;exact h'.1 (e2▸wc hy)
  ·rw [ew,AE hq e,cond_false,xF (by simp [AE hq e])];exact ((EM k v h'.2).cons x).trans (List.Perm.swap _ _ _)
theorem xg (k:κ):∀ {xs:List (κ×ν)},Nd xs->tK q k xs=xs.filter fun y=>!q k y.1
 | [],_=>rfl
 | x::r,h=>by
  have h':=yW.1 (show (x.1::r.map (·.1)).Nodup from h);by_cases e:k=x.1
  ·rw [tK,e,tN hq,cond_true,t7 (by simp [tN hq])];rw [xG.2];intro y hy;rw [AE hq]; rfl;intro e2;exact h'.1 (e2▸wc hy)
  ·rw [tK,AE hq e,cond_false,xF (by simp [AE hq e]),xg k h'.2]
omit hq in
theorem Nd.perm {xs ys:List (κ×ν)} (h:Nd xs) (p:xs.Perm ys):Nd ys:=(p.map _).nodup_iff.1 h
omit hq in
theorem Nd.filter {xs:List (κ×ν)} (h:Nd xs) (p:κ×ν->Bool):Nd (xs.filter p):=h.sublist (List.Sublist.map _ List.filter_sublist)
theorem Nd.put {xs:List (κ×ν)} (h:Nd xs) (k:κ) (v:ν):Nd (ew q k v xs):=by
 refine Nd.perm ?_ (EM hq k v h).symm;show (k::(xs.filter fun y=>!q k y.1).map (·.1)).Nodup;refine yW.2 ⟨fun hm=>?_,h.filter _⟩;obtain⟨y,hy,e⟩:=cL.1 hm;have:=(gC.1 hy).2;rw [e,tN hq] at this;cases this
theorem Nd.del {xs:List (κ×ν)} (h:Nd xs) (k:κ):Nd (tK q k xs):=by rw [xg hq k h]; exact h.filter _
theorem MP (k k':κ) {xs:List (κ×ν)} (h:Nd xs):cJ q k (tK q k' xs)=if q k k' then none else cJ q k xs:=by
 rw [xg hq k' h];by_cases e:k=k'
 ·subst e;rw [tN hq,if_pos rfl,EL hq];intro v hv;have:=(gC.1 hv).2;simp [tN hq] at this
 ·rw [AE hq e,if_neg (by simp)];refine Option.ext fun v=>?_;rw [CS hq (h.filter _),CS hq h,gC];simp [AE hq (fun h=>e h.symm)]
end
end
section
open Go.RowKit
open Go.Lib hiding intOf
open Go.Sort (grow grow_grow alloc_eq_grow SWO HoldsK Holds flatK putRowK heap_grow_old)
instance:Inhabited ae:=⟨⟨0,⟨#[]⟩⟩⟩
def uZ (k:ae):bG:=[.int .i64 k.k,.string k.x]
def uq (xs:List ae):List ae:=xs.mergeSort fun x y=>!ltOf bV y x
section
variable {α:Type} [Inhabited α] {enc:α->bG} {n:Nat}
theorem pI (O:∀ x,(enc x).length=n) (hn:0<n):∀ (xs:List α) (t:Nat),t<xs.length*n->(xs.flatMap enc)[t]? = some (enc xs[t / n]!)[t % n]!
 | [],t,h=>by simp at h
 | x::r,t,h=>by
  rw [wD];by_cases ht:t<n
  ·rw [jm (by rw [O]; exact ht),Nat.div_eq_of_lt ht,DB ht];have:t<(enc x).length:=by rw [O]; exact ht
   rw [bh this];simp [this]
  ·have h2:t-n<r.length*n:=by simp only [dx,ga] at h; omega
   rw [jn (by rw [O]; omega),O,pI O hn r (t-n) h2];have e1:t / n=(t-n) / n+1:=by
    conv=>lhs; rw [show t=t-n+n by omega]
    rw [Nat.add_div_right _ hn]
   have e2:t % n=(t-n) % n:=by
    conv=>lhs; rw [show t=t-n+n by omega]
    rw [Nat.add_mod_right]
   rw [e1,e2]; simp
omit [Inhabited α] in
theorem mW (O:∀ x,(enc x).length=n) (xs:List α):(xs.flatMap enc).length=xs.length*n:=by
 induction xs with
 | nil=>simp
 | cons x r ih=>rw [wD,br,O,ih,dx,ga]; omega
theorem KV (O:∀ x,(enc x).length=n) (hn:0<n) (xs:List α):(flatK enc n xs.toArray).toList=xs.flatMap enc:=by
 refine Ix fun t=>?_;by_cases ht:t<xs.length*n
 ·rw [pI O hn xs t ht];have h1:=Go.Sort.get_flatK enc n xs.toArray t (by simpa using ht);have h2:t<(flatK enc n xs.toArray).size:=by simpa using ht
  rw [Ps,xD h2];rw [getElem!_pos (flatK enc n xs.toArray) t h2] at h1;rw [h1]; simp
 ·rw [vu (by simp; omega),vu (by rw [mW O]; omega)]
theorem Jq {w:World} {g off c:Nat} {cs:Array Value} {e:TypeId} {xs ys:List α} {q:Nat} {os:Array Obj} (O:∀ x,(enc x).length=n) (hn:0<n) (hg:BF w g cs e) (hsz:off+c*n<=cs.size) (hnc:xs.length<=c) (hcs:∀ j u,(xs.flatMap enc)[j]? = some u->cs[off+j]? = some u) (hl:ys.length=xs.length) :
  ∃ cs',BF (sortWorldK enc n w g off q ys.toArray os) g cs' e/\cs'.size=cs.size/\(∀ j u,(ys.flatMap enc)[j]? = some u->cs'[off+j]? = some u)/\Kt (fun k=>k=g) w (sortWorldK enc n w g off q ys.toArray os):=by
 have hH:Holds id w g off (flatK enc n xs.toArray):=fun j hj=>by
  have hj2:j<xs.length*n:=by simpa using hj
  have hm:xs.length*n<=c*n:=lU _ hnc;have h1:=Go.Sort.get_flatK enc n xs.toArray j (by simpa using hj2);refine⟨?_,hg.free (by omega)⟩;rw [hg.cell,hcs j _ (pI O hn xs j hj2),h1]; simp
 have e1:sortWorldK enc n w g off q ys.toArray os=grow ((w.drewN q).setCells g off (ys.flatMap enc)) os:=by
  unfold sortWorldK putRowK;have:=putRow_eq_setCells id w g off (flatK enc n xs.toArray) (flatK enc n ys.toArray).toList q hH (by simp [hl]);rw [Array.toArray_toList] at this;rw [this,KV O hn,List.map_id]
 obtain⟨fz,hg1,hfz⟩:=id hg;obtain⟨cs',c1,c2,c3,c4⟩:=eB g e fz (ys.flatMap enc) off (w.drewN q) cs hg1;have hgl:g<((w.drewN q).setCells g off (ys.flatMap enc)).heap.size:=(A7.1 c1).1;refine⟨cs',?_,c2,fun j u hu=>c4 (by rw [mW O,hl]; have:xs.length*n<=c*n:=lU _ hnc; omega) j u hu,?_⟩
 ·rw [e1];exact⟨fz,by rw [heap_grow_old _ os hgl]; exact c1,by rw [c2]; exact hfz⟩
 ·rw [e1];have k1:Kt (fun k=>k=g) w ((w.drewN q).setCells g off (ys.flatMap enc)):=(Kt.drewN w q).no.trans (Kt.setCells _ g off _);exact k1.trans ⟨rfl,rfl,rfl,by simp,fun k O _=>heap_grow_old _ os O⟩
end
theorem Dc {T:Nat->Prop} {w:World} {cl:bG} {xs:List ae}:bf ah T w cl xs↔cl=xs.flatMap uZ:=by
 have O:∀ x:ae,(uZ x).length=2:=fun _=>rfl;constructor
 ·rintro⟨h1,h2⟩;refine Ix fun t=>?_;have h1':cl.length=xs.length*2:=h1;by_cases ht:t<xs.length*2
  ·rw [pI O (by omega) xs t ht];have hx:t / 2<xs.length:=by omega
   obtain⟨cs,rfl,h4⟩:=h2 (t / 2) _ (bh hx);have hm:(uZ xs[t / 2])[t % 2]? = some (uZ xs[t / 2]!)[t % 2]!:=by
    rw [getElem!_pos xs (t / 2) hx];have h5:t % 2<(uZ xs[t / 2]).length:=by rw [O]; omega
    rw [bh h5,getElem!_pos (uZ xs[t / 2]) (t % 2) h5]
   have:=h4 (t % 2) _ hm;rwa [show t / 2*ah.size+t % 2=t by show t / 2*2+t % 2=t; omega] at this
  ·rw [vu (by omega),vu (by rw [mW O]; omega)]
 ·rintro rfl;refine⟨mW O xs,fun k x hx=>⟨uZ x,rfl,fun j u hu=>?_⟩⟩;have hkl:=(bR.1 hx).1;have hj:j<2:=by have:=(bR.1 hu).1; rw [O] at this; exact this
  show (xs.flatMap uZ)[k*2+j]? = some u;rw [pI O (by omega) xs _ (by omega),show (k*2+j) / 2=k by omega,show (k*2+j) % 2=j by omega,getElem!_pos xs k hkl,(bR.1 hx).2];obtain⟨h3,h4⟩:=bR.1 hu;rw [getElem!_pos (uZ x) j h3,h4]
theorem TM:SWO (ltOf bV) where
 irrefl x:=by unfold ltOf; simp [u5]
 trans x y z h1 h2:=by
  unfold ltOf at *;simp only [decide_eq_true_eq] at *;exact lC h1 h2
 ntrans x y z h1 h2:=by
  unfold ltOf at *;simp only [decide_eq_false_iff_not] at *;exact fun h=>h2 (oK h1 h)
theorem RQ (x y:ae) (h1:ltOf bV x y=false) (h2:ltOf bV y x=false):x=y:=by
 unfold ltOf at *;simp only [decide_eq_false_iff_not] at *;rcases u6 x y with h | h | h
 ·exact absurd h h1
 ·exact h
 ·exact absurd h h2
theorem Mh (blk off size:Nat) (w:World):CmpLays aO 50 #[] uZ 2 bV blk off size w:=fun m os dk hd x y=>by
 refine (MC (x.k,x.x) (y.k,y.x) (sortWorldK uZ 2 w blk off m dk os)).mono ?_;rintro e w' ⟨rfl,hg⟩;refine⟨?_,hg⟩;congr 2;unfold bV compareInt;dsimp only;rw [ud,ud];by_cases h1:x.k<y.k
 ·simp [h1]
 ·by_cases h2:y.k<x.k <;> simp [h1,h2]
theorem vl (xs:List ae):(uq xs).length=xs.length:=by unfold uq; exact List.length_mergeSort _
theorem Lp (T:Nat->Prop) (L:World) (v:Value) (cl:bG) (xs:List ae) (hD:vy T L [.own v 27 ah.size cl]) (hv:bf ah (dT T [.own v 27 ah.size cl]) L cl xs) (hr:cm xs.length=true) :
  bm aO (MD [.own v 27 ah.size cl]) 119 [v,.func (.func 50) #[] #[]] L (fun v' w'=>v' = .tuple #[]/\∃ cl',bf ah (dT T [.own v 27 ah.size cl']) w' cl' (uq xs)/\kl L w' [.own v 27 ah.size cl] [.own v 27 ah.size cl']):=by
 have O:∀ x:ae,(uZ x).length=2:=fun _=>rfl;have hr:=Da hr;have hcl:=Dc.1 hv;subst hcl;obtain⟨hown,hpos⟩:=hD.own _ dF;rcases id hown with⟨rfl,h0⟩|⟨g,off,n,c,cs,rfl,h1,hb,hg,hnc,hc,hsz,hcs⟩
 ·have hx:xs=[]:=by
   have:=mW O xs;rw [h0] at this;simp only [ma] at this;exact DJ (by omega)
  subst hx;have h:=AnyF.slices_SortFunc_none Tryz.sortKey none 0 (.func (.func 50) #[] #[]) L;change Calls aO 119 _ _ _ at h;refine h.mono ?_;rintro e w' ⟨rfl,rfl⟩;refine⟨_,rfl,aw _ _,rfl,[],Dc.2 (by unfold uq; simp),⟨fun r hr=>?_,fun r hr k O=>?_,xA _ _⟩⟩
  ·simp only [bC,cF,or_false] at hr; subst hr; exact⟨hown,hpos⟩
  ·simp only [bC,cF,or_false] at hr; subst hr; exact .inl ⟨_,dF,O⟩
 ·have hn:n=xs.length:=by
   have h2:=mW O xs;rw [h1] at h2;have h2:n*2=xs.length*2:=h2;omega
  subst hn;have hgl:g<L.heap.size:=hg.lt;have hH:HoldsK uZ 2 L g off xs.toArray:=fun j hj=>by
   have hj2:j<xs.length*2:=by simpa using hj
   have hsz2:off+c*2<=cs.size:=hsz;have h3:=Go.Sort.get_flatK uZ 2 xs.toArray j (by simpa using hj2);refine⟨?_,hg.free (by omega)⟩;rw [hg.cell,hcs j _ (pI O (by omega) xs j hj2),h3]; simp
  have eg:∀ args w,(callFunc 50 args).run aO w = .ok (.enter 50 args) w:=enters_of Tryz.func50 (by kernel_rfl) rfl;have h:=AnyQ.slices_SortFunc_total Tryz.sortKey 2 Tryz.isAgg27 Tryz.sizeOf27 uZ O (fun x v hv=>by simp [uZ] at hv; rcases hv with rfl | rfl <;> rfl) bV TM 50 #[] g off c xs.toArray L eg (Mh g off _ L) hH hgl (by simp; omega) RQ;change Calls aO 119 _ _ _ at h;rw [A2] at h;refine h.mono ?_;rintro e w' ⟨rfl,q,os,rfl⟩;have hs:(xs.toArray.toList.mergeSort fun x y=>!ltOf bV y x)=uq xs:=rfl;rw [hs];obtain⟨cs',r1,r2,r3,r4⟩:=Jq (enc:=uZ) (n:=2) (ys:=uq xs) (q:=q) (os:=os) O (by omega) hg hsz hnc hcs (vl xs);have hkM:Kt (MD [.own (.slice (some ⟨g,off,none⟩) xs.length c) 27 ah.size (xs.flatMap uZ)]) L (sortWorldK uZ 2 L g off q (uq xs).toArray os):=r4.mono fun j hj=>⟨_,dF,by rw [hj]; rfl⟩;refine⟨_,rfl,hkM,rfl,(uq xs).flatMap uZ,Dc.2 rfl,⟨fun r hr=>?_,fun r hr k O=>?_,xA _ _⟩⟩
  ·simp only [bC,cF,or_false] at hr;subst hr;exact⟨.inr ⟨g,off,xs.length,c,cs',rfl,by rw [mW O,vl]; rfl,hb,r1,hnc,hc,by rw [r2]; exact hsz,r3⟩,hpos⟩
  ·simp only [bC,cF,or_false] at hr; subst hr; exact .inl ⟨_,dF,O⟩
end
section
set_option maxRecDepth 100000
set_option maxHeartbeats 4000000
open Go.RowKit
variable (T:Nat->Prop) (L:World) (hT:TW T L)
include hT
noncomputable section
def sZ (c b:Int):Option (Int×Int):=some ((c,b))
def n9 (c:LU) (b:Int):Option (Fl (Int) (Int)):=cond (decide (b<(c.length:Int))) ((bp c b).bind fun d=>cond d.q (some (.go (IntKind.i64.wrap (b+1)))) (some (.out b))) (some (.out b))
def s5 (b:LU) (d c:Int):Option (Int×Int):=(loop (fun s:Int=>n9 b s) (IntKind.i64.wrap (d+1))).bind fun r=>sZ c r
def oa (c:LU) (b:Int):Option (Fl (Int) (Int)):=cond (decide ((0:Int)<b)) ((bp c (IntKind.i64.wrap (b-1))).bind fun d=>cond d.q (some (.go (IntKind.i64.wrap (b-1)))) (some (.out b))) (some (.out b))
def vp (b:LU) (c:Int):Option (Int×Int):=cond (decide (c<0)) (some ((0,0))) (cond (decide ((b.length:Int)<=c)) (some ((0,0))) ((bp b c).bind fun d=>cond (!(d.q)) (some ((c,IntKind.i64.wrap (c+1)))) ((loop (fun s:Int=>oa b s) c).bind fun r=>s5 b c r)))
theorem Ib (b:LU) (f:Int) (g:Value) (E:aQ ay T L g b) (y:Int×Int) (B:vp b f=some y):bm aO No 190 [g,am f] L (fun v w'=>v = .tuple #[am y.1,am y.2]):=by
 refine en Tryz.func190 Tryz.ntmps190 hT fun a I=>?_;replace I:=I.fS (aQ.dn E);unfold vp at B;refine an I fun a I=>?_;refine ax ?_;refine ip ?_;refine an I fun a I=>?_;rcases cd B with⟨t,B⟩|⟨t,B⟩
 ·refine an I fun a I=>?_;cases B
  refine aG I Tryz.results190 (aF I rfl (aF I rfl aH)) ?_;exact rfl
 refine an I fun a I=>?_;rcases cd B with⟨u,B⟩|⟨u,B⟩
 ·refine an I fun a I=>?_;cases B
  refine aG I Tryz.results190 (aF I rfl (aF I rfl aH)) ?_;exact rfl
 refine an I fun a I=>?_;refine ax ?_;refine an I fun a I=>?_;obtain⟨S,n,B⟩:=bd B;refine wl rfl (bv (R:=ay) I uM tV rfl rfl 0 rfl n rfl fun F V K x a I=>?_);obtain⟨Z,rfl,o⟩:=x;replace I:=I.fS o;refine an I fun a I=>?_;rcases cd B with⟨z,B⟩|⟨z,B⟩
 ·refine an I fun a I=>?_;cases B
  refine aG I Tryz.results190 (aF I rfl (aF I rfl aH)) ?_;exact rfl
 refine an I fun a I=>?_;refine aK (J:=fun a w=>∃ (c:Int),St L No T 54 [(0,g),(6,am c),(7,am (IntKind.i64.wrap (f+1)))] [] [aT ay g b] a w/\s5 b f c=some y) ?_ ?_
 ·refine an I fun a I=>?_;obtain⟨Y,k,hMo1⟩:=bd B;refine bz _ (fun s a w=>∃ (e:Int),e=s/\St L No T 54 [(0,g),(6,am e),(7,am (IntKind.i64.wrap (f+1)))] [] [aT ay g b] a w) k ⟨_,rfl,I.mt [] [2]⟩ ?_;rintro s a w r ⟨e,rfl,I⟩ B hf1;have B:oa b e=some r:=B;unfold oa at B;refine ax ?_;refine ip ?_;refine an I fun a I=>?_;rcases cd B with⟨i,B⟩|⟨i,B⟩
  ·refine an I fun a I=>?_;obtain⟨Q,m,B⟩:=bd B;refine wg I rfl rfl rfl i (bv (R:=ay) I uM tV rfl rfl 0 rfl m rfl fun G W M A a I=>?_);obtain⟨a0,rfl,p⟩:=A;replace I:=I.fS p;exact fz
  exact fz
 rintro a w ⟨c,I,B⟩;unfold s5 at B;refine aK (J:=fun a w=>∃ (h:Int),St L No T 54 [(6,am c),(7,am h)] [] [] a w/\sZ c h=some y) ?_ ?_
 ·refine an I fun a I=>?_;obtain⟨Y,k,hMo1⟩:=bd B;refine bz _ (fun s a w=>∃ (d:Int),d=s/\St L No T 54 [(0,g),(6,am c),(7,am d)] [] [aT ay g b] a w) k ⟨_,rfl,I.mt [] [0]⟩ ?_;rintro s a w r ⟨d,rfl,I⟩ B hf1;have B:n9 b d=some r:=B;unfold n9 at B;refine ax ?_;refine ip ?_;refine an I fun a I=>?_;rcases cd B with⟨j,B⟩|⟨j,B⟩
  ·refine an I fun a I=>?_;obtain⟨P,l,B⟩:=bd B;refine wg I rfl rfl rfl j (bv (R:=ay) I uM tV rfl rfl 0 rfl l rfl fun H X N D a I=>?_);obtain⟨a1,rfl,q⟩:=D;replace I:=I.fS q;exact fz
  exact fz
 rintro a w ⟨h,I,B⟩;unfold sZ at B;refine an I fun a I=>?_;cases B
 refine aG I Tryz.results190 (aF I rfl (aF I rfl aH)) ?_;exact rfl
def wa (b:Bool):Option Bool:=some (b)
def nF (b:Bool):Option Bool:=some (b)
def vZ (c:LU) (f:Int) (e:Bool) (b:Int):Option Bool:=cond e (cond (decide ((0:Int)<=b)) (wa (decide (b<=15))) (wa false)) ((vp c f).bind fun d=>cond (decide ((0:Int)<=b)) (cond (decide (b<d.1)) (nF true) ((bp c f).bind fun g=>cond g.q (nF (decide (b<d.2))) (nF false))) (nF false))
theorem AX (b:LU) (g:Int) (e:Bool) (k:Int) (p:Value) (o:aQ ay T L p b) (y:Bool) (B:vZ b g e k=some y):bm aO No 153 [p,am g,.bool e,am k] L (fun v w'=>v = .bool y):=by
 refine en Tryz.func153 Tryz.ntmps153 hT fun a I=>?_;replace I:=I.fS (aQ.dn o);unfold vZ at B;refine an I fun a I=>?_;refine ax ?_;refine an I fun a I=>?_;rcases cd B with⟨l,B⟩|⟨l,B⟩
 ·refine an I fun a I=>?_;refine aK (J:=fun a w=>∃ (c:Bool),St L No T 43 [(8,.bool c)] [] [] a w/\wa c=some y) ?_ ?_
  ·exact fz
  rintro a w ⟨c,I,B⟩;unfold wa at B;exact fz
 refine an I fun a I=>?_;obtain⟨u,i,B⟩:=bd B;refine kF I SH (Ib _ _ I.dlt b g _ I.g0 _ i) fun w a I=>?_;refine aK (J:=fun a w=>∃ (d:Bool),St L No T 43 [(8,.bool d)] [] [] a w/\nF d=some y) ?_ ?_
 ·refine an I fun a I=>?_;rcases cd B with⟨m,B⟩|⟨m,B⟩
  ·refine an I fun a I=>?_;rcases cd B with⟨f,B⟩|⟨f,B⟩
   ·exact fz
   refine an I fun a I=>?_;obtain⟨s,h,B⟩:=bd B;refine wg I rfl rfl rfl f (bv (R:=ay) I uM tV rfl rfl 0 rfl h rfl fun q t r n a I=>?_);obtain⟨x,rfl,j⟩:=n;replace I:=I.fS j;exact fz
  exact fz
 rintro a w ⟨d,I,B⟩;unfold nF at B;exact fz
def lS (c:LU) (f:Int) (b:dz) (d:Bool):Option Bool:=cond d (some (false)) (cond (!(b.v1)) (some (b.d1==0)) ((vZ c f b.w b.d1).bind fun e=>some (e)))
def vq (b:LU) (d:Int) (c:dz) (e:Bool):Option Bool:=cond c.v1 ((bp b d).bind fun f=>cond f.q (lS b d c true) (cond e (lS b d c true) ((vZ b d c.w c.N).bind fun g=>lS b d c (!(g))))) ((vZ b d c.w c.N).bind fun h=>lS b d c (!(h)))
theorem Id (b:LU) (d:Int) (c:dz) (e:Bool) (o:Value) (t:aQ ay T L o b) (y:Bool) (B:vq b d c e=some y):bm aO No 107 [o,am d,.agg (L4 c).toArray,.bool e] L (fun v w'=>v = .bool y):=by
 refine en Tryz.func107 Tryz.ntmps107 hT fun a I=>?_;replace I:=I.fS (aQ.dn t);unfold vq at B;refine kB I fun g A a w O I=>?_;refine an I fun a I=>?_;refine ax ?_;refine aK (J:=fun a w=>∃ (f:Bool),St L No T 44 [(0,o),(1,am d),(6,pt g 0),(30,.bool f)] [.box g (L4 c) 70] [aT ay o b] a w/\lS b d c f=some y) ?_ ?_
 ·refine an I fun a I=>?_;rcases cd B with⟨h,B⟩|⟨h,B⟩
  ·refine an I fun a I=>?_;obtain⟨z,j,B⟩:=bd B;refine wg I rfl rfl rfl h (bv (R:=ay) I uM tV rfl rfl 0 rfl j rfl fun u D x p a I=>?_);obtain⟨H,rfl,n⟩:=p;replace I:=I.fS n;refine an I fun a I=>?_;rcases cd B with⟨q,B⟩|⟨q,B⟩
   ·exact fz
   refine an I fun a I=>?_;rcases cd B with⟨i,B⟩|⟨i,B⟩
   ·exact fz
   refine an I fun a I=>?_;obtain⟨F,l,B⟩:=bd B;refine wg I rfl rfl rfl i (bT I Md rfl rfl (AX _ _ I.dlt b d c.w c.N _ I.g2 _ l) fun _ w C a O U=>?_);obtain rfl:=C;have I:=fA U;exact fz
  refine an I fun a I=>?_;obtain⟨G,m,B⟩:=bd B;refine wg I rfl rfl rfl rfl (bT I Md rfl rfl (AX _ _ I.dlt b d c.w c.N _ I.g0 _ m) fun _ w C a O U=>?_);obtain rfl:=C;have I:=fA U;exact fz
 rintro a w ⟨f,I,B⟩;unfold lS at B;rcases cd B with⟨r,B⟩|⟨r,B⟩
 ·exact fz
 refine an I fun a I=>?_;refine ax ?_;refine an I fun a I=>?_;rcases cd B with⟨s,B⟩|⟨s,B⟩
 ·exact fz
 refine an I fun a I=>?_;obtain⟨E,k,B⟩:=bd B;refine kE I Md (AX _ _ I.dlt b d c.w c.d1 _ I.g0 _ k) fun w a I=>?_;exact fz
def vY:Option Bool:=some (true)
def s6 (b:Int):Option (Fl (Int) (Fl (Unit) Bool)):=some (.go (IntKind.i64.wrap (b+1)))
def jU (e:LU) (g:Int) (d:aL) (b:Int):Option (Fl (Int) (Fl (Unit) Bool)):=cond (decide (b<(d.c.length:Int))) ((bp d.c b).bind fun f=>(vq e g f (b==0)).bind fun h=>cond (!(h)) (some (.out (.out false))) (some (.go (IntKind.i64.wrap (b+1))))) (some (.out (.go ())))
def ob (e:LU) (d:Int) (b:aL) (g f h:Int):Option (Fl (Int) (Fl (Unit) Bool)):=cond (decide ((6:Int)<(b.c.length:Int))) (some (.out (.out false))) (cond (decide (b.j<g)) (some (.out (.out false))) (cond (decide (f<b.j)) (some (.out (.out false))) (cond (decide (b.C<0)) (some (.out (.out false))) (cond (decide (h<b.C)) (some (.out (.out false))) ((loop (fun s:Int=>jU e d b s) 0).bind fun r=>Fl.el r (fun s=>s6 d) (fun y=>some (.out (.out y))))))))
def lR (b:LU) (c:Int):Option (Fl (Int) (Fl (Unit) Bool)):=cond (decide (c<(b.length:Int))) ((bp b c).bind fun d=>cond d.q (ob b c d 5 5 65535) (ob b c d 1 4 999)) (some (.out (.go ())))
def ti (b:LU):Option Bool:=cond (decide ((24:Int)<(b.length:Int))) (some (false)) ((loop (fun s:Int=>lR b s) 0).bind fun r=>Fl.el r (fun s=>vY) (fun y=>some (y)))
theorem Ic (b:LU) (e:Value) (P:aQ ay T L e b) (y:Bool) (B:ti b=some y):bm aO No 57 [e] L (fun v w'=>v = .bool y):=by
 refine en Tryz.func57 Tryz.ntmps57 hT fun a I=>?_;replace I:=I.fS (aQ.dn P);unfold ti at B;refine an I fun a I=>?_;refine ax ?_;refine an I fun a I=>?_;rcases cd B with⟨t,B⟩|⟨t,B⟩
 ·exact fz
 refine an I fun a I=>?_;refine aK (J:=fun a w=>St L No T 66 [] [] [] a w/\vY=some y) ?_ ?_
 ·refine an I fun a I=>?_;obtain⟨r1,M,hMo1⟩:=bd B;refine bz _ (fun s a w=>∃ (d:Int),d=s/\St L No T 66 [(0,e),(13,e),(14,am (b.length:Int)),(15,am d)] [] [aT ay e b] a w) M ⟨_,rfl,I.mt [] [0]⟩ ?_;rintro s a w r ⟨d,rfl,I⟩ B hf1;have B:lR b d=some r:=B;unfold lR at B;refine an I fun a I=>?_;refine ax ?_;rcases cd B with⟨u,B⟩|⟨u,B⟩
  ·refine an I fun a I=>?_;refine aK (J:=fun a w=>St L No T 66 [(0,e),(13,e),(14,am (b.length:Int)),(15,am d)] [] [aT ay e b] a w/\s6 d=some r) ?_ ?_
   ·refine an I fun a I=>?_;obtain⟨f,m,B⟩:=bd B;refine wl rfl (bv (R:=ay) I uM tV rfl rfl 0 rfl m rfl fun Q a1 W x a I=>?_);obtain⟨h,rfl,p⟩:=x;replace I:=I.fS p;refine kA I Ah fun l Z a w O I=>?_;refine go I fun a w I=>?_;refine aK (J:=fun a w=>∃ (j i k:Int),St L No T 66 [(0,e),(3,am d),(4,pt l 0),(5,am j),(6,am i),(7,am k),(13,e),(14,am (b.length:Int)),(15,am d)] [.box l (zk f h) 68] [aT ay e b,aT dV h f.c] a w/\ob b d f j i k=some r) ?_ ?_
    ·exact fz
    rintro a w ⟨j,i,k,I,B⟩;unfold ob at B;refine ax ?_;refine ip ?_;refine an I fun a I=>?_;rcases cd B with⟨z,B⟩|⟨z,B⟩
    ·exact fz
    refine an I fun a I=>?_;rcases cd B with⟨A,B⟩|⟨A,B⟩
    ·exact fz
    refine an I fun a I=>?_;rcases cd B with⟨D,B⟩|⟨D,B⟩
    ·exact fz
    refine an I fun a I=>?_;rcases cd B with⟨E,B⟩|⟨E,B⟩
    ·exact fz
    refine an I fun a I=>?_;rcases cd B with⟨F,B⟩|⟨F,B⟩
    ·exact fz
    refine an I fun a I=>?_;obtain⟨r2,N,hMo2⟩:=bd B;refine bz _ (fun s a w=>∃ (g:Int),g=s/\St L No T 66 [(0,e),(3,am d),(13,e),(14,am (b.length:Int)),(15,am d),(50,h),(51,am (f.c.length:Int)),(52,am g)] [] [aT ay e b,aT dV h f.c] a w) N ⟨_,rfl,I.mt [] [0,1]⟩ ?_;rintro s a w Y ⟨g,rfl,I⟩ B hf2;have B:jU b d f g=some Y:=B;unfold jU at B;refine an I fun a I=>?_;refine ax ?_;rcases cd B with⟨G,B⟩|⟨G,B⟩
    ·refine an I fun a I=>?_;refine ax ?_;refine an I fun a I=>?_;obtain⟨q,n,B⟩:=bd B;refine wl rfl (bv (R:=dV) I O5 Pc rfl rfl 1 rfl n rfl fun S a2 X H a I=>?_);obtain rfl:=H;refine kA I BV fun V a0 a w O I=>?_;refine go I fun a w I=>?_;obtain⟨a3,o,B⟩:=bd B;refine kF I R1 (Id _ _ I.dlt b d q (g==0) _ I.g1 _ o) fun w a I=>?_;rcases cd B with⟨K,B⟩|⟨K,B⟩
     ·refine an I fun a I=>?_;cases B
      have hr:=hf2 _ rfl;subst hr;replace hMo2:=jX hMo2;have B:=hMo2;cases B
      have hr:=hf1 _ rfl;subst hr;replace hMo1:=jX hMo1;have B:=hMo1;cases B
      refine aG I rfl (aF I rfl aH) ?_;exact rfl
     exact fz
    exact fz
   rintro a w ⟨I,B⟩;unfold s6 at B;exact fz
  exact fz
 rintro a w ⟨I,B⟩;unfold vY at B;exact fz
def eF (b:Bool):Option Bool:=some (b)
def jC (c:ac):Option Bool:=(c6 c.b).bind fun d=>cond d ((nT c.b).bind fun e=>cond (!(e)) (cond (decide (((c.t.size:Int):Int)<=1073741824)) (cond (decide ((1:Int)<=c.a)) (eF (decide (c.a<=1073741824))) (eF false)) (eF false)) (eF false)) (eF false)
def eG (e:ac) (c:Int):Option (Fl (Int) (Fl (Unit) Bool)):=cond (decide (c<(e.v.length:Int))) ((bp e.v c).bind fun d=>(c6 d.b).bind fun f=>cond (!(f)) (some (.out (.out false))) (cond (decide (d.h.o<0)) (some (.out (.out false))) (some (.go (IntKind.i64.wrap (c+1)))))) (some (.out (.go ())))
def lA (b:ac):Option Bool:=(loop (fun s:Int=>eG b s) 0).bind fun r=>Fl.el r (fun s=>jC b) (fun y=>some (y))
theorem CB (hLv:dC T L) (c:ac) (g:Value) (q:aQ a8 T L g c.v) (y:Bool) (B:lA c=some y):bm aO No 91 [.agg (aZ c g).toArray] L (fun v w'=>v = .bool y):=by
 refine en Tryz.func91 Tryz.ntmps91 hT fun a I=>?_;replace I:=(I.fact bK (dC.dn hLv)).fS (aQ.dn q);unfold lA at B;refine kB I fun d z a w O I=>?_;refine an I fun a I=>?_;refine aK (J:=fun a w=>St L No T 48 [(1,pt d 0)] [.box d (aZ c g) 30] [aT a8 g c.v,bK] a w/\jC c=some y) ?_ ?_
 ·refine an I fun a I=>?_;obtain⟨H,p,hMo1⟩:=bd B;refine bz _ (fun s a w=>∃ (e:Int),e=s/\St L No T 48 [(1,pt d 0),(6,g),(7,am (c.v.length:Int)),(8,am e)] [.box d (aZ c g) 30] [aT a8 g c.v,bK] a w) p ⟨_,rfl,I.mt [0] [0,1]⟩ ?_;rintro s a w x ⟨e,rfl,I⟩ B hf1;have B:eG c e=some x:=B;unfold eG at B;refine an I fun a I=>?_;refine ax ?_;rcases cd B with⟨n,B⟩|⟨n,B⟩
  ·refine an I fun a I=>?_;refine ax ?_;refine an I fun a I=>?_;obtain⟨m,i,B⟩:=bd B;refine wl rfl (bv (R:=a8) I Ej Gf rfl rfl 0 rfl i rfl fun r D u o a I=>?_);obtain rfl:=o;refine kA I Ep fun t A a w O I=>?_;refine go I fun a w I=>?_;refine ip ?_;refine an I fun a I=>?_;obtain⟨G,l,B⟩:=bd B;refine kE I Ew (pK _ _ I.dlt I.g2 m.b _ l) fun w a I=>?_;exact fz
  exact fz
 rintro a w ⟨I,B⟩;unfold jC at B;refine aK (J:=fun a w=>∃ (f:Bool),St L No T 48 [(2,.bool f)] [] [bK] a w/\eF f=some y) ?_ ?_
 ·refine an I fun a I=>?_;obtain⟨E,j,B⟩:=bd B;refine kF I Ew (pK _ _ I.dlt I.g1 c.b _ j) fun w a I=>?_;rcases cd B with⟨h,B⟩|⟨h,B⟩
  ·refine an I fun a I=>?_;obtain⟨F,k,B⟩:=bd B;refine wg I rfl rfl rfl h (bT I Oo rfl rfl (uj _ _ I.dlt c.b _ k) fun _ w C a O U=>?_);obtain rfl:=C;have I:=fA U;exact fz
  exact fz
 rintro a w ⟨f,I,B⟩;unfold eF at B;exact fz
def oo:Option Bool:=some (true)
def d8 (c:(List ac)) (b:Int):Option (Fl (Int) (Fl (Unit) Bool)):=cond (decide (b<(c.length:Int))) ((bp c b).bind fun d=>(lA d).bind fun e=>cond (!(e)) (some (.out (.out false))) (some (.go (IntKind.i64.wrap (b+1))))) (some (.out (.go ())))
def dd (b:(List ac)):Option Bool:=(loop (fun s:Int=>d8 b s) 0).bind fun r=>Fl.el r (fun s=>oo) (fun y=>some (y))
theorem lB (hLv:dC T L) (c:(List ac)) (g:Value) (l:aQ ai T L g c) (y:Bool) (B:dd c=some y):bm aO No 43 [g] L (fun v w'=>v = .bool y):=by
 refine en Tryz.func43 Tryz.ntmps43 hT fun a I=>?_;replace I:=(I.fact bK (dC.dn hLv)).fS (aQ.dn l);unfold dd at B;refine an I fun a I=>?_;refine aK (J:=fun a w=>St L No T 15 [] [] [bK] a w/\oo=some y) ?_ ?_
 ·refine an I fun a I=>?_;obtain⟨x,k,hMo1⟩:=bd B;refine bz _ (fun s a w=>∃ (b:Int),b=s/\St L No T 15 [(5,g),(6,am (c.length:Int)),(7,am b)] [] [aT ai g c,bK] a w) k ⟨_,rfl,I.mt [] [0,1]⟩ ?_;rintro s a w p ⟨b,rfl,I⟩ B hf1;have B:d8 c b=some p:=B;unfold d8 at B;refine an I fun a I=>?_;refine ax ?_;rcases cd B with⟨i,B⟩|⟨i,B⟩
  ·refine an I fun a I=>?_;refine ax ?_;refine an I fun a I=>?_;obtain⟨h,d,B⟩:=bd B;refine wl rfl (bv (R:=ai) I wJ s7 rfl rfl 0 rfl d rfl fun m r o j a I=>?_);obtain⟨u,rfl,f⟩:=j;replace I:=I.fS f;refine kA I rH fun n q a w O I=>?_;refine go I fun a w I=>?_;obtain⟨t,e,B⟩:=bd B;refine kE I UP (CB _ _ I.dlt I.g3 h _ I.g0 _ e) fun w a I=>?_;exact fz
  exact fz
 rintro a w ⟨I,B⟩;unfold oo at B;exact fz
def vF (c:ByteArray) (b:Int):Option aE:=some ((aE.mk (c.size:Int) b))
def sP (c b:Int):Option (Fl (Int×Int) (Int)):=some (.go (b,IntKind.i64.wrap (c+1)))
def nP (b c:Int):Option (Fl (Int×Int) (Int)):=cond (decide (c<8)) (some (.go (w8 .xor .u64 (AT .u64 b 1) (IntKind.u64.wrap ((cS .u64 b 63)*4823603603198064275)),IntKind.i64.wrap (c+1)))) (some (.out b))
def nQ (d:ByteArray) (c b:Int):Option (Fl (Int×Int) (Int)):=cond (decide (b<(d.size:Int))) ((bp d.toList b).bind fun e=>(loop (fun s:Int×Int=>nP s.1 s.2) (w8 .xor .u64 c (AT .u64 (IntKind.u64.wrap (e.toNat:Int)) 56),0)).bind fun r=>sP b r) (some (.out c))
def pG (b:ByteArray):Option aE:=(loop (fun s:Int×Int=>nQ b s.1 s.2) (18446744073709551615,0)).bind fun r=>vF b r
theorem ue (b:ByteArray) (y:aE) (B:pG b=some y):bm aO No 65 [bc b] L (fun v w'=>v = .agg (oZ y).toArray):=by
 refine en Tryz.func65 Tryz.ntmps65 hT fun a I=>?_;unfold pG at B;refine kA I ID fun c r a w O I=>?_;refine an I fun a I=>?_;refine aK (J:=fun a w=>∃ (e:Int),St L No T 33 [(0,bc b),(2,pt c 0),(3,.int .u64 e)] [.box c [am 0,.int .u64 0] 47] [] a w/\vF b e=some y) ?_ ?_
 ·refine an I fun a I=>?_;obtain⟨t,n,hMo1⟩:=bd B;refine bz _ (fun s a w=>∃ (g d:Int),(g,d)=s/\St L No T 33 [(0,bc b),(2,pt c 0),(3,.int .u64 g),(7,am (b.size:Int)),(8,am d)] [.box c [am 0,.int .u64 0] 47] [] a w) n ⟨_,_,rfl,I.mt [0] []⟩ ?_;rintro s a w m ⟨g,d,rfl,I⟩ B hf1;have B:nQ b g d=some m:=B;unfold nQ at B;refine an I fun a I=>?_;refine ax ?_;rcases cd B with⟨k,B⟩|⟨k,B⟩
  ·refine an I fun a I=>?_;refine aK (J:=fun a w=>∃ (i:Int),St L No T 33 [(0,bc b),(2,pt c 0),(3,.int .u64 i),(7,am (b.size:Int)),(8,am d)] [.box c [am 0,.int .u64 0] 47] [] a w/\sP d i=some m) ?_ ?_
   ·refine an I fun a I=>?_;obtain⟨p,j,B⟩:=bd B;refine qy I (A0 I Tryz.underlying9 rfl rfl j) fun a I=>?_;refine an I fun a I=>?_;refine qy I (NQ I rfl rfl rfl) fun a I=>?_;refine qy I (Du I rfl rfl rfl) fun a I=>?_;refine an I fun a I=>?_;obtain⟨u,o,hMo2⟩:=bd B;refine bz _ (fun s a w=>∃ (f h:Int),(f,h)=s/\St L No T 33 [(0,bc b),(2,pt c 0),(3,.int .u64 f),(7,am (b.size:Int)),(8,am d),(18,am h)] [.box c [am 0,.int .u64 0] 47] [] a w) o ⟨_,_,rfl,I.mt [0] []⟩ ?_;rintro s a w q ⟨f,h,rfl,I⟩ B hf2;have B:nP f h=some q:=B;unfold nP at B;refine an I fun a I=>?_;refine ax ?_;rcases cd B with⟨l,B⟩|⟨l,B⟩
    ·refine an I fun a I=>?_;refine ax ?_;refine an I fun a I=>?_;refine qy I (xz I rfl rfl rfl) fun a I=>?_;refine an I fun a I=>?_;refine qy I (NQ I rfl rfl rfl) fun a I=>?_;refine an I fun a I=>?_;refine qy I (Du I rfl rfl rfl) fun a I=>?_;exact fz
    exact fz
   rintro a w ⟨i,I,B⟩;unfold sP at B;exact fz
  exact fz
 rintro a w ⟨e,I,B⟩;unfold vF at B;refine an I fun a I=>?_;refine qy I (bE (ps:=[(0,.tmp 30),(1,.tmp 31)]) I Tz ID rfl (us:=[[am (b.size:Int)],[.int .u64 e]]) ⟨rfl,⟨rfl,trivial⟩⟩ (ws:=[am (b.size:Int),.int .u64 e]) rfl) fun a I=>?_;refine go I fun a w I=>?_;cases B
 refine aG I rfl (rC 0 I) ?_;exact rfl
def oF (b:Bool):Option Bool:=some (b)
def vJ (b:ae):Option Bool:=cond (b.k==31) (oF true) (oF (b.k==32))
theorem FM (c:ae) (y:Bool) (B:vJ c=some y):bm aO No 115 [.agg (bn c).toArray] L (fun v w'=>v = .bool y):=by
 refine en Tryz.func115 Tryz.ntmps115 hT fun a I=>?_;unfold vJ at B;refine kB I fun d e a w O I=>?_;refine an I fun a I=>?_;refine aK (J:=fun a w=>∃ (b:Bool),St L No T 11 [(2,.bool b)] [] [] a w/\oF b=some y) ?_ ?_
 ·exact fz
 rintro a w ⟨b,I,B⟩;unfold oF at B;exact fz
def u7 (d b:Int):Option ae:=(yj d).bind fun c=>some ((ae.mk b c))
def CN (c:LU) (b:Int):Option ae:=cond (decide (b<0)) (some ((ae.mk 0 cu))) (cond (decide ((c.length:Int)<=b)) (some ((ae.mk 0 cu))) (cond (decide ((99:Int)<b)) (some ((ae.mk 0 cu))) ((bp c b).bind fun d=>cond d.q (u7 b 32) (u7 b 31))))
theorem ME (hLv:dC T L) (d:LU) (c:Int) (o:Value) (n:aQ ay T L o d) (y:ae) (B:CN d c=some y):bm aO No 116 [o,am c] L (fun v w'=>v = .agg (bn y).toArray):=by
 refine en Tryz.func116 Tryz.ntmps116 hT fun a I=>?_;replace I:=(I.fact bK (dC.dn hLv)).fS (aQ.dn n);unfold CN at B;refine kA I jV fun e s a w O I=>?_;refine an I fun a I=>?_;refine ax ?_;refine ip ?_;refine an I fun a I=>?_;rcases cd B with⟨j,B⟩|⟨j,B⟩
 ·refine an I fun a I=>?_;refine qy I (bE (ps:=[]) I CW jV rfl (us:=[]) trivial (ws:=[am 0,bc cu]) rfl) fun a I=>?_;refine go I fun a w I=>?_;cases B
  refine aG I rfl (rC 0 I) ?_;exact rfl
 refine an I fun a I=>?_;rcases cd B with⟨k,B⟩|⟨k,B⟩
 ·refine an I fun a I=>?_;refine qy I (bE (ps:=[]) I CW jV rfl (us:=[]) trivial (ws:=[am 0,bc cu]) rfl) fun a I=>?_;refine go I fun a w I=>?_;cases B
  refine aG I rfl (rC 0 I) ?_;exact rfl
 refine an I fun a I=>?_;rcases cd B with⟨l,B⟩|⟨l,B⟩
 ·refine an I fun a I=>?_;refine qy I (bE (ps:=[]) I CW jV rfl (us:=[]) trivial (ws:=[am 0,bc cu]) rfl) fun a I=>?_;refine go I fun a w I=>?_;cases B
  refine aG I rfl (rC 0 I) ?_;exact rfl
 refine an I fun a I=>?_;refine aK (J:=fun a w=>∃ (b:Int),St L No T 28 [(1,am c),(4,pt e 0),(5,am b)] [.box e [am 0,bc cu] 27] [bK] a w/\u7 c b=some y) ?_ ?_
 ·refine an I fun a I=>?_;obtain⟨r,g,B⟩:=bd B;refine wl rfl (bv (R:=ay) I uM tV rfl rfl 0 rfl g rfl fun p t q m a I=>?_);obtain⟨u,rfl,i⟩:=m;replace I:=I.fS i;exact fz
 rintro a w ⟨b,I,B⟩;unfold u7 at B;refine an I fun a I=>?_;obtain⟨f,h,B⟩:=bd B;refine kE I Mg (zH _ _ I.dlt I.g0 c _ h) fun w a I=>?_;refine qy I (bE (ps:=[(0,.tmp 24),(1,.tmp 26)]) I CW jV rfl (us:=[[am b],[bc f]]) ⟨rfl,⟨rfl,trivial⟩⟩ (ws:=[am b,bc f]) rfl) fun a I=>?_;refine go I fun a w I=>?_;cases B
 refine aG I rfl (rC 0 I) ?_;exact rfl
def kL (b:Bool):Option Bool:=some (b)
def gj (c:LU) (b:ae):Option Bool:=(c6 b).bind fun e=>cond e ((vJ b).bind fun f=>cond (!(f)) (kL true) ((iY b).bind fun g=>(CN c g).bind fun d=>kL (d.k==b.k&&d.x.toList==b.x.toList))) (kL false)
theorem D3 (hLv:dC T L) (c:LU) (b:ae) (p:Value) (o:aQ ay T L p c) (y:Bool) (B:gj c b=some y):bm aO No 62 [p,.agg (bn b).toArray] L (fun v w'=>v = .bool y):=by
 refine en Tryz.func62 Tryz.ntmps62 hT fun a I=>?_;replace I:=(I.fact bK (dC.dn hLv)).fS (aQ.dn o);unfold gj at B;refine kB I fun q r a w O I=>?_;refine an I fun a I=>?_;refine aK (J:=fun a w=>∃ (e:Bool),St L No T 20 [(4,.bool e)] [] [bK] a w/\kL e=some y) ?_ ?_
 ·refine dr [] I fun w hQ I=>?_;refine gE [0] I fun a I=>?_;obtain⟨s,h,B⟩:=bd B;refine ec 1 I Ew (pK _ _ I.dlt I.g1 b _ h) fun _ w C a O U=>?_;obtain rfl:=C;have I:=fA U;refine gE [2] I fun a I=>?_;rcases cd B with⟨f,B⟩|⟨f,B⟩
  ·refine gE [3] I fun a I=>?_;obtain⟨t,j,B⟩:=bd B;refine dp (i:=4) rfl (by kernel_rfl) I rfl rfl rfl f (bT I R8 rfl rfl (FM _ _ I.dlt b _ j) fun _ w C a O U=>⟨jx (O),?_⟩);obtain rfl:=C;have I:=fA U;refine gE [5,6] I fun a I=>?_;rcases cd B with⟨d,B⟩|⟨d,B⟩
   ·refine gE [7,8,9,10,11,12,13,14,15] I fun a I=>?_;refine eD ?_;exact fin
   refine gE [7,8,11] I fun a I=>?_;obtain⟨n,l,B⟩:=bd B;refine dp (i:=9) rfl (by kernel_rfl) I rfl rfl rfl d (bT I PG rfl rfl (zJ _ _ I.dlt I.g1 b _ l) fun _ w C a O U=>⟨jx (O),?_⟩);obtain rfl:=C;have I:=fA U;obtain⟨g,m,B⟩:=bd B;refine dp (i:=10) rfl (by kernel_rfl) I rfl rfl rfl d (bT I R9 rfl rfl (ME _ _ I.dlt I.g1 c n _ I.g0 _ m) fun _ w C a O U=>⟨jx (O),?_⟩);obtain rfl:=C;have I:=fA U;refine dg 12 I d (v:=.bool (g.k==b.k&&g.x.toList==b.x.toList)) (Hm I rfl rfl) fun a I=>?_;refine gE [13,14,15] I fun a I=>?_;refine eD ?_;exact fin
  refine gE [3,4,5,6,7,8,9,10,11,12,13,14,15] I fun a I=>?_;refine eD ?_;exact fin
 rintro a w ⟨e,I,B⟩;unfold kL at B;exact fz
def dQ (d:be) (c:ae):Option Bool:=some (d.b.k==c.k&&d.b.x.toList==c.x.toList)
theorem zW (d:be) (c:ae) (e:Nat) (f:(bS e 0 (bn c)).p T L) (y:Bool) (B:dQ d c=some y):bm aO No 187 [.agg (uA d).toArray,pt e 0] L (fun v w'=>v = .bool y):=by
 refine en Tryz.func187 Tryz.ntmps187 hT fun a I=>?_;replace I:=I.fact (bS e 0 (bn c)) (co.dn _ f);unfold dQ at B;refine kB I fun g h a w O I=>?_;refine an I fun a I=>?_;refine wl rfl (ky (v:=.bool (d.b.k==c.k&&d.b.x.toList==c.x.toList)) I (Hm I rfl rfl) rfl rfl fun a I=>?_);exact fz
def dE:Option Int:=some ((-1))
def ba (c:LI) (f:be->Option Bool) (b:Int):Option (Fl (Int) (Fl (Unit) Int)):=cond (decide (b<(c.length:Int))) ((bp c b).bind fun d=>(f d).bind fun e=>cond e (some (.out (.out b))) (some (.go (IntKind.i64.wrap (b+1))))) (some (.out (.go ())))
def cz (b:be->Option Bool) (c:LI):Option Int:=(loop (fun s:Int=>ba c b s) 0).bind fun r=>Fl.el r (fun s=>dE) (fun y=>some (y))
theorem nD (hLv:dC T L) (f_1g:Nat) (f:aR aO f_1g=true) (f_1k:bG) (f_1P:co) (d:be->Option Bool) (m:∀ (T:Nat->Prop) (L:World) (hT:TW T L) (hLv:dC T L) (hP:f_1P.p T L) (q:be) (y:Bool) (B:d q=some y),bm aO No f_1g ([.agg (uA q).toArray]++f_1k) L (fun v w'=>v = .bool y)) (e:f_1P.p T L) (c:LI) (i:Value) (o:aQ ad T L i c) (y:Int) (B:cz d c=some y):bm aO No 186 [i,.func (.func f_1g) #[] f_1k.toArray] L (fun v w'=>v=am y):=by
 refine en Tryz.func186 Tryz.ntmps186 hT fun a I=>?_;replace I:=((I.fact f_1P (co.dn _ e)).fact bK (dC.dn hLv)).fS (aQ.dn o);unfold cz at B;refine an I fun a I=>?_;refine aK (J:=fun a w=>St L No T 19 [] [] [bK,f_1P] a w/\dE=some y) ?_ ?_
 ·refine an I fun a I=>?_;obtain⟨A,n,hMo1⟩:=bd B;refine bz _ (fun s a w=>∃ (b:Int),b=s/\St L No T 19 [(0,i),(1,.func (.func f_1g) #[] f_1k.toArray),(7,am (c.length:Int)),(8,am b)] [] [aT ad i c,bK,f_1P] a w) n ⟨_,rfl,I.mt [] [0,1,2]⟩ ?_;rintro s a w u ⟨b,rfl,I⟩ B hf1;have B:ba c d b=some u:=B;unfold ba at B;refine an I fun a I=>?_;refine ax ?_;rcases cd B with⟨k,B⟩|⟨k,B⟩
  ·refine an I fun a I=>?_;refine ax ?_;refine an I fun a I=>?_;obtain⟨j,g,B⟩:=bd B;refine wl rfl (bv (R:=ad) I El Em rfl rfl 0 rfl g rfl fun r x t l a I=>?_);obtain rfl:=l;refine an I fun a I=>?_;obtain⟨z,h,B⟩:=bd B;refine wl rfl (qn (cap:=f_1k) I rfl f rfl rfl (m _ _ I.dlt I.g2 I.g3 j _ h) fun _ w C a O U=>?_);obtain rfl:=C;have I:=fA U;exact fz
  exact fz
 rintro a w ⟨I,B⟩;unfold dE at B;exact fz
def oV (c:ap) (e:ae):Option be:=(cz (fun f=>dQ f e) c.i).bind fun b=>cond (decide (b<0)) (some ((be.mk (ae.mk 0 cu) cu 0))) ((bp c.i b).bind fun d=>some (d))
theorem BS (hLv:dC T L) (c:ap) (d:ae) (m n:Value) (k:aQ ad T L m c.i) (l:aQ aa T L n c.s) (y:be) (B:oV c d=some y):bm aO No 142 [.agg (bA c m n).toArray,.agg (bn d).toArray] L (fun v w'=>v = .agg (uA y).toArray):=by
 refine en Tryz.func142 Tryz.ntmps142 hT fun a I=>?_;replace I:=((I.fact bK (dC.dn hLv)).fS (aQ.dn k)).fS (aQ.dn l);unfold oV at B;refine kB I fun o u a w O I=>?_;refine kb I fun b x a w O I=>?_;refine ka I A8 fun p z a w O I=>?_;refine an I fun a I=>?_;replace I:=I.zx 1 rfl;refine qy I (vt (vs:=[pt b 0]) I rfl) fun a I=>?_;obtain⟨D,f,B⟩:=bd B;refine kF I SE (nD _ _ I.dlt I.g3 187 SF [pt b 0] (NZ (bS b 0 (bn d)) Eq) (fun j=>dQ j d) (fun T L hT hLv hP j y B=>zW T L hT j d b hP.1 y B) ⟨I.g0,trivial⟩ c.i _ I.g2 _ f) fun w a I=>?_;refine ax ?_;refine an I fun a I=>?_;rcases cd B with⟨g,B⟩|⟨g,B⟩
 ·refine an I fun a I=>?_;refine qy I (bE (ps:=[]) I OW A8 rfl (us:=[]) trivial (ws:=[am 0,bc cu,bc cu,am 0]) rfl) fun a I=>?_;refine go I fun a w I=>?_;cases B
  refine aG I rfl (rC 0 I) ?_;exact rfl
 refine an I fun a I=>?_;obtain⟨t,e,B⟩:=bd B;refine wl rfl (bv (R:=ad) I El Em rfl rfl 2 rfl e rfl fun q A r h a I=>?_);obtain rfl:=h;refine go I fun a w I=>?_;cases B
 refine aG I rfl (rC 0 I) ?_;exact rfl
def qL (c:ap) (d:ae):Option ByteArray:=(oV c d).bind fun b=>some (b.t)
theorem C6 (hLv:dC T L) (b:ap) (c:ae) (g h:Value) (e:aQ ad T L g b.i) (f:aQ aa T L h b.s) (y:ByteArray) (B:qL b c=some y):bm aO No 88 [.agg (bA b g h).toArray,.agg (bn c).toArray] L (fun v w'=>v=bc y):=by
 refine en Tryz.func88 Tryz.ntmps88 hT fun a I=>?_;replace I:=((I.fact bK (dC.dn hLv)).fS (aQ.dn e)).fS (aQ.dn f);unfold qL at B;refine kB I fun j l a w O I=>?_;refine kb I fun k m a w O I=>?_;refine an I fun a I=>?_;obtain⟨n,d,B⟩:=bd B;refine kE I Sk (BS _ _ I.dlt I.g2 b c _ _ I.g1 I.g0 _ d) fun w a I=>?_;refine qy I (Dv I rfl Tryz.underlying88 rfl rfl Pd rfl rfl (fun _=>rfl)) fun a I=>?_;exact fz
def kW (e:ar) (d:ae):Option Int:=(ui e.b d).bind fun c=>some (c)
theorem AJ (hLv:dC T L) (c:ar) (d:ae) (g:Value) (f:aQ ah T L g c.v) (y:Int) (B:kW c d=some y):bm aO No 163 [.agg (bN c g).toArray,.agg (bn d).toArray] L (fun v w'=>v=am y):=by
 refine en Tryz.func163 Tryz.ntmps163 hT fun a I=>?_;replace I:=(I.fact bK (dC.dn hLv)).fS (aQ.dn f);unfold kW at B;refine kB I fun h j a w O I=>?_;refine kb I fun i k a w O I=>?_;refine an I fun a I=>?_;obtain⟨l,e,B⟩:=bd B;refine kE I Oj (xR _ _ I.dlt I.g1 c.b d _ e) fun w a I=>?_;exact fz
def tn (c:Int) (b:Bool):Option (Int×Bool):=some ((c,b))
def vz (d:LR) (c:ae) (e:ar->ae->Option Int) (b:Int):Option (Int×Bool):=cond (decide (b<(d.length:Int))) ((bp d b).bind fun f=>(e f c).bind fun g=>tn b (g==0)) (tn b false)
def vA (h:LR) (d:ae) (e:ar->ae->Option Int) (b c:Int):Option (Fl (Int×Int) (Int)):=cond (decide (b<c)) ((bp h (IntKind.i64.wrap (cS .u64 (IntKind.u64.wrap (IntKind.i64.wrap (b+c))) 1))).bind fun f=>(e f d).bind fun g=>cond (decide (g<0)) (some (.go (IntKind.i64.wrap ((IntKind.i64.wrap (cS .u64 (IntKind.u64.wrap (IntKind.i64.wrap (b+c))) 1))+1),c))) (some (.go (b,IntKind.i64.wrap (cS .u64 (IntKind.u64.wrap (IntKind.i64.wrap (b+c))) 1))))) (some (.out b))
def BZ (c:ar->ae->Option Int) (d:LR) (b:ae):Option (Int×Bool):=(loop (fun s:Int×Int=>vA d b c s.1 s.2) (0,(d.length:Int))).bind fun r=>vz d b c r
theorem KG (hLv:dC T L) (cmp_g:Nat) (j:aR aO cmp_g=true) (cmp_k:bG) (cmp_P:co) (f:ar->ae->Option Int) (m:∀ (T:Nat->Prop) (L:World) (hT:TW T L) (hLv:dC T L) (hP:cmp_P.p T L) (S:ar) (X:ae) (z:Value) (a2:aQ ah T L z S.v) (y:Int) (B:f S X=some y),bm aO No cmp_g ([.agg (bN S z).toArray,.agg (bn X).toArray]++cmp_k) L (fun v w'=>v=am y)) (hPcmp_:cmp_P.p T L) (c:LR) (b:ae) (n:Value) (W:aQ aa T L n c) (y:Int×Bool) (B:BZ f c b=some y):bm aO No 162 [n,.agg (bn b).toArray,.func (.func cmp_g) #[] cmp_k.toArray] L (fun v w'=>v = .tuple #[am y.1,.bool y.2]):=by
 refine en Tryz.func162 Tryz.ntmps162 hT fun a I=>?_;replace I:=((I.fact cmp_P (co.dn _ hPcmp_)).fact bK (dC.dn hLv)).fS (aQ.dn W);unfold BZ at B;refine kB I fun e a1 a w O I=>?_;refine an I fun a I=>?_;refine aK (J:=fun a w=>∃ (d:Int),St L No T 49 [(0,n),(2,.func (.func cmp_g) #[] cmp_k.toArray),(4,pt e 0),(8,am (c.length:Int)),(9,am d)] [.box e (bn b) 27] [aT aa n c,bK,cmp_P] a w/\vz c b f d=some y) ?_ ?_
 ·refine an I fun a I=>?_;obtain⟨r1,V,hMo1⟩:=bd B;refine bz _ (fun s a w=>∃ (g h:Int),(g,h)=s/\St L No T 49 [(0,n),(2,.func (.func cmp_g) #[] cmp_k.toArray),(4,pt e 0),(8,am (c.length:Int)),(9,am g),(10,am h)] [.box e (bn b) 27] [aT aa n c,bK,cmp_P] a w) V ⟨_,_,rfl,I.mt [0] [0,1,2]⟩ ?_;rintro s a w f1 ⟨g,h,rfl,I⟩ B hf1;have B:vA c b f g h=some f1:=B;unfold vA at B;refine ax ?_;refine an I fun a I=>?_;rcases cd B with⟨G,B⟩|⟨G,B⟩
  ·refine an I fun a I=>?_;refine qy I (xz I rfl rfl rfl) fun a I=>?_;refine an I fun a I=>?_;refine ax ?_;refine dr [] I fun w hQ I=>?_;refine gE [0,1,2] I fun a I=>?_;obtain⟨F,q,B⟩:=bd B;obtain⟨A,P,Y,H,K,I⟩:=km (R:=aa) I rG pA 0 rfl q;obtain⟨a5,rfl,u⟩:=H;replace I:=I.fS u;refine dq 3 I (v:=pt A P) (K rfl rfl) fun a I=>?_;refine gE [4,5] I fun a I=>?_;obtain⟨a4,t,B⟩:=bd B;refine e1 6 (qn (cap:=cmp_k) I rfl j rfl rfl (m _ _ I.dlt I.g3 I.g4 F b _ I.g0 _ t) fun _ w C a O U=>⟨jx (O),?_⟩);obtain rfl:=C;have I:=fA U;refine gE [7] I fun a I=>?_;refine eD ?_;exact fz
  exact fz
 rintro a w ⟨d,I,B⟩;unfold vz at B;refine aK (J:=fun a w=>∃ (k:Bool),St L No T 49 [(6,am d),(7,.bool k)] [] [bK,cmp_P] a w/\tn d k=some y) ?_ ?_
 ·refine dr [] I fun w hQ I=>?_;refine gE [0,1,2,3,4] I fun a I=>?_;rcases cd B with⟨l,B⟩|⟨l,B⟩
  ·refine gE [5,6,7] I fun a I=>?_;obtain⟨E,o,B⟩:=bd B;obtain⟨D,Q,Z,M,N,I⟩:=km (R:=aa) I rG pA 0 rfl o;obtain⟨a9,rfl,x⟩:=M;replace I:=I.fS x;refine dg 8 I l (v:=pt D Q) (N rfl rfl) fun a I=>?_;refine gE [9,10] I fun a I=>?_;obtain⟨a3,r,B⟩:=bd B;refine dp (i:=11) rfl (by kernel_rfl) I rfl rfl rfl l (qn (cap:=cmp_k) I rfl j rfl rfl (m _ _ I.dlt I.g3 I.g4 E b _ I.g0 _ r) fun _ w C a O U=>⟨jx (O),?_⟩);obtain rfl:=C;have I:=fA U;refine gE [12,13,14,15] I fun a I=>?_;refine eD ?_;exact fin
  refine gE [5,6,7,8,9,10,11,12,13,14,15] I fun a I=>?_;refine eD ?_;exact fin
 rintro a w ⟨k,I,B⟩;unfold tn at B;refine an I fun a I=>?_;cases B
 refine aG I Tryz.results162 (aF I rfl (aF I rfl aH)) ?_;exact rfl
def nX (d:LR) (c:ae):Option (Int×Bool):=(BZ kW d c).bind fun b=>some ((b.1,b.2))
theorem C0 (hLv:dC T L) (c:LR) (b:ae) (g:Value) (f:aQ aa T L g c) (y:Int×Bool) (B:nX c b=some y):bm aO No 121 [g,.agg (bn b).toArray] L (fun v w'=>v = .tuple #[am y.1,.bool y.2]):=by
 refine en Tryz.func121 Tryz.ntmps121 hT fun a I=>?_;replace I:=(I.fact bK (dC.dn hLv)).fS (aQ.dn f);unfold nX at B;refine kB I fun i j a w O I=>?_;refine an I fun a I=>?_;obtain⟨k,d,B⟩:=bd B;refine kF I Su (KG _ _ I.dlt I.g1 163 Sv [] Eq kW (fun T L hT hLv _ l m h e y B=>AJ T L hT hLv l m h e y B) trivial c b _ I.g0 _ d) fun w a I=>?_;cases B
 refine aG I Tryz.results121 (aF I rfl (aF I rfl aH)) ?_;exact rfl
def ru (h:LR) (e:ar):Option LR:=(pM h).bind fun c=>(nX c e.b).bind fun d=>cond d.2 ((pp e).bind fun f=>(bp c d.1).bind fun i=>some ((c.set (Int.toNat d.1) f))) ((pp e).bind fun g=>gd (decide (0<=d.1)) <| gd (decide (d.1<=c.length)) <| gd (cm (c.length+1)) <| some ((List.take (Int.toNat d.1) c++g::List.drop (Int.toNat d.1) c)))
theorem F5 (hLv:dC T L) (l:LR) (c:ar) (v1 Y:Value) (a0:aQ aa T L v1 l) (a1:aQ ah T L Y c.v) (y:LR) (B:ru l c=some y):bm aO No 64 [v1,.agg (bN c Y).toArray] L (fun v w'=>∃ (Z:Value) (rJ:bG),v=Z/\jy aa T L w' [bo Z rJ] 78 Z rJ y):=by
 refine en Tryz.func64 Tryz.ntmps64 hT fun a I=>?_;replace I:=((I.fact bK (dC.dn hLv)).fS (aQ.dn a0)).fS (aQ.dn a1);unfold ru at B;refine kB I fun t ab a w O I=>?_;refine an I fun a I=>?_;obtain⟨S,o,B⟩:=bd B;refine kc I PF (yl _ _ I.dlt l _ I.g1 _ o) fun _ w C a O U=>?_;obtain⟨n,x,he,g⟩:=C;obtain rfl:=he.symm;have I:=sN U g;refine an I fun a I=>?_;have hL:=I;replace hL:=hL.zf (R:=aa) 0 rfl 0 rfl;obtain⟨ak,p,B⟩:=bd B;refine kF I Sc (C0 _ _ hL.dlt hL.g4 S c.b _ hL.g0 _ p) fun w a I=>?_;refine ax ?_;refine an I fun a I=>?_;rcases cd B with⟨E,B⟩|⟨E,B⟩
 ·refine an I fun a I=>?_;obtain⟨m,q,B⟩:=bd B;refine kc I Mc (vS _ _ I.dlt c _ I.g1 _ q) fun _ w C a O U=>?_;obtain⟨V,a4,he,h⟩:=C;obtain rfl:=he.symm;have I:=sN U h;obtain⟨D,f,B⟩:=bd B;refine wl rfl (dK (R:=aa) I rG pA rfl rfl 1 rfl 1 rfl f rfl fun a3 af ag a5 F G H a I=>?_);obtain⟨W,rfl,s⟩:=F;replace I:=(I.fS s).zf (R:=ah) 0 rfl 1 rfl;refine wl rfl (ig (R:=aa) (k:=0) (cs:=(bN D W)) (us:=(bN m V)) (x':=m) I rfl rfl rfl pA 0 rfl 3 rfl G H f (⟨_,rfl,I.g1⟩) rfl rfl (⟨_,rfl,I.g0⟩) fun z w O I=>?_);refine an I fun a I=>?_;cases B
  refine aG I rfl (aF I rfl aH) ?_;exact⟨n,z,rfl,I.zo ⟨.inr (az (i:=0) rfl),trivial⟩ 0 rfl 0 rfl⟩
 refine an I fun a I=>?_;obtain⟨d,r,B⟩:=bd B;refine kc I Mc (vS _ _ I.dlt c _ I.g1 _ r) fun _ w C a O U=>?_;obtain⟨e,a9,he,j⟩:=C;obtain rfl:=he.symm;have I:=sN U j;refine wl rfl (bq (ps:=[(0,.tmp 27)]) I CA jB (zl:=[am 0,bc cu,bc cu,.slice none 0 0,am 0,am 0,am 0,.bool false]) (by kernel_rfl) rfl (us:=[(bN d e)]) ⟨rfl,trivial⟩ (ws:=(bN d e)) rfl rfl rfl rfl fun u a w O I=>?_);replace I:=I.zf (R:=ah) 1 rfl 0 rfl;obtain⟨J,B⟩:=a6 B;obtain⟨K,B⟩:=a6 B;obtain⟨M,B⟩:=a6 B;replace I:=I.re [1,0] [2];have N:aa.rel (dT T ([bo n x,.box u (bN d e) 78]++[.box t (bN c Y) 78])) w (bN d e) d:=⟨_,rfl,I.g0⟩;refine wl rfl (bU I Sd rfl rfl (My (R:=aa) rfl _ _ _ _ _ _ _ _ _ I.dok (I.getD 2 rfl) (aa.keep N (aw _ _) (fun k O=>.inl ((Cu k).1 O))) J K M) fun X w C a O U=>?_);obtain⟨A,P,Q⟩:=C;have I:=U _ Q;replace I:=I.fR (P.keep (aw _ _) (aC _));refine an I fun a I=>?_;cases B
 refine aG I rfl (aF I rfl aH) ?_;exact⟨X,A,rfl,I.zo ⟨.inr (az (i:=0) rfl),trivial⟩ 0 rfl 0 rfl⟩
def nA (c:(ar×Bool)) (b:Bool):Option (ByteArray×Bool):=some ((c.1.t,b))
def ss (c:ap) (d:ae):Option (ByteArray×Bool):=(cO d).bind fun e=>cond e ((pR c d).bind fun f=>some ((f,true))) ((dM c.s d).bind fun b=>cond b.2 (nA b (b.1.u==c.r)) (nA b false))
theorem Ee (b:ap) (c:ae) (o p:Value) (m:aQ ad T L o b.i) (n:aQ aa T L p b.s) (y:ByteArray×Bool) (B:ss b c=some y):bm aO No 40 [.agg (bA b o p).toArray,.agg (bn c).toArray] L (fun v w'=>v = .tuple #[bc y.1,.bool y.2]):=by
 refine en Tryz.func40 Tryz.ntmps40 hT fun a I=>?_;replace I:=(I.fS (aQ.dn m)).fS (aQ.dn n);unfold ss at B;refine kB I fun q z a w O I=>?_;refine kb I fun r A a w O I=>?_;refine an I fun a I=>?_;refine ax ?_;refine an I fun a I=>?_;obtain⟨E,h,B⟩:=bd B;refine kF I Co (ez _ _ I.dlt c _ h) fun w a I=>?_;rcases cd B with⟨k,B⟩|⟨k,B⟩
 ·refine an I fun a I=>?_;obtain⟨F,j,B⟩:=bd B;refine kF I Om (un _ _ I.dlt b c _ _ I.g1 I.g0 _ j) fun w a I=>?_;cases B
  refine aG I Tryz.results40 (aF I rfl (aF I rfl aH)) ?_;exact rfl
 refine an I fun a I=>?_;obtain⟨f,g,B⟩:=bd B;refine kc I wS (cW _ _ I.dlt b.s c _ I.g0 _ g) fun _ w C a O U=>?_;obtain⟨G,x,he,e⟩:=C;obtain rfl:=he.symm;have I:=sN U e;refine kA I jB fun u D a w O I=>?_;refine go I fun a w I=>?_;refine aK (J:=fun a w=>∃ (d:Bool),St L No T 30 [(4,bc f.1.t),(5,.bool d)] [] [] a w/\nA f d=some y) ?_ ?_
 ·refine dr [] I fun w hQ I=>?_;refine gE [0,1,2,3] I fun a I=>?_;rcases cd B with⟨l,B⟩|⟨l,B⟩
  ·refine gE [4,5,6,7,8,9,10,11] I fun a I=>?_;refine eD ?_;exact fin
  refine gE [4,5,6,7,8,9,10,11] I fun a I=>?_;refine eD ?_;exact fin
 rintro a w ⟨d,I,B⟩;unfold nA at B;refine an I fun a I=>?_;cases B
 refine aG I Tryz.results40 (aF I rfl (aF I rfl aH)) ?_;exact rfl
def xm (c:ByteArray) (b:Int):Option aE:=some ((aE.mk (c.size:Int) b))
def uk (b c:Int):Option (Fl (Int×Int) (Int)):=some (.go (c,IntKind.i64.wrap (b+1)))
def sf (b c:Int):Option (Fl (Int×Int) (Int)):=some (.go (c,IntKind.i64.wrap (b-1)))
def nc (f:ByteArray) (e c b:Int):Option (Fl (Int×Int) (Int)):=cond (decide ((0:Int)<=b)) ((bp f.toList e).bind fun d=>gd (decide (0<=IntKind.u64.wrap b)) <| cond ((cS .u64 c 63:Int) != (IntKind.u64.wrap (w8 .and .u8 (cS .u8 (d.toNat:Int) (IntKind.u64.wrap b)) 1))) (sf b (w8 .xor .u64 (AT .u64 c 1) 4823603603198064275)) (sf b (AT .u64 c 1))) (some (.out c))
def pQ (d:ByteArray) (c b:Int):Option (Fl (Int×Int) (Int)):=cond (decide (b<(d.size:Int))) ((loop (fun s:Int×Int=>nc d b s.1 s.2) (c,7)).bind fun r=>uk b r) (some (.out c))
def ve (b:ByteArray):Option aE:=(loop (fun s:Int×Int=>pQ b s.1 s.2) (18446744073709551615,0)).bind fun r=>xm b r
theorem C2 (d:ByteArray) (y:aE) (B:ve d=some y):bm aO No 41 [bc d] L (fun v w'=>v = .agg (oZ y).toArray):=by
 refine en Tryz.func41 Tryz.ntmps41 hT fun a I=>?_;unfold ve at B;refine kA I ID fun b x a w O I=>?_;refine an I fun a I=>?_;refine aK (J:=fun a w=>∃ (f:Int),St L No T 37 [(0,bc d),(2,pt b 0),(3,.int .u64 f)] [.box b [am 0,.int .u64 0] 47] [] a w/\xm d f=some y) ?_ ?_
 ·refine an I fun a I=>?_;obtain⟨z,r,hMo1⟩:=bd B;refine bz _ (fun s a w=>∃ (h c:Int),(h,c)=s/\St L No T 37 [(0,bc d),(2,pt b 0),(3,.int .u64 h),(4,am c)] [.box b [am 0,.int .u64 0] 47] [] a w) r ⟨_,_,rfl,I.mt [0] []⟩ ?_;rintro s a w p ⟨h,c,rfl,I⟩ B hf1;have B:pQ d h c=some p:=B;unfold pQ at B;refine ax ?_;refine an I fun a I=>?_;rcases cd B with⟨l,B⟩|⟨l,B⟩
  ·refine an I fun a I=>?_;refine aK (J:=fun a w=>∃ (i:Int),St L No T 37 [(0,bc d),(2,pt b 0),(3,.int .u64 i),(4,am c)] [.box b [am 0,.int .u64 0] 47] [] a w/\uk c i=some p) ?_ ?_
   ·refine an I fun a I=>?_;obtain⟨A,t,hMo2⟩:=bd B;refine bz _ (fun s a w=>∃ (g e:Int),(g,e)=s/\St L No T 37 [(0,bc d),(2,pt b 0),(3,.int .u64 g),(4,am c),(5,am e)] [.box b [am 0,.int .u64 0] 47] [] a w) t ⟨_,_,rfl,I.mt [0] []⟩ ?_;rintro s a w q ⟨g,e,rfl,I⟩ B hf2;have B:nc d c g e=some q:=B;unfold nc at B;refine ax ?_;refine an I fun a I=>?_;rcases cd B with⟨m,B⟩|⟨m,B⟩
    ·refine an I fun a I=>?_;refine aK (J:=fun a w=>∃ (j:Int),St L No T 37 [(0,bc d),(2,pt b 0),(3,.int .u64 j),(4,am c),(5,am e)] [.box b [am 0,.int .u64 0] 47] [] a w/\sf e j=some q) ?_ ?_
     ·refine an I fun a I=>?_;refine qy I (xz I rfl rfl rfl) fun a I=>?_;refine an I fun a I=>?_;obtain⟨u,k,B⟩:=bd B;refine qy I (A0 I Tryz.underlying9 rfl rfl k) fun a I=>?_;refine an I fun a I=>?_;obtain⟨n,B⟩:=a6 B;refine qy I (xz I rfl rfl n) fun a I=>?_;refine qy I (Du I rfl rfl rfl) fun a I=>?_;refine an I fun a I=>?_;refine qy I (NQ I rfl rfl rfl) fun a I=>?_;refine an I fun a I=>?_;rcases cd B with⟨o,B⟩|⟨o,B⟩
      ·refine an I fun a I=>?_;refine qy I (Du I rfl rfl rfl) fun a I=>?_;exact fz
      exact fz
     rintro a w ⟨j,I,B⟩;unfold sf at B;exact fz
    exact fz
   rintro a w ⟨i,I,B⟩;unfold uk at B;exact fz
  exact fz
 rintro a w ⟨f,I,B⟩;unfold xm at B;refine an I fun a I=>?_;refine qy I (bE (ps:=[(0,.tmp 34),(1,.tmp 35)]) I Tz ID rfl (us:=[[am (d.size:Int)],[.int .u64 f]]) ⟨rfl,⟨rfl,trivial⟩⟩ (ws:=[am (d.size:Int),.int .u64 f]) rfl) fun a I=>?_;refine go I fun a w I=>?_;cases B
 refine aG I rfl (rC 0 I) ?_;exact rfl
def rD (b:(List ac)):Option (List ac):=some (b)
def lc (b:Int) (c:(List ac)):Option (Fl ((List ac)×Int) ((List ac))):=some (.go (c,IntKind.i64.wrap (b+1)))
def ld (d:(List ac)) (e:Int) (c:ar) (g:Bool) (f:(List bM)):Option (Fl ((List ac)×Int) ((List ac))):=cond g (gd (cm (d.length+([(ac.mk c.b f c.t c.a)]).length)) <| lc e (d++([(ac.mk c.b f c.t c.a)]))) (lc e d)
def iP (f:Int) (d:(List bM)) (b:ae) (g:(ByteArray×Bool)) (e:Bool):Option (Fl (Bool×Int×(List bM)) (Bool×(List bM))):=(ve g.1).bind fun c=>gd (cm (d.length+([(bM.mk b c)]).length)) <| some (.go (e,IntKind.i64.wrap (f+1),(d++([(bM.mk b c)]))))
def lf (h:ap) (g:ar) (f:Bool) (b:Int) (e:(List bM)):Option (Fl (Bool×Int×(List bM)) (Bool×(List bM))):=cond (decide (b<(g.v.length:Int))) ((bp g.v b).bind fun c=>(ss h c).bind fun d=>cond f (iP b e c d d.2) (iP b e c d false)) (some (.out (f,e)))
def n7 (d:ap) (e:(List ac)) (c:Int):Option (Fl ((List ac)×Int) ((List ac))):=cond (decide (c<(d.s.length:Int))) ((bp d.s c).bind fun b=>(loop (fun s:Bool×Int×(List bM)=>lf d b s.1 s.2.1 s.2.2) (b.u==d.r,0,([]:List bM))).bind fun r=>ld e c b r.1 r.2) (some (.out e))
def oU (b:ap):Option (List ac):=(loop (fun s:(List ac)×Int=>n7 b s.1 s.2) (([]:List ac),0)).bind fun r=>rD r
theorem BQ (d:ap) (E n:Value) (b4:aQ ad T L E d.i) (b5:aQ aa T L n d.s) (y:(List ac)) (B:oU d=some y):bm aO No 16 [.agg (bA d E n).toArray] L (fun v w'=>∃ (v3:Value) (rJ:bG),v=v3/\jy ai T L w' [bu v3 rJ] 30 v3 rJ y):=by
 refine en Tryz.func16 Tryz.ntmps16 hT fun a I=>?_;replace I:=(I.fS (aQ.dn b4)).fS (aQ.dn b5);unfold oU at B;refine kB I fun h bt a w O I=>?_;refine an I fun a I=>?_;refine aK (J:=fun a w=>∃ (V:(List ac)) (K:Value) (H:LV),St L No T 65 [(3,K)] [bu K H] [au ai H V] a w/\rD V=some y) ?_ ?_
 ·refine an I fun a I=>?_;replace I:=I.zn ai 30 (by decide);obtain⟨r1,b2,hMo1⟩:=bd B;refine bz _ (fun s a w=>∃ (j:(List ac)) (g:Int) (m:Value) (l:LV),(j,g)=s/\St L No T 65 [(1,pt h 0),(3,m),(13,n),(14,am (d.s.length:Int)),(15,am g)] [bu m l,.box h (bA d E n) 37] [au ai l j,aT aa n d.s,aT ad E d.i] a w) b2 ⟨_,_,_,_,rfl,I.mt [0,1] [0,1,2]⟩ ?_;rintro s a w f1 ⟨j,g,m,l,rfl,I⟩ B hf1;have B:n7 d j g=some f1:=B;unfold n7 at B;refine an I fun a I=>?_;refine ax ?_;rcases cd B with⟨a9,B⟩|⟨a9,B⟩
  ·refine an I fun a I=>?_;refine aK (J:=fun a w=>∃ (W:(List ac)) (Y:Value) (Q:LV),St L No T 65 [(1,pt h 0),(3,Y),(13,n),(14,am (d.s.length:Int)),(15,am g)] [bu Y Q,.box h (bA d E n) 37] [au ai Q W,aT aa n d.s,aT ad E d.i] a w/\lc g W=some f1) ?_ ?_
   ·refine an I fun a I=>?_;obtain⟨c,a1,B⟩:=bd B;refine wl rfl (bv (R:=aa) I rG pA rfl rfl 1 rfl a1 rfl fun b6 c4 bg ab a I=>?_);obtain⟨M,rfl,a5⟩:=ab;replace I:=I.fS a5;refine kA I jB fun b7 c1 a w O I=>?_;refine go I fun a w I=>?_;refine qy I (bE (ps:=[(0,.tmp 20),(2,.tmp 22),(3,.tmp 24)]) I Ty rH rfl (us:=[(bn c.b),[bc c.t],[am c.a]]) ⟨rfl,⟨rfl,⟨rfl,trivial⟩⟩⟩ (ws:=[am c.b.k,bc c.b.x,(.slice none 0 0),bc c.t,am c.a]) rfl) fun a I=>?_;refine ka I rH fun r c2 a w O I=>?_;refine go I fun a w I=>?_;refine aK (J:=fun a w=>∃ (N:Bool) (D:(List bM)) (z:Value) (S:LV),St L No T 65 [(1,pt h 0),(3,m),(6,pt r 0),(7,.bool N),(13,n),(14,am (d.s.length:Int)),(15,am g)] [bu m l,.box h (bA d E n) 37,vR z S,.box r [am c.b.k,bc c.b.x,z,bc c.t,am c.a] 30] [au ai l j,aT aa n d.s,aT ad E d.i,au a8 S D] a w/\ld j g c N D=some f1) ?_ ?_
    ·refine an I fun a I=>?_;replace I:=I.zn a8 49 (by decide);obtain⟨r2,b3,hMo2⟩:=bd B;refine bz _ (fun s a w=>∃ (F:Bool) (u:Int) (q:(List bM)) (A:Value) (G:LV),(F,u,q)=s/\St L No T 65 [(1,pt h 0),(3,m),(6,pt r 0),(7,.bool F),(13,n),(14,am (d.s.length:Int)),(15,am g),(32,M),(33,am (c.v.length:Int)),(34,am u)] [bu m l,.box h (bA d E n) 37,vR A G,.box r [am c.b.k,bc c.b.x,A,bc c.t,am c.a] 30] [au ai l j,aT aa n d.s,aT ah M c.v,aT ad E d.i,au a8 G q] a w) b3 ⟨_,_,_,_,_,rfl,I.mt [3,4,0,1] [3,4,1,5,0]⟩ ?_;rintro s a w f2 ⟨F,u,q,A,G,rfl,I⟩ B hf2;have B:lf d c F u q=some f2:=B;unfold lf at B;refine an I fun a I=>?_;refine ax ?_;rcases cd B with⟨af,B⟩|⟨af,B⟩
     ·refine an I fun a I=>?_;refine ax ?_;refine an I fun a I=>?_;obtain⟨e,a2,B⟩:=bd B;refine wl rfl (bv (R:=ah) I nC gB rfl rfl 2 rfl a2 rfl fun b8 c5 bi ag a I=>?_);obtain rfl:=ag;refine kA I jV fun Z c3 a w O I=>?_;refine go I fun a w I=>?_;obtain⟨X,a3,B⟩:=bd B;refine kF I Uq (Ee _ _ I.dlt d e _ _ I.g4 I.g2 _ a3) fun w a I=>?_;refine aK (J:=fun a w=>∃ (P:Bool),St L No T 65 [(1,pt h 0),(3,m),(6,pt r 0),(7,.bool P),(9,pt Z 0),(10,bc X.1),(13,n),(14,am (d.s.length:Int)),(15,am g),(32,M),(33,am (c.v.length:Int)),(34,am u)] [bu m l,.box h (bA d E n) 37,vR A G,.box r [am c.b.k,bc c.b.x,A,bc c.t,am c.a] 30,.box Z (bn e) 27] [au ai l j,aT aa n d.s,aT ah M c.v,aT ad E d.i,au a8 G q] a w/\iP u q e X P=some f2) ?_ ?_
      ·exact fz
      rintro a w ⟨P,I,B⟩;unfold iP at B;refine dr [(7,.blk (Value.ownBlock A)),(9,.blk (some r))] I fun w hQ I=>?_;refine gE [0,1,2,3] I fun a I=>?_;obtain⟨f,a4,B⟩:=bd B;refine ec 4 I SY (C2 _ _ I.dlt X.1 _ a4) fun _ w C a O U=>?_;obtain rfl:=C;have I:=fA U;refine dq 5 I (v:=.agg #[am e.k,bc e.x,am f.o,.int .u64 f.p]) (bE (ps:=[(0,.tmp 50),(1,.tmp 52)]) I TA Ep rfl (us:=[(bn e),(oZ f)]) ⟨rfl,⟨rfl,trivial⟩⟩ (ws:=[am e.k,bc e.x,am f.o,.int .u64 f.p]) rfl) fun a I=>?_;refine e1 6 (bq (ps:=[(0,.tmp 53)]) I I0 Ep (zl:=[am 0,bc cu,am 0,.int .u64 0]) (by kernel_rfl) rfl (us:=[[am e.k,bc e.x,am f.o,.int .u64 f.p]]) ⟨rfl,trivial⟩ (ws:=[am e.k,bc e.x,am f.o,.int .u64 f.p]) rfl rfl rfl rfl fun b9 a w O I=>⟨jx (O),?_⟩);replace I:=(I.lit (R:=a8) (us:=[am e.k,bc e.x,am f.o,.int .u64 f.p]) (xs:=[(bM.mk e f)]) 0 rfl (by decide) (aN (R:=a8) (x:=(bM.mk e f)) rfl) rfl rfl).zf (R:=a8) 0 rfl 0 rfl;obtain⟨ak,B⟩:=a6 B;refine e1 7 (cr (R:=a8) (xs:=q) (ys:=[(bM.mk e f)]) I I0 (by decide) (by decide) rfl rfl 2 rfl 6 rfl 0 rfl ak rfl fun c9 bl a w O I=>⟨qU rfl O pH,?_⟩);refine gE [8] I fun a I=>?_;refine es 9 I fun w I=>?_;refine eD ?_;exact fz
     refine an I fun a I=>?_;cases B
     have hr:=hf2 _ rfl;subst hr;have B:ld j g c F q=some f1:=hMo2;exact fin
    rintro a w ⟨N,D,z,S,I,B⟩;unfold ld at B;refine an I fun a I=>?_;rcases cd B with⟨ao,B⟩|⟨ao,B⟩
    ·refine an I fun a I=>?_;refine wl rfl (bq (ps:=[(0,.tmp 60)]) I qW rH (zl:=[am 0,bc cu,.slice none 0 0,bc cu,am 0]) (by kernel_rfl) rfl (us:=[[am c.b.k,bc c.b.x,z,bc c.t,am c.a]]) ⟨rfl,trivial⟩ (ws:=[am c.b.k,bc c.b.x,z,bc c.t,am c.a]) rfl rfl rfl rfl fun bb a w O I=>?_);replace I:=I.zf (R:=a8) 3 rfl 3 rfl;replace I:=(I.lit (R:=ai) (us:=[am c.b.k,bc c.b.x,z,bc c.t,am c.a]) (xs:=[(ac.mk c.b D c.t c.a)]) 0 rfl (by decide) (aN (R:=ai) (x:=(ac.mk c.b D c.t c.a)) (⟨_,rfl,I.g0⟩)) rfl rfl).zf (R:=ai) 0 rfl 0 rfl;obtain⟨av,B⟩:=a6 B;refine wl rfl (cr (R:=ai) (xs:=j) (ys:=[(ac.mk c.b D c.t c.a)]) I qW (by decide) (by decide) rfl rfl 0 rfl 3 rfl 0 rfl av rfl fun ca bs a w O I=>?_);exact fz
    exact fz
   rintro a w ⟨W,Y,Q,I,B⟩;unfold lc at B;exact fz
  exact fz
 rintro a w ⟨V,K,H,I,B⟩;unfold rD at B;refine an I fun a I=>?_;cases B
 refine aG I rfl (aF I rfl aH) ?_;exact⟨K,H,rfl,I.zo ⟨.inr (az (i:=0) rfl),trivial⟩ 0 rfl 0 rfl⟩
def cD (b:Bool):Option Bool:=some (b)
def d7 (c:ac):Option Bool:=(cP c.b).bind fun d=>cond d ((cO c.b).bind fun e=>cond (!(e)) (cond (decide (((c.t.size:Int):Int)<=1073741824)) (cond (decide ((1:Int)<=c.a)) (cD (decide (c.a<=1073741824))) (cD false)) (cD false)) (cD false)) (cD false)
def cE (e:ac) (c:Int):Option (Fl (Int) (Fl (Unit) Bool)):=cond (decide (c<(e.v.length:Int))) ((bp e.v c).bind fun d=>(cP d.b).bind fun f=>cond (!(f)) (some (.out (.out false))) (cond (decide (d.h.o<0)) (some (.out (.out false))) (some (.go (IntKind.i64.wrap (c+1)))))) (some (.out (.go ())))
def da (b:ac):Option Bool:=(loop (fun s:Int=>cE b s) 0).bind fun r=>Fl.el r (fun s=>d7 b) (fun y=>some (y))
theorem qY (c:ac) (g:Value) (q:aQ a8 T L g c.v) (y:Bool) (B:da c=some y):bm aO No 54 [.agg (aZ c g).toArray] L (fun v w'=>v = .bool y):=by
 refine en Tryz.func54 Tryz.ntmps54 hT fun a I=>?_;replace I:=I.fS (aQ.dn q);unfold da at B;refine kB I fun d z a w O I=>?_;refine an I fun a I=>?_;refine aK (J:=fun a w=>St L No T 48 [(1,pt d 0)] [.box d (aZ c g) 30] [aT a8 g c.v] a w/\d7 c=some y) ?_ ?_
 ·refine an I fun a I=>?_;obtain⟨H,p,hMo1⟩:=bd B;refine bz _ (fun s a w=>∃ (e:Int),e=s/\St L No T 48 [(1,pt d 0),(6,g),(7,am (c.v.length:Int)),(8,am e)] [.box d (aZ c g) 30] [aT a8 g c.v] a w) p ⟨_,rfl,I.mt [0] [0]⟩ ?_;rintro s a w x ⟨e,rfl,I⟩ B hf1;have B:cE c e=some x:=B;unfold cE at B;refine an I fun a I=>?_;refine ax ?_;rcases cd B with⟨n,B⟩|⟨n,B⟩
  ·refine an I fun a I=>?_;refine ax ?_;refine an I fun a I=>?_;obtain⟨m,i,B⟩:=bd B;refine wl rfl (bv (R:=a8) I Ej Gf rfl rfl 0 rfl i rfl fun r D u o a I=>?_);obtain rfl:=o;refine kA I Ep fun t A a w O I=>?_;refine go I fun a w I=>?_;refine ip ?_;refine an I fun a I=>?_;obtain⟨G,l,B⟩:=bd B;refine kE I IU (kd _ _ I.dlt m.b _ l) fun w a I=>?_;exact fz
  exact fz
 rintro a w ⟨I,B⟩;unfold d7 at B;refine aK (J:=fun a w=>∃ (f:Bool),St L No T 48 [(2,.bool f)] [] [] a w/\cD f=some y) ?_ ?_
 ·refine an I fun a I=>?_;obtain⟨E,j,B⟩:=bd B;refine kF I IU (kd _ _ I.dlt c.b _ j) fun w a I=>?_;rcases cd B with⟨h,B⟩|⟨h,B⟩
  ·refine an I fun a I=>?_;obtain⟨F,k,B⟩:=bd B;refine wg I rfl rfl rfl h (bT I Co rfl rfl (ez _ _ I.dlt c.b _ k) fun _ w C a O U=>?_);obtain rfl:=C;have I:=fA U;exact fz
  exact fz
 rintro a w ⟨f,I,B⟩;unfold cD at B;exact fz
def pd (b:LN):Option ByteArray:=some ((gg b))
def fE (d:Int) (c:LN) (b:Int):Option (Fl (LN×Int) (LN)):=cond (decide ((0:Int)<=b)) (gd (decide (0<=IntKind.u64.wrap b)) <| gd (cm (c.length+([IntKind.u8.wrap (cS .u64 d (IntKind.u64.wrap b))]).length)) <| some (.go ((c++([IntKind.u8.wrap (cS .u64 d (IntKind.u64.wrap b))])),IntKind.i64.wrap (b-8)))) (some (.out c))
def gf (b:Int):Option ByteArray:=(loop (fun s:LN×Int=>fE b s.1 s.2) (([]:List Int),56)).bind fun r=>pd r
theorem qB (c:Int) (y:ByteArray) (B:gf c=some y):bm aO No 189 [.int .u64 c] L (fun v w'=>v=bc y):=by
 refine en Tryz.func189 Tryz.ntmps189 hT fun a I=>?_;unfold gf at B;refine an I fun a I=>?_;refine aK (J:=fun a w=>∃ (e:LN) (i:Value) (f:LV),St L No T 19 [(3,i)] [.own i 5 (aY.int .u8).size f] [au (aY.int .u8) f e] a w/\pd e=some y) ?_ ?_
 ·refine an I fun a I=>?_;replace I:=I.zn (aY.int .u8) 5 (by decide);obtain⟨t,n,hMo1⟩:=bd B;refine bz _ (fun s a w=>∃ (d:LN) (b:Int) (j:Value) (g:LV),(d,b)=s/\St L No T 19 [(0,.int .u64 c),(3,j),(4,am b)] [.own j 5 (aY.int .u8).size g] [au (aY.int .u8) g d] a w) n ⟨_,_,_,_,rfl,I.mt [0] [0]⟩ ?_;rintro s a w q ⟨d,b,j,g,rfl,I⟩ B hf1;have B:fE c d b=some q:=B;unfold fE at B;refine ax ?_;refine an I fun a I=>?_;rcases cd B with⟨k,B⟩|⟨k,B⟩
  ·refine an I fun a I=>?_;refine ax ?_;refine an I fun a I=>?_;obtain⟨l,B⟩:=a6 B;refine qy I (xz I rfl rfl l) fun a I=>?_;refine an I fun a I=>?_;refine wl rfl (bq (ps:=[(0,.tmp 14)]) I Bg Vt (zl:=[.int .u8 0]) (by kernel_rfl) rfl (us:=[[.int .u8 (IntKind.u8.wrap (cS .u64 c (IntKind.u64.wrap b)))]]) ⟨rfl,trivial⟩ (ws:=[.int .u8 (IntKind.u8.wrap (cS .u64 c (IntKind.u64.wrap b)))]) rfl rfl rfl rfl fun o a w O I=>?_);replace I:=(I.lit (R:=(aY.int .u8)) (us:=[.int .u8 (IntKind.u8.wrap (cS .u64 c (IntKind.u64.wrap b)))]) (xs:=[IntKind.u8.wrap (cS .u64 c (IntKind.u64.wrap b))]) 0 rfl (by decide) (aN (R:=(aY.int .u8)) (x:=IntKind.u8.wrap (cS .u64 c (IntKind.u64.wrap b))) rfl) rfl rfl).zf (R:=(aY.int .u8)) 0 rfl 0 rfl;obtain⟨m,B⟩:=a6 B;refine wl rfl (cr (R:=(aY.int .u8)) (xs:=d) (ys:=[IntKind.u8.wrap (cS .u64 c (IntKind.u64.wrap b))]) I Bg (by decide) (by decide) rfl rfl 0 rfl 2 rfl 0 rfl m rfl fun r p a w O I=>?_);exact fz
  exact fz
 rintro a w ⟨e,i,f,I,B⟩;unfold pd at B;refine an I fun a I=>?_;refine qy I (Gj I rfl Tryz.underlying156 Tryz.underlying5 Tryz.underlying9 0 rfl 0 rfl (fun _ _ h=>h)) fun a I=>?_;exact fz
def jG (c:Int):Option ByteArray:=(gf (IntKind.u64.wrap c)).bind fun b=>some (b)
theorem so (b:Int) (y:ByteArray) (B:jG b=some y):bm aO No 148 [am b] L (fun v w'=>v=bc y):=by
 refine en Tryz.func148 Tryz.ntmps148 hT fun a I=>?_;unfold jG at B;refine an I fun a I=>?_;obtain⟨d,c,B⟩:=bd B;refine kE I JM (qB _ _ I.dlt (IntKind.u64.wrap b) _ c) fun w a I=>?_;exact fz
def pX (b:ByteArray):Option ByteArray:=(gf (IntKind.u64.wrap (b.size:Int))).bind fun c=>gd (Nat.ble (c.size+b.size) 140737488355328) <| some ((c++b))
theorem Bq (b y:ByteArray) (B:pX b=some y):bm aO No 151 [bc b] L (fun v w'=>v=bc y):=by
 refine en Tryz.func151 Tryz.ntmps151 hT fun a I=>?_;unfold pX at B;refine an I fun a I=>?_;obtain⟨e,c,B⟩:=bd B;refine kF I JM (qB _ _ I.dlt (IntKind.u64.wrap (b.size:Int)) _ c) fun w a I=>?_;obtain⟨d,B⟩:=a6 B;refine qy I (wA I rfl rfl (fw d)) fun a I=>?_;exact fz
def pW (d:ae):Option ByteArray:=(jG d.k).bind fun b=>(pX d.x).bind fun c=>gd (Nat.ble (b.size+c.size) 140737488355328) <| some ((b++c))
theorem Bp (b:ae) (y:ByteArray) (B:pW b=some y):bm aO No 149 [.agg (bn b).toArray] L (fun v w'=>v=bc y):=by
 refine en Tryz.func149 Tryz.ntmps149 hT fun a I=>?_;unfold pW at B;refine kB I fun h i a w O I=>?_;refine an I fun a I=>?_;refine ax ?_;refine dr [] I fun w hQ I=>?_;refine gE [0,1,3,4] I fun a I=>?_;obtain⟨f,c,B⟩:=bd B;refine ec 2 I G0 (so _ _ I.dlt b.k _ c) fun _ w C a O U=>?_;obtain rfl:=C;have I:=fA U;obtain⟨g,d,B⟩:=bd B;refine ec 5 I PQ (Bq _ _ I.dlt b.x _ d) fun _ w C a O U=>?_;obtain rfl:=C;have I:=fA U;obtain⟨e,B⟩:=a6 B;refine dq 6 I (v:=bc (f++g)) (wA I rfl rfl (fw e)) fun a I=>?_;refine gE [7] I fun a I=>?_;refine eD ?_;exact fz
def lw (d:aE):Option ByteArray:=(gf (IntKind.u64.wrap d.o)).bind fun b=>(gf d.p).bind fun c=>gd (Nat.ble (b.size+c.size) 140737488355328) <| some ((b++c))
theorem yo (b:aE) (y:ByteArray) (B:lw b=some y):bm aO No 150 [.agg (oZ b).toArray] L (fun v w'=>v=bc y):=by
 refine en Tryz.func150 Tryz.ntmps150 hT fun a I=>?_;unfold lw at B;refine kB I fun h i a w O I=>?_;refine an I fun a I=>?_;refine ax ?_;refine dr [] I fun w hQ I=>?_;refine gE [0,1,2,4,5] I fun a I=>?_;obtain⟨f,c,B⟩:=bd B;refine ec 3 I JM (qB _ _ I.dlt (IntKind.u64.wrap b.o) _ c) fun _ w C a O U=>?_;obtain rfl:=C;have I:=fA U;obtain⟨g,d,B⟩:=bd B;refine ec 6 I JM (qB _ _ I.dlt b.p _ d) fun _ w C a O U=>?_;obtain rfl:=C;have I:=fA U;obtain⟨e,B⟩:=a6 B;refine dq 7 I (v:=bc (f++g)) (wA I rfl rfl (fw e)) fun a I=>?_;refine gE [8] I fun a I=>?_;refine eD ?_;exact fz
def pu (b:ByteArray):Option ByteArray:=(ve b).bind fun d=>(lw d).bind fun c=>gd (Nat.ble (b.size+c.size) 140737488355328) <| some ((b++c))
theorem F9 (b y:ByteArray) (B:pu b=some y):bm aO No 152 [bc b] L (fun v w'=>v=bc y):=by
 refine en Tryz.func152 Tryz.ntmps152 hT fun a I=>?_;unfold pu at B;refine an I fun a I=>?_;obtain⟨f,c,B⟩:=bd B;refine kE I SY (C2 _ _ I.dlt b _ c) fun w a I=>?_;obtain⟨g,d,B⟩:=bd B;refine kE I PP (yo _ _ I.dlt f _ d) fun w a I=>?_;obtain⟨e,B⟩:=a6 B;refine qy I (wA I rfl rfl (fw e)) fun a I=>?_;exact fz
def eN (b:ByteArray):Option ByteArray:=(pu b).bind fun c=>some (c)
def jg (b:Int) (c:ByteArray):Option (Fl (ByteArray×Int) (Fl (ByteArray) ByteArray)):=some (.go (c,IntKind.i64.wrap (b+1)))
def jh (f:Int) (d:ac) (e:ByteArray):Option (Fl (ByteArray×Int) (Fl (ByteArray) ByteArray)):=(pX d.t).bind fun b=>(jG d.a).bind fun c=>gd (Nat.ble (b.size+c.size) 140737488355328) <| gd (Nat.ble (e.size+(b++c).size) 140737488355328) <| jg f (e++(b++c))
def dN (g:ac) (d:ByteArray) (c:Int):Option (Fl (ByteArray×Int) (ByteArray)):=cond (decide (c<(g.v.length:Int))) ((bp g.v c).bind fun i=>(pW i.b).bind fun e=>(lw i.h).bind fun f=>gd (Nat.ble (e.size+f.size) 140737488355328) <| gd (Nat.ble (d.size+(e++f).size) 140737488355328) <| some (.go ((d++(e++f)),IntKind.i64.wrap (c+1)))) (some (.out d))
def cK (h:(List ac)) (e:ByteArray) (d:Int):Option (Fl (ByteArray×Int) (Fl (ByteArray) ByteArray)):=cond (decide (d<(h.length:Int))) ((bp h d).bind fun c=>(da c).bind fun i=>cond (!(i)) (some (.out (.out cu))) ((pW c.b).bind fun f=>(jG (c.v.length:Int)).bind fun g=>gd (Nat.ble (f.size+g.size) 140737488355328) <| gd (Nat.ble (e.size+(f++g).size) 140737488355328) <| (loop (fun s:ByteArray×Int=>dN c s.1 s.2) ((e++(f++g)),0)).bind fun r=>jh d c r)) (some (.out (.go e)))
def db (b:(List ac)):Option ByteArray:=cond (decide ((4000:Int)<(b.length:Int))) (some (cu)) ((jG 12).bind fun c=>(jG (b.length:Int)).bind fun d=>gd (Nat.ble (c.size+d.size) 140737488355328) <| (loop (fun s:ByteArray×Int=>cK b s.1 s.2) ((c++d),0)).bind fun r=>Fl.el r (fun s=>eN s) (fun y=>some (y)))
theorem gI (e:(List ac)) (j:Value) (b0:aQ ai T L j e) (y:ByteArray) (B:db e=some y):bm aO No 106 [j] L (fun v w'=>v=bc y):=by
 refine en Tryz.func106 Tryz.ntmps106 hT fun a I=>?_;replace I:=I.fS (aQ.dn b0);unfold db at B;refine an I fun a I=>?_;refine ax ?_;refine an I fun a I=>?_;rcases cd B with⟨Y,B⟩|⟨Y,B⟩
 ·exact fz
 refine an I fun a I=>?_;obtain⟨bl,S,B⟩:=bd B;refine kF I G0 (so _ _ I.dlt 12 _ S) fun w a I=>?_;obtain⟨bs,V,B⟩:=bd B;refine kE I G0 (so _ _ I.dlt (e.length:Int) _ V) fun w a I=>?_;obtain⟨Z,B⟩:=a6 B;refine qy I (wA I rfl rfl (fw Z)) fun a I=>?_;refine an I fun a I=>?_;refine aK (J:=fun a w=>∃ (m:ByteArray),St L No T 64 [(3,bc m)] [] [] a w/\eN m=some y) ?_ ?_
 ·refine an I fun a I=>?_;obtain⟨r1,ao,hMo1⟩:=bd B;refine bz _ (fun s a w=>∃ (g:ByteArray) (d:Int),(g,d)=s/\St L No T 64 [(3,bc g),(16,j),(17,am (e.length:Int)),(18,am d)] [] [aT ai j e] a w) ao ⟨_,_,rfl,I.mt [] [0]⟩ ?_;rintro s a w X ⟨g,d,rfl,I⟩ B hf1;have B:cK e g d=some X:=B;unfold cK at B;refine an I fun a I=>?_;refine ax ?_;rcases cd B with⟨a0,B⟩|⟨a0,B⟩
  ·refine an I fun a I=>?_;refine aK (J:=fun a w=>∃ (o:ByteArray),St L No T 64 [(3,bc o),(16,j),(17,am (e.length:Int)),(18,am d)] [] [aT ai j e] a w/\jg d o=some X) ?_ ?_
   ·refine an I fun a I=>?_;obtain⟨c,D,B⟩:=bd B;refine wl rfl (bv (R:=ai) I wJ s7 rfl rfl 0 rfl D rfl fun b1 b9 b4 a1 a I=>?_);obtain⟨i,rfl,W⟩:=a1;replace I:=I.fS W;refine kA I rH fun k b7 a w O I=>?_;refine go I fun a w I=>?_;refine ax ?_;refine an I fun a I=>?_;obtain⟨bi,N,B⟩:=bd B;refine kF I S4 (qY _ _ I.dlt c _ I.g0 _ N) fun w a I=>?_;rcases cd B with⟨a2,B⟩|⟨a2,B⟩
    ·exact fz
    refine an I fun a I=>?_;refine ax ?_;refine dr [] I fun w hQ I=>?_;refine gE [0,1,2,4,5,6] I fun a I=>?_;obtain⟨z,P,B⟩:=bd B;refine ec 3 I PO (Bp _ _ I.dlt c.b _ P) fun _ w C a O U=>?_;obtain rfl:=C;have I:=fA U;obtain⟨A,Q,B⟩:=bd B;refine ec 7 I G0 (so _ _ I.dlt (c.v.length:Int) _ Q) fun _ w C a O U=>?_;obtain rfl:=C;have I:=fA U;obtain⟨a3,B⟩:=a6 B;refine dq 8 I (v:=bc (z++A)) (wA I rfl rfl (fw a3)) fun a I=>?_;obtain⟨a4,B⟩:=a6 B;refine dq 9 I (v:=bc (g++(z++A))) (wA I rfl rfl (fw a4)) fun a I=>?_;refine gE [10] I fun a I=>?_;refine eD ?_;refine an I fun a I=>?_;refine aK (J:=fun a w=>∃ (n:ByteArray),St L No T 64 [(3,bc n),(5,pt k 0),(16,j),(17,am (e.length:Int)),(18,am d)] [.box k (aZ c i) 30] [aT ai j e,aT a8 i c.v] a w/\jh d c n=some X) ?_ ?_
    ·refine an I fun a I=>?_;obtain⟨r2,av,hMo2⟩:=bd B;refine bz _ (fun s a w=>∃ (f:ByteArray) (l:Int),(f,l)=s/\St L No T 64 [(3,bc f),(5,pt k 0),(16,j),(17,am (e.length:Int)),(18,am d),(36,i),(37,am (c.v.length:Int)),(38,am l)] [.box k (aZ c i) 30] [aT ai j e,aT a8 i c.v] a w) av ⟨_,_,rfl,I.mt [0] [2,0]⟩ ?_;rintro s a w f2 ⟨f,l,rfl,I⟩ B hf2;have B:dN c f l=some f2:=B;unfold dN at B;refine an I fun a I=>?_;refine ax ?_;rcases cd B with⟨a5,B⟩|⟨a5,B⟩
     ·refine an I fun a I=>?_;refine ax ?_;refine an I fun a I=>?_;obtain⟨p,E,B⟩:=bd B;refine wl rfl (bv (R:=a8) I Ej Gf rfl rfl 1 rfl E rfl fun b2 bb b5 a9 a I=>?_);obtain rfl:=a9;refine kA I Ep fun b3 b8 a w O I=>?_;refine go I fun a w I=>?_;refine dr [] I fun w hQ I=>?_;refine gE [0,1,2,4,5] I fun a I=>?_;obtain⟨u,K,B⟩:=bd B;refine ec 3 I PO (Bp _ _ I.dlt p.b _ K) fun _ w C a O U=>?_;obtain rfl:=C;have I:=fA U;obtain⟨x,M,B⟩:=bd B;refine ec 6 I PP (yo _ _ I.dlt p.h _ M) fun _ w C a O U=>?_;obtain rfl:=C;have I:=fA U;obtain⟨ab,B⟩:=a6 B;refine dq 7 I (v:=bc (u++x)) (wA I rfl rfl (fw ab)) fun a I=>?_;obtain⟨af,B⟩:=a6 B;refine dq 8 I (v:=bc (f++(u++x))) (wA I rfl rfl (fw af)) fun a I=>?_;refine gE [9] I fun a I=>?_;refine eD ?_;exact fz
     exact fz
    rintro a w ⟨n,I,B⟩;unfold jh at B;refine dr [] I fun w hQ I=>?_;refine gE [0,1,2,4,5] I fun a I=>?_;obtain⟨q,G,B⟩:=bd B;refine ec 3 I PQ (Bq _ _ I.dlt c.t _ G) fun _ w C a O U=>?_;obtain rfl:=C;have I:=fA U;obtain⟨r,H,B⟩:=bd B;refine ec 6 I G0 (so _ _ I.dlt c.a _ H) fun _ w C a O U=>?_;obtain rfl:=C;have I:=fA U;obtain⟨ag,B⟩:=a6 B;refine dq 7 I (v:=bc (q++r)) (wA I rfl rfl (fw ag)) fun a I=>?_;obtain⟨ak,B⟩:=a6 B;refine dq 8 I (v:=bc (n++(q++r))) (wA I rfl rfl (fw ak)) fun a I=>?_;refine gE [9] I fun a I=>?_;refine eD ?_;exact fin
   rintro a w ⟨o,I,B⟩;unfold jg at B;exact fz
  exact fz
 rintro a w ⟨m,I,B⟩;unfold eN at B;refine an I fun a I=>?_;obtain⟨bg,F,B⟩:=bd B;refine kE I So (F9 _ _ I.dlt m _ F) fun w a I=>?_;exact fz
def vV (b:Int):Option Int:=some (b)
def tg (d e:ac):Option Int:=(mj d.b e.b).bind fun c=>cond (c != 0) (some (c)) ((db ([d])).bind fun f=>(db ([e])).bind fun g=>(pE f g).bind fun h=>vV h)
theorem Br (hLv:dC T L) (d c:ac) (k h:Value) (u:aQ a8 T L k d.v) (z:aQ a8 T L h c.v) (y:Int) (B:tg d c=some y):bm aO No 55 [.agg (aZ d k).toArray,.agg (aZ c h).toArray] L (fun v w'=>v=am y):=by
 refine en Tryz.func55 Tryz.ntmps55 hT fun a I=>?_;replace I:=((I.fact bK (dC.dn hLv)).fS (aQ.dn u)).fS (aQ.dn z);unfold tg at B;refine kB I fun A H a w O I=>?_;refine kb I fun D K a w O I=>?_;refine an I fun a I=>?_;refine ax ?_;refine an I fun a I=>?_;obtain⟨M,p,B⟩:=bd B;refine kF I KM (pN _ _ I.dlt I.g2 d.b c.b _ p) fun w a I=>?_;rcases cd B with⟨s,B⟩|⟨s,B⟩
 ·exact fz
 refine an I fun a I=>?_;refine aK (J:=fun a w=>∃ (l:Int),St L No T 21 [(4,am l)] [] [bK] a w/\vV l=some y) ?_ ?_
 ·refine dr [] I fun w hQ I=>?_;refine gE [0,3] I fun a I=>?_;refine gO (i:=1) (j:=4) rfl rfl (by kernel_rfl) rfl rfl ?_ ?_
  ·skip;refine id (bq (ps:=[(0,.tmp 14)]) I qW rH (zl:=[am 0,bc cu,.slice none 0 0,bc cu,am 0]) (by kernel_rfl) rfl (us:=[(aZ d k)]) ⟨rfl,trivial⟩ (ws:=(aZ d k)) rfl rfl rfl rfl fun r a w O I=>⟨jx (O),?_⟩);replace I:=I.lit (R:=ai) (us:=(aZ d k)) (xs:=[d]) 0 rfl (by decide) (aN (R:=ai) (x:=d) (⟨_,rfl,I.g1⟩)) rfl rfl;have hL:=I;replace hL:=hL.zf (R:=ai) 0 rfl 0 rfl;obtain⟨n,m,B⟩:=bd B;refine gO (i:=2) (j:=4) rfl rfl (by kernel_rfl) rfl rfl ?_ ?_
   ·skip;have hL:=I;replace hL:=hL.zf (R:=ai) 0 rfl 0 rfl;refine id (bT I Ev rfl rfl (gI _ _ hL.dlt ([d]) _ hL.g0 _ m) fun _ w C a O U=>⟨jx (O),?_⟩);obtain rfl:=C;have I:=fA U;refine e1 4 (bq (ps:=[(0,.tmp 17)]) I qW rH (zl:=[am 0,bc cu,.slice none 0 0,bc cu,am 0]) (by kernel_rfl) rfl (us:=[(aZ c h)]) ⟨rfl,trivial⟩ (ws:=(aZ c h)) rfl rfl rfl rfl fun E a w O I=>⟨jx (O),?_⟩);replace I:=I.lit (R:=ai) (us:=(aZ c h)) (xs:=[c]) 0 rfl (by decide) (aN (R:=ai) (x:=c) (⟨_,rfl,I.g1⟩)) rfl rfl;have hL:=I;replace hL:=hL.zf (R:=ai) 0 rfl 0 rfl;obtain⟨g,e,B⟩:=bd B;refine ec 5 I Ev (gI _ _ hL.dlt ([c]) _ hL.g0 _ e) fun _ w C a O U=>?_;obtain rfl:=C;have I:=fA U;obtain⟨o,f,B⟩:=bd B;refine ec 6 I KN (pF _ _ I.dlt I.g4 n g _ f) fun _ w C a O U=>?_;obtain rfl:=C;have I:=fA U;refine gE [7] I fun a I=>?_;refine eD ?_;exact fin
   skip;refine id (bq (ps:=[(0,.tmp 17)]) I qW rH (zl:=[am 0,bc cu,.slice none 0 0,bc cu,am 0]) (by kernel_rfl) rfl (us:=[(aZ c h)]) ⟨rfl,trivial⟩ (ws:=(aZ c h)) rfl rfl rfl rfl fun F a w O I=>⟨jx (O),?_⟩);have hL:=I;replace hL:=hL.zf (R:=ai) 1 rfl 0 rfl;refine ec 2 I Ev (gI _ _ hL.dlt ([d]) _ hL.g0 _ m) fun _ w C a O U=>?_;obtain rfl:=C;have I:=fA U;replace I:=I.lit (R:=ai) (us:=(aZ c h)) (xs:=[c]) 0 rfl (by decide) (aN (R:=ai) (x:=c) (⟨_,rfl,I.g1⟩)) rfl rfl;have hL:=I;replace hL:=hL.zf (R:=ai) 0 rfl 0 rfl;obtain⟨g,e,B⟩:=bd B;refine ec 5 I Ev (gI _ _ hL.dlt ([c]) _ hL.g0 _ e) fun _ w C a O U=>?_;obtain rfl:=C;have I:=fA U;obtain⟨o,f,B⟩:=bd B;refine ec 6 I KN (pF _ _ I.dlt I.g4 n g _ f) fun _ w C a O U=>?_;obtain rfl:=C;have I:=fA U;refine gE [7] I fun a I=>?_;refine eD ?_;exact fin
  skip;refine id (bq (ps:=[(0,.tmp 17)]) I qW rH (zl:=[am 0,bc cu,.slice none 0 0,bc cu,am 0]) (by kernel_rfl) rfl (us:=[(aZ c h)]) ⟨rfl,trivial⟩ (ws:=(aZ c h)) rfl rfl rfl rfl fun r a w O I=>⟨jx (O),?_⟩);refine e1 1 (bq (ps:=[(0,.tmp 14)]) I qW rH (zl:=[am 0,bc cu,.slice none 0 0,bc cu,am 0]) (by kernel_rfl) rfl (us:=[(aZ d k)]) ⟨rfl,trivial⟩ (ws:=(aZ d k)) rfl rfl rfl rfl fun G a w O I=>⟨jx (O),?_⟩);replace I:=I.lit (R:=ai) (us:=(aZ d k)) (xs:=[d]) 0 rfl (by decide) (aN (R:=ai) (x:=d) (⟨_,rfl,I.g1⟩)) rfl rfl;have hL:=I;replace hL:=hL.zf (R:=ai) 0 rfl 0 rfl;obtain⟨t,q,B⟩:=bd B;refine ec 2 I Ev (gI _ _ hL.dlt ([d]) _ hL.g0 _ q) fun _ w C a O U=>?_;obtain rfl:=C;have I:=fA U;replace I:=I.lit (R:=ai) (us:=(aZ c h)) (xs:=[c]) 1 rfl (by decide) (aN (R:=ai) (x:=c) (⟨_,rfl,I.g1⟩)) rfl rfl;have hL:=I;replace hL:=hL.zf (R:=ai) 1 rfl 0 rfl;obtain⟨g,e,B⟩:=bd B;refine ec 5 I Ev (gI _ _ hL.dlt ([c]) _ hL.g0 _ e) fun _ w C a O U=>?_;obtain rfl:=C;have I:=fA U;obtain⟨o,f,B⟩:=bd B;refine ec 6 I KN (pF _ _ I.dlt I.g4 t g _ f) fun _ w C a O U=>?_;obtain rfl:=C;have I:=fA U;refine gE [7] I fun a I=>?_;refine eD ?_;exact fin
 rintro a w ⟨l,I,B⟩;unfold vV at B;exact fz
def lK (b:(List ac)):Option (List ac):=some (b)
def d5 (f e:(List ac)) (d:Int):Option (Fl ((List ac)×Int) ((List ac))):=cond (decide (d<(f.length:Int))) ((bp f d).bind fun c=>gd (cm (([]:List bM).length+c.v.length)) <| gd (cm (e.length+([(ac.mk c.b (([]:List bM)++c.v) c.t c.a)]).length)) <| some (.go ((e++([(ac.mk c.b (([]:List bM)++c.v) c.t c.a)])),IntKind.i64.wrap (d+1)))) (some (.out e))
def io (b:(List ac)):Option (List ac):=(loop (fun s:(List ac)×Int=>d5 b s.1 s.2) (([]:List ac),0)).bind fun r=>lK r
theorem wI (h:(List ac)) (p:Value) (E:aQ ai T L p h) (y:(List ac)) (B:io h=some y):bm aO No 56 [p] L (fun v w'=>∃ (A:Value) (eK:bG),v=A/\jy ai T L w' [bu A eK] 30 A eK y):=by
 refine en Tryz.func56 Tryz.ntmps56 hT fun a I=>?_;replace I:=I.fS (aQ.dn E);unfold io at B;refine an I fun a I=>?_;refine aK (J:=fun a w=>∃ (k:(List ac)) (g:Value) (e:LV),St L No T 22 [(3,g)] [bu g e] [au ai e k] a w/\lK k=some y) ?_ ?_
 ·refine an I fun a I=>?_;replace I:=I.zn ai 30 (by decide);obtain⟨X,D,hMo1⟩:=bd B;refine bz _ (fun s a w=>∃ (d:(List ac)) (f:Int) (l:Value) (j:LV),(d,f)=s/\St L No T 22 [(3,l),(6,p),(7,am (h.length:Int)),(8,am f)] [bu l j] [au ai j d,aT ai p h] a w) D ⟨_,_,_,_,rfl,I.mt [0] [0,1]⟩ ?_;rintro s a w P ⟨d,f,l,j,rfl,I⟩ B hf1;have B:d5 h d f=some P:=B;unfold d5 at B;refine an I fun a I=>?_;refine ax ?_;rcases cd B with⟨q,B⟩|⟨q,B⟩
  ·refine an I fun a I=>?_;refine ax ?_;refine an I fun a I=>?_;obtain⟨c,n,B⟩:=bd B;refine wl rfl (bv (R:=ai) I wJ s7 rfl rfl 1 rfl n rfl fun F S K r a I=>?_);obtain⟨V,rfl,o⟩:=r;replace I:=I.fS o;refine kA I rH fun G Q a w O I=>?_;refine go I fun a w I=>?_;replace I:=I.zn a8 49 (by decide);obtain⟨u,B⟩:=a6 B;refine wl rfl (cr (R:=a8) (xs:=([]:List bM)) (ys:=c.v) I I0 (by decide) (by decide) rfl rfl 0 rfl 0 rfl 1 rfl u rfl fun m M a w O I=>?_);refine go I fun a w I=>?_;refine wl rfl (bq (ps:=[(0,.tmp 17)]) I qW rH (zl:=[am 0,bc cu,.slice none 0 0,bc cu,am 0]) (by kernel_rfl) rfl (us:=[(aZ c m)]) ⟨rfl,trivial⟩ (ws:=(aZ c m)) rfl rfl rfl rfl fun H a w O I=>?_);replace I:=I.zf (R:=a8) 1 rfl 0 rfl;replace I:=(I.lit (R:=ai) (us:=(aZ c m)) (xs:=[(ac.mk c.b (([]:List bM)++c.v) c.t c.a)]) 0 rfl (by decide) (aN (R:=ai) (x:=(ac.mk c.b (([]:List bM)++c.v) c.t c.a)) (⟨_,rfl,I.g0⟩)) rfl rfl).zf (R:=ai) 0 rfl 0 rfl;obtain⟨z,B⟩:=a6 B;refine wl rfl (cr (R:=ai) (xs:=d) (ys:=[(ac.mk c.b (([]:List bM)++c.v) c.t c.a)]) I qW (by decide) (by decide) rfl rfl 1 rfl 7 rfl 0 rfl z rfl fun W N a w O I=>?_);exact fz
  exact fz
 rintro a w ⟨k,g,e,I,B⟩;unfold lK at B;refine an I fun a I=>?_;cases B
 refine aG I rfl (aF I rfl aH) ?_;exact⟨g,e,rfl,I.zo ⟨.inr (az (i:=0) rfl),trivial⟩ 0 rfl 0 rfl⟩
def qH (b:(List ac)):Option ((List ac)×Int):=cond (decide ((4000:Int)<(b.length:Int))) (some (([],45))) ((io b).bind fun c=>some ((c,0)))
def nx (b:Int) (c:(List ac)):Option (Fl ((List ac)×Int) ((List ac))):=some (.go (c,IntKind.i64.wrap (b+1)))
def lg (c:(List ac)) (e:Int) (d:ac) (f:Int) (h:Bool):Option (Fl ((List ac)×Int) ((List ac))):=cond h ((sH c 0 f).bind fun b=>(sH c f c.length).bind fun g=>gd (cm (([]:List ac).length+b.length)) <| gd (cm ((([]:List ac)++b).length+([d]).length)) <| gd (cm (((([]:List ac)++b)++([d])).length+g.length)) <| nx e (((([]:List ac)++b)++([d]))++g)) (nx e c)
def qI (c:(List ac)) (e:Int) (d:ac) (b:Int):Option (Fl ((List ac)×Int) ((List ac))):=cond (b==(c.length:Int)) (lg c e d b true) ((bp c b).bind fun f=>(tg f d).bind fun g=>lg c e d b (g != 0))
def qJ (c:(List ac)) (d:ac) (b:Int):Option (Fl (Int) (Int)):=cond (decide (b<(c.length:Int))) ((bp c b).bind fun e=>(tg e d).bind fun f=>cond (decide (f<0)) (some (.go (IntKind.i64.wrap (b+1)))) (some (.out b))) (some (.out b))
def qK (e f c:(List ac)) (b:Int):Option (Fl ((List ac)×Int) ((List ac))):=cond (decide (b<(((([]:List ac)++e)++f).length:Int))) ((bp ((([]:List ac)++e)++f) b).bind fun d=>(loop (fun s:Int=>qJ c d s) 0).bind fun r=>qI c b d r) (some (.out c))
def ny (b c:(List ac)):Option ((List ac)×Int):=gd (cm (([]:List ac).length+b.length)) <| gd (cm ((([]:List ac)++b).length+c.length)) <| (loop (fun s:(List ac)×Int=>qK b c s.1 s.2) (([]:List ac),0)).bind fun r=>qH r
def nz (c d:(List ac)) (b:Int):Option (Fl (Int) (Fl (Unit) ((List ac)×Int))):=cond (decide (b<(((([]:List ac)++c)++d).length:Int))) ((bp ((([]:List ac)++c)++d) b).bind fun e=>(da e).bind fun f=>cond (!(f)) (some (.out (.out ([],5)))) (some (.go (IntKind.i64.wrap (b+1))))) (some (.out (.go ())))
def sr (b c:(List ac)):Option ((List ac)×Int):=gd (cm (([]:List ac).length+b.length)) <| gd (cm ((([]:List ac)++b).length+c.length)) <| (loop (fun s:Int=>nz b c s) 0).bind fun r=>Fl.el r (fun s=>ny b c) (fun y=>some (y))
theorem Ed (hLv:dC T L) (c d:(List ac)) (X Y:Value) (ei:aQ ai T L X c) (ek:aQ ai T L Y d) (y:(List ac)×Int) (B:sr c d=some y):bm aO No 20 [X,Y] L (fun v w'=>∃ (v3:Value) (rJ:bG),v = .tuple #[v3,am y.2]/\jy ai T L w' [bu v3 rJ] 30 v3 rJ y.1):=by
 refine en Tryz.func20 Tryz.ntmps20 hT fun a I=>?_;replace I:=((I.fact bK (dC.dn hLv)).fS (aQ.dn ei)).fS (aQ.dn ek);unfold sr at B;refine an I fun a I=>?_;refine aK (J:=fun a w=>St L No T 79 [(0,X),(1,Y),(6,.slice none 0 0)] [] [aT ai X c,aT ai Y d,bK] a w/\ny c d=some y) ?_ ?_
 ·refine an I fun a I=>?_;replace I:=I.zn ai 30 (by decide);obtain⟨c1,B⟩:=a6 B;refine wl rfl (cr (R:=ai) (xs:=([]:List ac)) (ys:=c) I qW (by decide) (by decide) rfl rfl 0 rfl 0 rfl 2 rfl c1 rfl fun gu ey a w O I=>?_);refine an I fun a I=>?_;obtain⟨c2,B⟩:=a6 B;refine wl rfl (cr (R:=ai) (xs:=(([]:List ac)++c)) (ys:=d) I qW (by decide) (by decide) rfl rfl 0 rfl 0 rfl 2 rfl c2 rfl fun ab Z a w O I=>?_);refine an I fun a I=>?_;obtain⟨r1,a5,hMo1⟩:=bd B;refine bz _ (fun s a w=>∃ (u:Int),u=s/\St L No T 79 [(0,X),(1,Y),(6,.slice none 0 0),(15,ab),(16,am (((([]:List ac)++c)++d).length:Int)),(17,am u)] [bu ab Z] [aT ai X c,aT ai Y d,au ai Z ((([]:List ac)++c)++d),bK] a w) a5 ⟨_,rfl,I.mt [0] [4,3,0,5]⟩ ?_;rintro s a w W ⟨u,rfl,I⟩ B hf1;have B:nz c d u=some W:=B;unfold nz at B;refine an I fun a I=>?_;refine ax ?_;rcases cd B with⟨c3,B⟩|⟨c3,B⟩
  ·refine an I fun a I=>?_;refine ax ?_;refine an I fun a I=>?_;obtain⟨a0,b0,B⟩:=bd B;refine wl rfl (dK (R:=ai) I wJ s7 rfl rfl 0 rfl 2 rfl b0 rfl fun el fs fM eT c4 c5 c9 a I=>?_);obtain⟨e5,rfl,b7⟩:=c4;replace I:=I.fS b7;refine qy I (bY (k:=0) I s7 0 rfl c5 c9 rfl id (us:=(aZ a0 e5)) rfl rfl (fun h=>by cases h)) fun a I=>?_;refine ka I rH fun eq fn a w O I=>?_;refine go I fun a w I=>?_;obtain⟨gs,b6,B⟩:=bd B;refine kF I S4 (qY _ _ I.dlt a0 _ I.g0 _ b6) fun w a I=>?_;rcases cd B with⟨ca,B⟩|⟨ca,B⟩
   ·refine an I fun a I=>?_;cases B
    have hr:=hf1 _ rfl;subst hr;replace hMo1:=jX hMo1;have B:=hMo1;cases B
    refine aG I Tryz.results20 (aF I rfl (aF I rfl aH)) ?_;exact⟨.slice none 0 0,[],rfl,kv _ _ _ _ _ _⟩
   exact fz
  exact fz
 rintro a w ⟨I,B⟩;unfold ny at B;refine aK (J:=fun a w=>∃ (E:(List ac)) (S:Value) (F:LV),St L No T 79 [(6,S)] [bu S F] [au ai F E,bK] a w/\qH E=some y) ?_ ?_
 ·refine an I fun a I=>?_;replace I:=I.zn ai 30 (by decide);obtain⟨cb,B⟩:=a6 B;refine wl rfl (cr (R:=ai) (xs:=([]:List ac)) (ys:=c) I qW (by decide) (by decide) rfl rfl 0 rfl 0 rfl 1 rfl cb rfl fun gx eX a w O I=>?_);refine an I fun a I=>?_;obtain⟨cf,B⟩:=a6 B;refine wl rfl (cr (R:=ai) (xs:=(([]:List ac)++c)) (ys:=d) I qW (by decide) (by decide) rfl rfl 0 rfl 0 rfl 3 rfl cf rfl fun n g a w O I=>?_);refine an I fun a I=>?_;replace I:=I.zn ai 30 (by decide);obtain⟨r1,a5,hMo1⟩:=bd B;refine bz _ (fun s a w=>∃ (m:(List ac)) (f:Int) (p:Value) (o:LV),(m,f)=s/\St L No T 79 [(6,p),(28,n),(29,am (((([]:List ac)++c)++d).length:Int)),(30,am f)] [bu p o,bu n g] [au ai o m,au ai g ((([]:List ac)++c)++d),bK] a w) a5 ⟨_,_,_,_,rfl,I.mt [0,1] [0,1,6]⟩ ?_;rintro s a w W ⟨m,f,p,o,rfl,I⟩ B hf1;have B:qK c d m f=some W:=B;unfold qK at B;refine an I fun a I=>?_;refine ax ?_;rcases cd B with⟨ch,B⟩|⟨ch,B⟩
  ·refine an I fun a I=>?_;refine aK (J:=fun a w=>∃ (Q:(List ac)) (V:Value) (G:LV),St L No T 79 [(6,V),(28,n),(29,am (((([]:List ac)++c)++d).length:Int)),(30,am f)] [bu V G,bu n g] [au ai G Q,au ai g ((([]:List ac)++c)++d),bK] a w/\nx f Q=some W) ?_ ?_
   ·refine an I fun a I=>?_;obtain⟨b,ak,B⟩:=bd B;refine wl rfl (dK (R:=ai) I wJ s7 rfl rfl 1 rfl 1 rfl ak rfl fun er fu g1 f3 ck cs cv a I=>?_);obtain⟨e,rfl,b8⟩:=ck;replace I:=I.fS b8;refine qy I (bY (k:=0) I s7 1 rfl cs cv rfl id (us:=(aZ b e)) rfl rfl (fun h=>by cases h)) fun a I=>?_;refine ka I rH fun q fr a w O I=>?_;refine go I fun a w I=>?_;refine aK (J:=fun a w=>∃ (t:Int),St L No T 79 [(6,p),(10,pt q 0),(11,am t),(28,n),(29,am (((([]:List ac)++c)++d).length:Int)),(30,am f)] [bu p o,bu n g,.box q (aZ b e) 30] [au ai o m,au ai g ((([]:List ac)++c)++d),aT a8 e b.v,bK] a w/\qI m f b t=some W) ?_ ?_
    ·refine an I fun a I=>?_;obtain⟨r2,eg,hMo2⟩:=bd B;refine bz _ (fun s a w=>∃ (D:Int),D=s/\St L No T 79 [(6,p),(10,pt q 0),(11,am D),(28,n),(29,am (((([]:List ac)++c)++d).length:Int)),(30,am f)] [bu p o,bu n g,.box q (aZ b e) 30] [au ai o m,au ai g ((([]:List ac)++c)++d),aT a8 e b.v,bK] a w) eg ⟨_,rfl,I.mt [1,2,0] [1,2,0,3]⟩ ?_;rintro s a w f2 ⟨D,rfl,I⟩ B hf2;have B:qJ m b D=some f2:=B;unfold qJ at B;refine ax ?_;refine ax ?_;refine dr [] I fun w hQ I=>?_;refine gE [0,1,2,3,4] I fun a I=>?_;rcases cd B with⟨z,B⟩|⟨z,B⟩
     ·refine gE [5,6] I fun a I=>?_;obtain⟨K,av,B⟩:=bd B;obtain⟨bg,e3,g2,f4,d0,d1,d2,d3⟩:=cq (R:=ai) I wJ s7 0 rfl 0 rfl av;obtain⟨af,rfl,b9⟩:=d0;replace I:=I.fS b9;refine dg 7 I z (v:=pt bg e3) (d3 rfl rfl) fun a I=>?_;refine dg 8 I z (l:=[]) (v:=.agg (aZ K af).toArray) (bY (k:=0) I s7 0 rfl d1 d2 rfl cc (us:=(aZ K af)) rfl rfl (fun h=>by cases h)) fun a I=>?_;refine gE [9] I fun a I=>?_;obtain⟨gi,b5,B⟩:=bd B;refine dp (i:=10) rfl (by kernel_rfl) I rfl rfl rfl z (bT I S5 rfl rfl (Br _ _ I.dlt I.g4 K b _ _ I.g0 I.g3 _ b5) fun _ w C a O U=>⟨jx (O),?_⟩);obtain rfl:=C;have I:=fA U;refine gE [11,12] I fun a I=>?_;refine eD ?_;exact fz
     refine gE [5,6,7,8,9,10,11,12] I fun a I=>?_;refine eD ?_;exact fz
    rintro a w ⟨t,I,B⟩;unfold qI at B;refine aK (J:=fun a w=>∃ (M:Bool),St L No T 79 [(6,p),(10,pt q 0),(11,am t),(28,n),(29,am (((([]:List ac)++c)++d).length:Int)),(30,am f),(61,.bool M)] [bu p o,bu n g,.box q (aZ b e) 30] [au ai o m,au ai g ((([]:List ac)++c)++d),aT a8 e b.v,bK] a w/\lg m f b t M=some W) ?_ ?_
    ·refine dr [] I fun w hQ I=>?_;refine gE [0,1,2,3,4] I fun a I=>?_;rcases cd B with⟨A,B⟩|⟨A,B⟩
     ·refine gE [5,6,7,8,9,10,11,12] I fun a I=>?_;refine eD ?_;exact fin
     refine gE [5,6] I fun a I=>?_;obtain⟨H,ao,B⟩:=bd B;obtain⟨bi,e4,g7,f5,d4,d6,dc,dk⟩:=cq (R:=ai) I wJ s7 0 rfl 0 rfl ao;obtain⟨ag,rfl,bb⟩:=d4;replace I:=I.fS bb;refine dg 7 I A (v:=pt bi e4) (dk rfl rfl) fun a I=>?_;refine dg 8 I A (l:=[]) (v:=.agg (aZ H ag).toArray) (bY (k:=0) I s7 0 rfl d6 dc rfl cc (us:=(aZ H ag)) rfl rfl (fun h=>by cases h)) fun a I=>?_;refine gE [9] I fun a I=>?_;obtain⟨gb,b4,B⟩:=bd B;refine dp (i:=10) rfl (by kernel_rfl) I rfl rfl rfl A (bT I S5 rfl rfl (Br _ _ I.dlt I.g4 H b _ _ I.g0 I.g3 _ b4) fun _ w C a O U=>⟨jx (O),?_⟩);obtain rfl:=C;have I:=fA U;refine gE [11,12] I fun a I=>?_;refine eD ?_;exact fin
    rintro a w ⟨M,I,B⟩;unfold lg at B;rcases cd B with⟨dl,B⟩|⟨dl,B⟩
    ·refine an I fun a I=>?_;replace I:=I.zn ai 30 (by decide);refine dr [(3,.blk (Value.ownBlock (.slice none 0 0))),(6,.any),(10,.any)] I fun w hQ I=>?_;refine gE [0,1] I fun a I=>?_;obtain⟨r,b1,B⟩:=bd B;obtain⟨e6,a1,ds⟩:=FE (R:=ai) I wJ s7 1 rfl 1 rfl b1;refine dq 2 I (v:=e6) (ds (k1:=.i64) rfl (.inr ⟨rfl,rfl⟩) (.inl ⟨_,rfl,rfl⟩)) fun a I=>?_;refine dq 4 I (l:=[.blk (Value.ownBlock (.slice none 0 0))]) (v:=.agg (aZ b e).toArray) (ou I rfl s7 3 rfl (uf I 3 rfl rfl 0 rfl rfl (by decide) cc) (us:=(aZ b e)) rfl rfl (fun h=>by cases h)) fun a I=>?_;refine gE [7,8] I fun a I=>?_;obtain⟨a9,b2,B⟩:=bd B;obtain⟨e7,a2,e0⟩:=FE (R:=ai) I wJ s7 1 rfl 1 rfl b2;refine dq 9 I (v:=e7) (e0 (k2:=.i64) rfl (.inl ⟨_,rfl,rfl⟩) (.inr ⟨rfl,rfl⟩)) fun a I=>?_;obtain⟨a3,B⟩:=a6 B;refine gO (i:=3) (j:=5) rfl rfl (by kernel_rfl) rfl rfl ?_ ?_
     ·skip;replace I:=I.zf (R:=ai) 1 rfl 1 rfl;replace I:=I.fS (a1 _ _ I.g0);refine id (cr (R:=ai) (xs:=([]:List ac)) (ys:=r) I qW (by decide) (by decide) rfl rfl 0 rfl 2 rfl 0 rfl a3 rfl fun gy f6 a w O I=>⟨qU rfl O pH,?_⟩);refine e1 5 (bq (ps:=[(0,.tmp 66)]) I qW rH (zl:=[am 0,bc cu,.slice none 0 0,bc cu,am 0]) (by kernel_rfl) rfl (us:=[(aZ b e)]) ⟨rfl,trivial⟩ (ws:=(aZ b e)) rfl rfl rfl rfl fun et a w O I=>⟨jx (O),?_⟩);replace I:=(I.lit (R:=ai) (us:=(aZ b e)) (xs:=[b]) 0 rfl (by decide) (aN (R:=ai) (x:=b) (⟨_,rfl,I.g6⟩)) rfl rfl).zf (R:=ai) 0 rfl 0 rfl;obtain⟨N,B⟩:=a6 B;refine e1 6 (cr (R:=ai) (xs:=(([]:List ac)++r)) (ys:=[b]) I qW (by decide) (by decide) rfl rfl 0 rfl 2 rfl 0 rfl N rfl fun e8 bl a w O I=>⟨qU rfl O wZ,?_⟩);replace I:=I.fS (a2 _ _ I.g5);obtain⟨P,B⟩:=a6 B;refine e1 10 (cr (R:=ai) (xs:=((([]:List ac)++r)++([b]))) (ys:=a9) I qW (by decide) (by decide) rfl rfl 0 rfl 1 rfl 0 rfl P rfl fun ea bs a w O I=>⟨qU rfl O wZ,?_⟩);refine gE [11] I fun a I=>?_;refine eD ?_;exact fin
     skip;refine id (bq (ps:=[(0,.tmp 66)]) I qW rH (zl:=[am 0,bc cu,.slice none 0 0,bc cu,am 0]) (by kernel_rfl) rfl (us:=[(aZ b e)]) ⟨rfl,trivial⟩ (ws:=(aZ b e)) rfl rfl rfl rfl fun ex a w O I=>⟨jx (O),?_⟩);replace I:=I.zf (R:=ai) 2 rfl 1 rfl;replace I:=I.fS (a1 _ _ I.g0);refine e1 3 (cr (R:=ai) (xs:=([]:List ac)) (ys:=r) I qW (by decide) (by decide) rfl rfl 1 rfl 2 rfl 0 rfl a3 rfl fun h0 fd a w O I=>⟨qU rfl O pH,?_⟩);replace I:=(I.lit (R:=ai) (us:=(aZ b e)) (xs:=[b]) 0 rfl (by decide) (aN (R:=ai) (x:=b) (⟨_,rfl,I.g6⟩)) rfl rfl).zf (R:=ai) 0 rfl 0 rfl;obtain⟨N,B⟩:=a6 B;refine e1 6 (cr (R:=ai) (xs:=(([]:List ac)++r)) (ys:=[b]) I qW (by decide) (by decide) rfl rfl 0 rfl 2 rfl 0 rfl N rfl fun e8 bl a w O I=>⟨qU rfl O wZ,?_⟩);replace I:=I.fS (a2 _ _ I.g5);obtain⟨P,B⟩:=a6 B;refine e1 10 (cr (R:=ai) (xs:=((([]:List ac)++r)++([b]))) (ys:=a9) I qW (by decide) (by decide) rfl rfl 0 rfl 1 rfl 0 rfl P rfl fun ea bs a w O I=>⟨qU rfl O wZ,?_⟩);refine gE [11] I fun a I=>?_;refine eD ?_;exact fin
    exact fz
   rintro a w ⟨Q,V,G,I,B⟩;unfold nx at B;exact fz
  exact fz
 rintro a w ⟨E,S,F,I,B⟩;unfold qH at B;refine ax ?_;refine an I fun a I=>?_;rcases cd B with⟨e2,B⟩|⟨e2,B⟩
 ·refine an I fun a I=>?_;cases B
  refine aG I Tryz.results20 (aF I rfl (aF I rfl aH)) ?_;exact⟨.slice none 0 0,[],rfl,kv _ _ _ _ _ _⟩
 refine an I fun a I=>?_;replace I:=I.zf (R:=ai) 0 rfl 0 rfl;obtain⟨g9,b3,B⟩:=bd B;refine kc I Uw (wI _ _ I.dlt E _ I.g0 _ b3) fun _ w C a O U=>?_;obtain⟨eb,bt,he,a4⟩:=C;obtain rfl:=he.symm;have I:=sN U a4;refine an I fun a I=>?_;cases B
 refine aG I Tryz.results20 (aF I rfl (aF I rfl aH)) ?_;exact⟨eb,bt,rfl,I.zo ⟨.inr (az (i:=0) rfl),trivial⟩ 0 rfl 0 rfl⟩
def mG (d:(List ac)) (b:LN) (c:Int):Option ((List ac)×bH):=some ((d,(bH.mk b c)))
def mH (c:LU) (k:(List ac)) (j:Int) (g:LN) (h l:Int) (m:LI) (n:LR):Option (Fl ((List ac)×Int×LN×Int×Int×LI×LR) ((List ac)×LN×Int)):=cond (decide ((0:Int)<j)) ((ro (bH.mk g h) c 3).bind fun d=>(iD uu c (ap.mk l m n) d.1).bind fun b=>(oU (ap.mk b.1.r b.1.i b.1.s)).bind fun o=>(sr k o).bind fun p=>(nW (bH.mk d.2.L d.2.k1) 2).bind fun e=>(iB (ap.mk b.1.r b.1.i b.1.s) e.1).bind fun f=>some (.go (p.1,IntKind.i64.wrap (j-1),e.2.L,e.2.k1,f.1.r,f.1.i,f.1.s))) (some (.out (k,g,h)))
def m4 (e:bH) (d:LU) (c:ap):Option ((List ac)×bH):=(cN e 3).bind fun b=>(loop (fun s:(List ac)×Int×LN×Int×Int×LI×LR=>mH d s.1 s.2.1 s.2.2.1 s.2.2.2.1 s.2.2.2.2.1 s.2.2.2.2.2.1 s.2.2.2.2.2.2) (([]:List ac),IntKind.i64.wrap (1+b.1),b.2.L,b.2.k1,c.r,c.i,c.s)).bind fun r=>mG r.1 r.2.1 r.2.2
theorem Az (j:bH) (d:LU) (Y:ap) (f v3:Value) (v4 v5:Value) (b:Nat) (c9:L.heap[b]? = some (.cells (bQ j f).toArray 83 (0,0))) (c3:¬ T b) (cb:aQ (aY.int .i64) (dT T [.box b (bQ j f) 83]) L f j.L) (cf:aQ ay (dT T [.box b (bQ j f) 83]) L v3 d) (ch:aQ ad (dT T [.box b (bQ j f) 83]) L v4 Y.i) (ck:aQ aa (dT T [.box b (bQ j f) 83]) L v5 Y.s) (hLv:dC (dT T [.box b (bQ j f) 83]) L) (y:(List ac)×bH) (B:m4 j d Y=some y):bm aO (fun k=>k=b) 9 [pt b 0,v3,.agg (bA Y v4 v5).toArray] L (fun v w'=>∃ (v6:Value) (y5:bG) (v8:Value),v=v6/\jy ai T L w' [bu v6 y5,.box b (bQ y.2 v8) 83] 30 v6 y5 y.1/\w'.heap[b]? = some (.cells (bQ y.2 v8).toArray 83 (0,0))/\aQ (aY.int .i64) (dT T [bu v6 y5,.box b (bQ y.2 v8) 83]) w' v8 y.2.L/\f=v8):=by
 refine wY (c:=_) Tryz.func9 rfl T 41 Tryz.ntmps9 hT rfl c9 c3 fun a I=>?_;replace I:=((((I.fact bK hLv).fS cb).fS cf).fS ch).fS ck;unfold m4 at B;refine kB I fun x dk a w O I=>?_;refine an I fun a I=>?_;refine aK (J:=fun a w=>∃ (S:(List ac)) (P:LN) (Q:Int) (E:Value) (z:LV),St L (fun k=>k=b) T 41 [(7,E)] [bu E z,.box b [f,am Q] 83] [au ai z S,aT (aY.int .i64) f P,bK] a w/\mG S P Q=some y) ?_ ?_
 ·refine an I fun a I=>?_;obtain⟨c5,bs,B⟩:=bd B;refine wl rfl (dA I rY rfl rfl 1 rfl (ce _ _ (I.drop 1).dlt j 3 _ _ (I.zb 1 rfl) (I.zi 1 rfl) (aQ.lent (i:=1) rfl I.g3) _ bs) fun _ w C O=>?_);obtain⟨ds,he,hrow,a4,F⟩:=C;obtain rfl:=he.symm;subst F;refine⟨(bQ c5.2 f),hrow,fun a I=>?_⟩;replace I:=I.fS (aQ.back (i:=1) rfl a4);refine an I fun a I=>?_;replace I:=I.zn ai 30 (by decide);obtain⟨r1,ca,hMo1⟩:=bd B;refine bz _ (fun s a w=>∃ (o:(List ac)) (A:Int) (m:LN) (n g:Int) (p:LI) (q:LR) (V:Value) (K:LV) (t u:Value),(o,A,m,n,g,p,q)=s/\St L (fun k=>k=b) T 41 [(0,pt b 0),(1,v3),(5,pt x 0),(7,V),(8,am A)] [bu V K,.box b [f,am n] 83,.box x [am g,t,u] 37] [aT ay v3 d,au ai K o,aT (aY.int .i64) f m,aT ad t p,aT aa u q,bK] a w) ca ⟨_,_,_,_,_,_,_,_,_,_,_,rfl,I.mt [0,2,1] [4,0,1,3,2,6]⟩ ?_;rintro s a w f1 ⟨o,A,m,n,g,p,q,V,K,t,u,rfl,I⟩ B hf1;have B:mH d o A m n g p q=some f1:=B;unfold mH at B;refine ax ?_;refine an I fun a I=>?_;rcases cd B with⟨c2,B⟩|⟨c2,B⟩
  ·refine an I fun a I=>?_;refine ax ?_;refine an I fun a I=>?_;refine ax ?_;refine dr [(4,.blk (some b)),(10,.blk (some x))] I fun w hQ I=>?_;refine gE [0] I fun a I=>?_;refine dq 1 I (l:=[.blk (some b)]) (v:=.agg #[am g,t,u]) (ou I rfl tU 2 rfl (uf I 2 rfl rfl 1 rfl rfl (by decide) cc) (us:=[am g,t,u]) rfl rfl (fun h=>by cases h)) fun a I=>?_;refine gE [2,3] I fun a I=>?_;obtain⟨D,b8,B⟩:=bd B;refine e1 4 (u4 I SV rfl rfl 1 rfl (zM _ _ (I.drop 1).dlt (bH.mk m n) d 3 _ _ _ (I.zb 1 rfl) (I.zi 1 rfl) (aQ.lent (i:=1) rfl I.g2) (aQ.lent (i:=1) rfl I.g0) (bK.keep I.g5 (aw _ _) (fun k O=>.inl ((uW (i:=1) rfl k).1 O))) _ b8) fun _ w C O=>?_);obtain⟨W,M,e0,he,⟨a2,a0,a5⟩,hrow,a9,G⟩:=C;obtain rfl:=he.symm;subst G;refine⟨(bQ D.2 f),[aJ W M],hrow,rX ⟨a2,by decide⟩ a0,Gz _,fun a I=>⟨qU rfl O od,?_⟩⟩;replace I:=((I.fR (a5.keep (aw _ _) (pb (i:=1) rfl [aJ W M] _))).fS (a9.sub (pb (i:=1) rfl [aJ W M] _))).zf (R:=ah) 0 rfl 1 rfl;obtain⟨e,b9,B⟩:=bd B;refine ec 5 I QC (sD _ _ I.dlt I.g8 uu U7 d (ap.mk g p q) D.1 _ _ _ _ I.g3 I.g6 I.g7 I.g0 _ b9) fun _ w C a O U=>?_;obtain⟨b5,b6,d0,e2,d1,he,ab,af,ag,Z⟩:=C;obtain rfl:=he.symm;have I:=IF U af ag Z;replace I:=I.fS (ab.sub (mV _));refine gE [6,7,8,9] I fun a I=>?_;refine es 10 I fun w I=>?_;refine eD ?_;refine an I fun a I=>?_;replace I:=I.zf (R:=aa) 0 rfl 2 rfl;obtain⟨c4,bb,B⟩:=bd B;refine kc I Ul (BQ _ _ I.dlt (ap.mk e.1.r e.1.i e.1.s) _ _ I.g1 I.g0 _ bb) fun _ w C a O U=>?_;obtain⟨e3,d2,he,ak⟩:=C;obtain rfl:=he.symm;have I:=sN U ak;replace I:=(I.zf (R:=ai) 2 rfl 9 rfl).zf (R:=ai) 0 rfl 1 rfl;obtain⟨dl,bg,B⟩:=bd B;refine kc I Um (Ed _ _ I.dlt I.g15 o c4 _ _ I.g1 I.g0 _ bg) fun _ w C a O U=>?_;obtain⟨e4,d3,he,ao⟩:=C;obtain rfl:=he.symm;have I:=sN U ao;refine an I fun a I=>?_;refine dr [(2,.blk (some b)),(7,.blk (some x))] I fun w hQ I=>?_;refine dq 0 I (l:=[.blk (some b)]) (v:=.agg (bA e.1 b5 b6).toArray) (ou I rfl tU 3 rfl (uf I 3 rfl rfl 2 rfl rfl (by decide) cc) (us:=(bA e.1 b5 b6)) rfl rfl (fun h=>by cases h)) fun a I=>?_;refine gE [1] I fun a I=>?_;obtain⟨b4,bi,B⟩:=bd B;refine e1 2 (u4 I ST rfl rfl 2 rfl (xh _ _ (I.drop 2).dlt (bH.mk D.2.L D.2.k1) 2 _ _ (I.zb 2 rfl) (I.zi 2 rfl) (aQ.lent (i:=2) rfl I.g9) (bK.keep I.g16 (aw _ _) (fun k O=>.inl ((uW (i:=2) rfl k).1 O))) _ bi) fun _ w C O=>?_);obtain⟨X,N,e5,he,⟨a3,a1,av⟩,hrow,b0,H⟩:=C;obtain rfl:=he.symm;subst H;refine⟨(bQ b4.2 f),[oO X N],hrow,rX ⟨a3,by decide⟩ a1,Gz _,fun a I=>⟨qU rfl O od,?_⟩⟩;replace I:=((I.fR (av.keep (aw _ _) (pb (i:=2) rfl [oO X N] _))).fS (b0.sub (pb (i:=2) rfl [oO X N] _))).zf (R:=bw) 0 rfl 1 rfl;obtain⟨dn,bl,B⟩:=bd B;refine ec 3 I QB (uH _ _ I.dlt I.g19 (ap.mk e.1.r e.1.i e.1.s) b4.1 _ _ _ I.g8 I.g7 I.g0 _ bl) fun _ w C a O U=>?_;obtain⟨e6,d4,e7,d6,he,b2,b3,Z⟩:=C;obtain rfl:=he.symm;have I:=IF U b2 b3 Z;refine gE [4,5,6] I fun a I=>?_;refine es 7 I fun w I=>?_;refine eD ?_;refine an I fun a I=>?_;replace I:=(I.zf (R:=ad) 0 rfl 1 rfl).zf (R:=aa) 0 rfl 1 rfl;exact fin
  refine an I fun a I=>?_;cases B
  have hr:=hf1 _ rfl;subst hr;have B:mG o m n=some y:=hMo1;exact fin
 rintro a w ⟨S,P,Q,E,z,I,B⟩;unfold mG at B;refine an I fun a I=>?_;cases B
 refine aG I rfl (aF I rfl aH) ?_;exact⟨E,z,f,rfl,I.zm ⟨.inr (az (i:=0) rfl),⟨.inr (az (i:=1) rfl),trivial⟩⟩ 0 rfl 0 rfl 1 rfl (by decide),I.zb 1 rfl,(aQ.up ⟨.inr (az (i:=0) rfl),⟨.inr (az (i:=1) rfl),trivial⟩⟩ I.g1),rfl⟩
def tv (b:LK):Option LK:=some (b)
def qi (b:Int):Option (Fl (Int) (Fl (Unit) LK)):=some (.go (IntKind.i64.wrap (b+1)))
def mT (b:LK) (c:Int):Option (Fl (Int) (Fl (Unit) LK)):=(sH b c b.length).bind fun e=>(sH (List.take (Int.toNat c) b++List.replicate ((Int.toNat (b.length:Int))-(Int.toNat c)) (ae.mk (0:Int) cu)++List.drop (Int.toNat (b.length:Int)) b) 0 c).bind fun d=>some (.out (.out d))
def mU (d:LK) (b c:Int):Option (Fl (LK×Int×Int) (LK×Int)):=some (.go (d,b,IntKind.i64.wrap (c+1)))
def qj (f:LK) (c:Int) (d:LK) (e b:Int):Option (Fl (LK×Int×Int) (LK×Int)):=cond (decide (b<(((Int.toNat (f.length:Int))-(Int.toNat c):Nat):Int))) (gd (decide (0<=b)) <| gd (decide (b<(((Int.toNat (f.length:Int))-(Int.toNat c):Nat):Int))) <| (bp d ((((Int.toNat c):Nat):Int)+b)).bind fun g=>gd (decide (0<=IntKind.i64.wrap (b-1))) <| gd (decide (IntKind.i64.wrap (b-1)<(((Int.toNat (f.length:Int))-(Int.toNat c):Nat):Int))) <| (bp d ((((Int.toNat c):Nat):Int)+(IntKind.i64.wrap (b-1)))).bind fun h=>cond (!(g.k==h.k&&g.x.toList==h.x.toList)) (gd (decide (0<=b)) <| gd (decide (b<(((Int.toNat (f.length:Int))-(Int.toNat c):Nat):Int))) <| (bp d ((((Int.toNat c):Nat):Int)+b)).bind fun i=>(bp d e).bind fun j=>mU (d.set (Int.toNat e) i) (IntKind.i64.wrap (e+1)) b) (mU d e b)) (some (.out (d,e)))
def qk (c:LK) (b:Int):Option (Fl (Int) (Fl (Unit) LK)):=cond (decide (b<(c.length:Int))) ((bp c b).bind fun d=>(bp c (IntKind.i64.wrap (b-1))).bind fun e=>cond (d.k==e.k&&d.x.toList==e.x.toList) ((sH c b c.length).bind fun f=>(loop (fun s:LK×Int×Int=>qj c b s.1 s.2.1 s.2.2) (c,b,1)).bind fun r=>mT r.1 r.2) (qi b)) (some (.out (.go ())))
def pD (b:LK):Option LK:=cond (decide ((b.length:Int)<2)) (some (b)) ((loop (fun s:Int=>qk b s) 1).bind fun r=>Fl.el r (fun s=>tv b) (fun y=>some (y)))
theorem DZ (d:LK) (b:Value) (dm:bG) (hD:vy T L [aJ b dm]) (e2:bf ah (dT T [aJ b dm]) L dm d) (y:LK) (B:pD d=some y):bm aO (MD [aJ b dm]) 120 [b] L (fun v w'=>∃ (v3:Value) (rJ:bG),v=v3/\bf ah (dT T [aJ v3 rJ]) w' rJ y/\kl L w' [aJ b dm] [aJ v3 rJ]):=by
 refine eu (c:=_) Tryz.func120 rfl T 61 Tryz.ntmps120 hT rfl hD fun a I=>?_;replace I:=I.fR e2;unfold pD at B;refine an I fun a I=>?_;refine ax ?_;refine an I fun a I=>?_;rcases cd B with⟨a5,B⟩|⟨a5,B⟩
 ·refine an I fun a I=>?_;cases B
  refine aG I rfl (aF I rfl aH) ?_;have hZ:=I.sl [0] [0];exact⟨b,dm,rfl,hZ.g0,hZ.zd⟩
 refine an I fun a I=>?_;refine aK (J:=fun a w=>St L (MD [aJ b dm]) T 61 [(0,b)] [aJ b dm] [au ah dm d] a w/\tv d=some y) ?_ ?_
 ·refine an I fun a I=>?_;obtain⟨r1,ds,hMo1⟩:=bd B;refine bz _ (fun s a w=>∃ (e:Int),e=s/\St L (MD [aJ b dm]) T 61 [(0,b),(3,am e)] [aJ b dm] [au ah dm d] a w) ds ⟨_,rfl,I.mt [0] [0]⟩ ?_;rintro s a w K ⟨e,rfl,I⟩ B hf1;have B:qk d e=some K:=B;unfold qk at B;refine ax ?_;refine an I fun a I=>?_;rcases cd B with⟨a9,B⟩|⟨a9,B⟩
  ·refine an I fun a I=>?_;refine aK (J:=fun a w=>St L (MD [aJ b dm]) T 61 [(0,b),(3,am e)] [aJ b dm] [au ah dm d] a w/\qi e=some K) ?_ ?_
   ·refine an I fun a I=>?_;refine ax ?_;refine dr [] I fun w hQ I=>?_;refine gE [0,1] I fun a I=>?_;obtain⟨o,Q,B⟩:=bd B;obtain⟨Y,d2,et,e4,ab,af,ag,ak⟩:=cq (R:=ah) I nC gB 0 rfl 0 rfl Q;obtain rfl:=ab;refine dq 2 I (v:=pt Y d2) (ak rfl rfl) fun a I=>?_;refine dq 3 I (l:=[]) (v:=.agg (bn o).toArray) (bY (k:=0) I gB 0 rfl af ag rfl cc (us:=(bn o)) rfl rfl (fun h=>by cases h)) fun a I=>?_;refine gE [4,5,6] I fun a I=>?_;obtain⟨p,S,B⟩:=bd B;obtain⟨Z,d3,ex,e5,ao,av,b0,b1⟩:=cq (R:=ah) I nC gB 0 rfl 0 rfl S;obtain rfl:=ao;refine dq 7 I (v:=pt Z d3) (b1 rfl rfl) fun a I=>?_;refine dq 8 I (l:=[]) (v:=.agg (bn p).toArray) (bY (k:=0) I gB 0 rfl av b0 rfl cc (us:=(bn p)) rfl rfl (fun h=>by cases h)) fun a I=>?_;refine dq 9 I (v:=.bool (o.k==p.k&&o.x.toList==p.x.toList)) (Hm I rfl rfl) fun a I=>?_;refine eD ?_;refine an I fun a I=>?_;rcases cd B with⟨b2,B⟩|⟨b2,B⟩
    ·refine an I fun a I=>?_;obtain⟨eq,X,B⟩:=bd B;obtain⟨g,eg,b3,b4⟩:=JS (R:=ah) I nC gB 0 rfl 0 rfl X;replace I:=I.fact (GK 2 b g (Int.toNat e) (Int.toNat (d.length:Int)) d.length) b3;refine wl rfl (ky (v:=g) I (b4 (k2:=.i64) rfl (.inl ⟨_,rfl,rfl⟩) (.inr ⟨rfl,rfl⟩)) rfl rfl fun a I=>?_);refine an I fun a I=>?_;refine aK (J:=fun a w=>∃ (f:LK) (q:Int) (t:LV),St L (MD [aJ b dm]) T 61 [(0,b),(3,am q)] [aJ b t] [au ah t f] a w/\mT f q=some K) ?_ ?_
     ·refine an I fun a I=>?_;obtain⟨r2,e0,hMo2⟩:=bd B;refine bz _ (fun s a w=>∃ (j:LK) (i r:Int) (u:LV),(j,i,r)=s/\St L (MD [aJ b dm]) T 61 [(0,b),(3,am i),(4,g),(5,am r)] [aJ b u] [au ah u j,GK 2 b g (Int.toNat e) (Int.toNat (d.length:Int)) d.length] a w) e0 ⟨_,_,_,_,rfl,I.mt [0] [1,0]⟩ ?_;rintro s a w f2 ⟨j,i,r,u,rfl,I⟩ B hf2;have B:qj d e j i r=some f2:=B;unfold qj at B;refine ax ?_;refine an I fun a I=>?_;refine qy I (NP I nC rfl I.g1) fun a I=>?_;refine an I fun a I=>?_;rcases cd B with⟨b5,B⟩|⟨b5,B⟩
      ·refine an I fun a I=>?_;refine aK (J:=fun a w=>∃ (F:LK) (D E:Int) (z:LV),St L (MD [aJ b dm]) T 61 [(0,b),(3,am D),(4,g),(5,am E)] [aJ b z] [au ah z F,GK 2 b g (Int.toNat e) (Int.toNat (d.length:Int)) d.length] a w/\mU F D E=some f2) ?_ ?_
       ·refine an I fun a I=>?_;refine ax ?_;refine dr [] I fun w hQ I=>?_;refine gE [0,1] I fun a I=>?_;obtain⟨b6,B⟩:=a6 B;obtain⟨b7,B⟩:=a6 B;obtain⟨m,M,B⟩:=bd B;obtain⟨a0,d4,ey,e6,b8,b9,bb,bg⟩:=uX (R:=ah) I nC gB 0 rfl 0 rfl I.g1 b6 b7 M;obtain rfl:=b8;refine dq 2 I (v:=pt a0 d4) (bg rfl rfl) fun a I=>?_;refine dq 3 I (l:=[]) (v:=.agg (bn m).toArray) (bY (k:=0) I gB 0 rfl b9 bb rfl cc (us:=(bn m)) rfl rfl (fun h=>by cases h)) fun a I=>?_;refine gE [4,5,6] I fun a I=>?_;obtain⟨bi,B⟩:=a6 B;obtain⟨bl,B⟩:=a6 B;obtain⟨n,N,B⟩:=bd B;obtain⟨a1,d6,eT,e7,bs,bt,c1,c2⟩:=uX (R:=ah) I nC gB 0 rfl 0 rfl I.g1 bi bl N;obtain rfl:=bs;refine dq 7 I (v:=pt a1 d6) (c2 rfl rfl) fun a I=>?_;refine dq 8 I (l:=[]) (v:=.agg (bn n).toArray) (bY (k:=0) I gB 0 rfl bt c1 rfl cc (us:=(bn n)) rfl rfl (fun h=>by cases h)) fun a I=>?_;refine dq 9 I (v:=.bool (!(m.k==n.k&&m.x.toList==n.x.toList))) (Bi I rfl rfl) fun a I=>?_;refine eD ?_;refine an I fun a I=>?_;rcases cd B with⟨c3,B⟩|⟨c3,B⟩
        ·refine an I fun a I=>?_;obtain⟨c4,B⟩:=a6 B;obtain⟨c5,B⟩:=a6 B;obtain⟨A,P,B⟩:=bd B;obtain⟨a2,dc,eX,e8,c9,ca,cb,cf⟩:=uX (R:=ah) I nC gB 0 rfl 0 rfl I.g1 c4 c5 P;obtain rfl:=c9;refine wl rfl (ky (v:=pt a2 dc) I (cf rfl rfl) rfl rfl fun a I=>?_);refine qy I (bY (k:=0) I gB 0 rfl ca cb rfl id (us:=(bn A)) rfl rfl (fun h=>by cases h)) fun a I=>?_;obtain⟨a4,G,B⟩:=bd B;refine wl rfl (dK (R:=ah) I nC gB rfl rfl 0 rfl 0 rfl G rfl fun e3 er f3 ea ch ck cv a I=>?_);obtain rfl:=ch;refine wl rfl (ig (R:=ah) (k:=0) (cs:=(bn a4)) (us:=(bn A)) (x':=A) I rfl rfl rfl gB 0 rfl 0 rfl ck cv G rfl rfl rfl rfl fun eb w O I=>?_);exact fz
        exact fz
       rintro a w ⟨F,D,E,z,I,B⟩;unfold mU at B;exact fz
      refine an I fun a I=>?_;cases B
      have hr:=hf2 _ rfl;subst hr;have B:mT j i=some K:=hMo2;exact fin
     rintro a w ⟨f,q,t,I,B⟩;unfold mT at B;refine an I fun a I=>?_;obtain⟨ek,V,B⟩:=bd B;obtain⟨H,ei,d0,d1⟩:=JS (R:=ah) I nC gB 0 rfl 0 rfl V;replace I:=I.fact (GK 2 b H (Int.toNat q) (Int.toNat (f.length:Int)) f.length) d0;refine wl rfl (ky (v:=H) I (d1 (k2:=.i64) rfl (.inl ⟨_,rfl,rfl⟩) (.inr ⟨rfl,rfl⟩)) rfl rfl fun a I=>?_);refine wl rfl (J1 (R:=ah) (z0:=(ae.mk (0:Int) cu)) (xs:=f) I ol jV rfl 0 rfl 1 rfl I.g0 rfl fun ed w O I=>?_);refine an I fun a I=>?_;obtain⟨el,W,B⟩:=bd B;refine wl rfl (MA (R:=ah) (k1:=.i64) I nC gB rfl (.inr ⟨rfl,rfl⟩) (.inl ⟨_,rfl,rfl⟩) 0 rfl 0 rfl W rfl fun dk a3 a I=>?_);refine an I fun a I=>?_;cases B
     have hr:=hf1 _ rfl;subst hr;replace hMo1:=jX hMo1;have B:=hMo1;cases B
     refine aG I rfl (aF I rfl aH) ?_;have hZ:=I.sl [0] [0];exact⟨dk,a3,rfl,hZ.g0,hZ.zd⟩
    exact fz
   rintro a w ⟨I,B⟩;unfold qi at B;exact fz
  exact fz
 rintro a w ⟨I,B⟩;unfold tv at B;refine an I fun a I=>?_;cases B
 refine aG I rfl (aF I rfl aH) ?_;have hZ:=I.sl [0] [0];exact⟨b,dm,rfl,hZ.g0,hZ.zd⟩
def rh (d:LK):Option LK:=(pC d).bind fun b=>gd (cm b.length) <| (pD (uq b)).bind fun c=>some (c)
theorem FT (hLv:dC T L) (d:LK) (q:Value) (p:aQ ah T L q d) (y:LK) (B:rh d=some y):bm aO No 63 [q] L (fun v w'=>∃ (o:Value) (eK:bG),v=o/\jy ah T L w' [aJ o eK] 27 o eK y):=by
 refine en Tryz.func63 Tryz.ntmps63 hT fun a I=>?_;replace I:=(I.fact bK (dC.dn hLv)).fS (aQ.dn p);unfold rh at B;refine an I fun a I=>?_;obtain⟨m,e,B⟩:=bd B;refine kc I PH (Bc _ _ I.dlt d _ I.g0 _ e) fun _ w C a O U=>?_;obtain⟨u,r,he,b⟩:=C;obtain rfl:=he.symm;have I:=sN U b;refine an I fun a I=>?_;obtain⟨h,B⟩:=a6 B;replace I:=I.re [0] [];refine wl rfl (bU I Sa rfl rfl (Lp _ _ _ _ _ I.dok (I.getD 0 rfl) h) fun _ w C a O U=>?_);obtain⟨he,s,j,k⟩:=C;subst he;have I:=U _ k;replace I:=I.fR (j.keep (aw _ _) (aC _));refine an I fun a I=>?_;obtain⟨t,f,B⟩:=bd B;replace I:=I.re [0] [];refine wl rfl (bU I Sb rfl rfl (DZ _ _ I.zt (uq m) _ _ I.dok (I.getD 0 rfl) _ f) fun _ w C a O U=>?_);obtain⟨n,g,he,c,l⟩:=C;obtain rfl:=he.symm;have I:=U _ l;replace I:=I.fR (c.keep (aw _ _) (aC _));refine an I fun a I=>?_;cases B
 refine aG I rfl (aF I rfl aH) ?_;exact⟨n,g,rfl,I.zo ⟨.inr (az (i:=0) rfl),trivial⟩ 0 rfl 0 rfl⟩
end
end
end Go.Proofs.YtllbbcgnnoonoaaGreatDoor
