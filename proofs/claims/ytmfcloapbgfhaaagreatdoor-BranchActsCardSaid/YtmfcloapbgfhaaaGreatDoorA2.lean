/- Texts of the proof, joined (2). -/
import Derived.Test.YtmfcloapbgfhaaaGreatDoorA1
import Derived.Lib.SliceRun
import Derived.Lib.AppendZerosOnto
import Derived.Lib.Overlaps
import Derived.Laws.Externs
import Derived.Test.YtmfcloapbgfhaaaGreatDoorProg
set_option linter.unusedVariables false
set_option linter.unusedSimpArgs false
set_option linter.unusedSectionVars false
namespace Go.Proofs.YtmfcloapbgfhaaaGreatDoor
section
set_option maxRecDepth 100000
set_option maxHeartbeats 4000000
open Go.RowKit
noncomputable section
def gD (b:aw):Option aw:=gd (bH (([]:List ah).length+b.Reads.length)) <| some ((aw.mk b.Key b.Value (([]:List ah)++b.Reads) b.Changed b.Verified b.Cost b.Dirty))
theorem ni (T:Nat→Prop) (W0:World) (hT:TW T W0) (b:aw) (h:Value) (g:aE ac T W0 h b.Reads) (y:aw) (hM:gD b=some y):bj aP No 117 [.agg (br b h).toArray] W0 (fun v w'=>∃ (f:Value) (qE:bv),v = .agg (br y f).toArray∧gg ac T W0 w' [ay f qE] 44 f qE y.Reads):=by
 refine en Tryz.func117 Tryz.ntmps117 hT fun a hS=>?_;replace hS:=hS.fS (aE.dn g);unfold gD at hM;refine ai hS fun a hS=>?_;refine kb hS fun j l a w hk hS=>?_;refine ka hS gV fun k m a w hk hS=>?_;refine ai hS fun a hS=>?_;replace hS:=hS.nilRow ac 44 (by decide);obtain⟨d,hM⟩:=be hM;refine wl rfl (bM (R:=ac) (xs:=([]:List ah)) (ys:=b.Reads) hS gY (by decide) (by decide) rfl rfl 0 rfl 0 rfl 1 rfl d rfl fun e c a w hk hS=>?_);refine go hS fun a w hS=>?_;cases hM
 refine aI hS rfl (rC 1 hS) ?_;exact⟨e,c,rfl,hS.retOwn ⟨.inr (a6 (i:=0) rfl),trivial⟩ 0 rfl 0 rfl⟩
def pQ (b:LR):Option LR:=some (b)
def mK (e:LR) (c:LR) (b:Int):Option (Fl (LR×Int) (LR)):=cond (decide (b<(e.length:Int))) ((bu e b).bind fun f=>(gD f).bind fun d=>gd (bH (c.length+([d]).length)) <| some (.go ((c++([d])),IntKind.i64.wrap (b+1)))) (some (.out c))
def rY (b:LR):Option LR:=(loop (fun s:LR×Int=>mK b s.1 s.2) (([]:List aw),0)).bind fun r=>pQ r
theorem CC (T:Nat→Prop) (W0:World) (hT:TW T W0) (g:LR) (r:Value) (C:aE aa T W0 r g) (y:LR) (hM:rY g=some y):bj aP No 83 [r] W0 (fun v w'=>∃ (k:Value) (qE:bv),v=k∧gg aa T W0 w' [aS k qE] 84 k qE y):=by
 refine en Tryz.func83 Tryz.ntmps83 hT fun a hS=>?_;replace hS:=hS.fS (aE.dn C);unfold rY at hM;refine ai hS fun a hS=>?_;refine aK (J:=fun a w=>∃ (j:LR) (f:Value) (d:LV),St W0 No T 19 [(3,f)] [aS f d] [an aa d j] a w∧pQ j=some y) ?_ ?_
 ·skip;refine ai hS fun a hS=>?_;replace hS:=hS.nilRow aa 84 (by decide);obtain⟨P,B,hMo1⟩:=bd hM;refine bF _ (fun s a w=>∃ (c:LR) (e:Int) (l:Value) (h:LV),(c,e)=s∧St W0 No T 19 [(3,l),(6,r),(7,al (g.length:Int)),(8,al e)] [aS l h] [an aa h c,aR aa r g] a w) B ⟨_,_,_,_,rfl,hS.mt [0] [0,1]⟩ ?_;rintro s a w K ⟨c,e,l,h,rfl,hS⟩ hM hf1;have hM:mK g c e=some K:=hM;unfold mK at hM;refine ai hS fun a hS=>?_;refine aD ?_;rcases cd hM with⟨u,hM⟩|⟨u,hM⟩
  ·refine ai hS fun a hS=>?_;refine aD ?_;refine ai hS fun a hS=>?_;obtain⟨t,o,hM⟩:=bd hM;refine wl rfl (bm (R:=aa) hS qB m5 rfl rfl 1 rfl o rfl fun D M G z a hS=>?_);obtain⟨N,rfl,q⟩:=z;replace hS:=hS.fS q;refine ai hS fun a hS=>?_;refine ka hS gV fun E L a w hk hS=>?_;refine go hS fun a w hS=>?_;obtain⟨b,p,hM⟩:=bd hM;refine kc hS Fr (ni _ _ hS.dlt t _ (hS.get 0 rfl) _ p) fun _ w hR a hk hA=>?_;obtain⟨m,H,he,n⟩:=hR;obtain rfl:=he.symm;have hS:=qD hA n;refine wl rfl (a8 (ps:=[(0,.tmp 14)]) hS tp gV (zl:=[al 0,aO bI,aO bI,.slice none 0 0,al 0,al 0,al 0,.bool false]) (by kernel_rfl) rfl (us:=[(br b m)]) ⟨rfl,trivial⟩ (ws:=(br b m)) rfl rfl rfl rfl fun F a w hk hS=>?_);replace hS:=hS.freeze (R:=ac) 1 rfl 0 rfl;replace hS:=(hS.lit (R:=aa) (us:=(br b m)) (xs:=[b]) 0 rfl (by decide) (aA.one_ (R:=aa) (x:=b) (⟨_,rfl,(hS.get 0 rfl)⟩)) rfl rfl).freeze (R:=aa) 0 rfl 0 rfl;obtain⟨A,hM⟩:=be hM;refine wl rfl (bM (R:=aa) (xs:=c) (ys:=[b]) hS tp (by decide) (by decide) rfl rfl 1 rfl 6 rfl 0 rfl A rfl fun O I a w hk hS=>?_);exact fz
  exact fz
 rintro a w ⟨j,f,d,hS,hM⟩;unfold pQ at hM;refine ai hS fun a hS=>?_;cases hM
 refine aI hS rfl (aq hS rfl aH) ?_;exact⟨f,d,rfl,hS.retOwn ⟨.inr (a6 (i:=0) rfl),trivial⟩ 0 rfl 0 rfl⟩
def dG (b:aj):Option aj:=gd (bH (([]:List aN).length+b.Inputs.length)) <| (rY b.Records).bind fun c=>some ((aj.mk b.Revision (([]:List aN)++b.Inputs) c))
theorem dP (T:Nat→Prop) (W0:World) (hT:TW T W0) (b:aj) (p:Value) (q:Value) (n:aE ae T W0 p b.Inputs) (o:aE aa T W0 q b.Records) (y:aj) (hM:dG b=some y):bj aP No 52 [.agg (bf b p q).toArray] W0 (fun v w'=>∃ (d:Value) (sI:bv) (e:Value) (C1:bv),v = .agg (bf y d e).toArray∧gg ae T W0 w' [bh d sI,aS e C1] 69 d sI y.Inputs∧gg aa T W0 w' [bh d sI,aS e C1] 84 e C1 y.Records∧(∀ k,d.ownBlock=some k→e.ownBlock≠some k)):=by
 refine en Tryz.func52 Tryz.ntmps52 hT fun a hS=>?_;replace hS:=(hS.fS (aE.dn n)).fS (aE.dn o);unfold dG at hM;refine ai hS fun a hS=>?_;refine kb hS fun r t a w hk hS=>?_;refine ka hS mo fun s u a w hk hS=>?_;refine ai hS fun a hS=>?_;replace hS:=hS.nilRow ae 69 (by decide);obtain⟨j,hM⟩:=be hM;refine wl rfl (bM (R:=ae) (xs:=([]:List aN)) (ys:=b.Inputs) hS A4 (by decide) (by decide) rfl rfl 0 rfl 0 rfl 2 rfl j rfl fun l g a w hk hS=>?_);refine go hS fun a w hS=>?_;obtain⟨x,f,hM⟩:=bd hM;refine kc hS PA (CC _ _ hS.dlt b.Records _ (hS.get 2 rfl) _ f) fun _ w hR a hk hA=>?_;obtain⟨m,h,he,c⟩:=hR;obtain rfl:=he.symm;have hS:=qD hA c;refine go hS fun a w hS=>?_;cases hM
 refine aI hS rfl (rC 2 hS) ?_;exact⟨l,g,m,h,rfl,hS.retOwn ⟨.inr (a6 (i:=1) rfl),⟨.inr (a6 (i:=0) rfl),trivial⟩⟩ 1 rfl 1 rfl,hS.retOwn ⟨.inr (a6 (i:=1) rfl),⟨.inr (a6 (i:=0) rfl),trivial⟩⟩ 0 rfl 0 rfl,(hS.apart2 1 rfl 0 rfl (by decide))⟩
def gM (b:Int):Option Int:=some (b)
def gN (c:ByteArray) (d:Int) (b:Int):Option (Fl (Int×Int) (Fl (Int) Int)):=cond (decide (b<(c.size:Int))) ((bu c.toList b).bind fun e=>cond (decide (((e.toNat:Int):Int)<48)) (some (.out (.out (-1)))) ((bu c.toList b).bind fun f=>cond (decide ((57:Int)<(f.toNat:Int))) (some (.out (.out (-1)))) ((bu c.toList b).bind fun g=>some (.go (IntKind.i64.wrap ((IntKind.i64.wrap (10*d))+(IntKind.i64.wrap (IntKind.u8.wrap ((g.toNat:Int)-48)))),IntKind.i64.wrap (b+1)))))) (some (.out (.go d)))
def dw (c:ByteArray) (b:Bool):Option Int:=cond b (some ((-1))) ((loop (fun s:Int×Int=>gN c s.1 s.2) (0,0)).bind fun r=>Fl.el r (fun s=>gM s) (fun y=>some (y)))
def kX (b:ByteArray):Option Int:=cond (b.toList==bI.toList) (dw b true) (cond (decide ((9:Int)<(b.size:Int))) (dw b true) ((bu b.toList 0).bind fun c=>cond (((c.toNat:Int):Int)==48) (dw b (!(b.toList==(ByteArray.mk #[48]).toList))) (dw b false)))
theorem um (T:Nat→Prop) (W0:World) (hT:TW T W0) (b:ByteArray) (y:Int) (hM:kX b=some y):bj aP No 115 [aO b] W0 (fun v w'=>v=al y):=by
 refine en Tryz.func115 Tryz.ntmps115 hT fun a hS=>?_;unfold kX at hM;refine ai hS fun a hS=>?_;refine aD ?_;refine aK (J:=fun a w=>∃ (e:Bool),St W0 No T 46 [(0,aO b),(20,.bool e)] [] [] a w∧dw b e=some y) ?_ ?_
 ·skip;refine ai hS fun a hS=>?_;rcases cd hM with⟨m,hM⟩|⟨m,hM⟩
  ·exact fz
  refine ai hS fun a hS=>?_;rcases cd hM with⟨g,hM⟩|⟨g,hM⟩
  ·exact fz
  refine ai hS fun a hS=>?_;obtain⟨x,l,hM⟩:=bd hM;refine qg hS g (CS hS Tryz.underlying9 rfl rfl l) fun a hS=>?_;exact fz
 rintro a w ⟨e,hS,hM⟩;unfold dw at hM;rcases cd hM with⟨n,hM⟩|⟨n,hM⟩
 ·exact fz
 refine ai hS fun a hS=>?_;refine aK (J:=fun a w=>∃ (f:Int),St W0 No T 46 [(3,al f)] [] [] a w∧gM f=some y) ?_ ?_
 ·skip;refine ai hS fun a hS=>?_;obtain⟨A,q,hMo1⟩:=bd hM;refine bF _ (fun s a w=>∃ (d:Int) (c:Int),(d,c)=s∧St W0 No T 46 [(0,aO b),(3,al d),(4,al c)] [] [] a w) q ⟨_,_,rfl,hS.mt [] []⟩ ?_;rintro s a w z ⟨d,c,rfl,hS⟩ hM hf1;have hM:gN b d c=some z:=hM;unfold gN at hM;refine aD ?_;refine ai hS fun a hS=>?_;rcases cd hM with⟨o,hM⟩|⟨o,hM⟩
  ·refine ai hS fun a hS=>?_;refine aD ?_;refine ai hS fun a hS=>?_;refine aD ?_;refine iY ?_;refine ai hS fun a hS=>?_;obtain⟨r,i,hM⟩:=bd hM;refine qy hS (CS hS Tryz.underlying9 rfl rfl i) fun a hS=>?_;refine ai hS fun a hS=>?_;rcases cd hM with⟨h,hM⟩|⟨h,hM⟩
   ·exact fz
   refine ai hS fun a hS=>?_;obtain⟨t,j,hM⟩:=bd hM;refine qg hS h (CS hS Tryz.underlying9 rfl rfl j) fun a hS=>?_;refine ai hS fun a hS=>?_;rcases cd hM with⟨p,hM⟩|⟨p,hM⟩
   ·exact fz
   refine ai hS fun a hS=>?_;obtain⟨u,k,hM⟩:=bd hM;refine qy hS (CS hS Tryz.underlying9 rfl rfl k) fun a hS=>?_;refine ai hS fun a hS=>?_;exact⟨_,(fq hM).symm,_,_,rfl,hS.mt [] []⟩
  exact fz
 rintro a w ⟨f,hS,hM⟩;unfold gM at hM;exact fz
def iG (c:Int) (b:Bool):Option Int:=cond b (some (c)) (some ((-1)))
def iP (c:ah):Option Int:=(kX c.Text).bind fun b=>cond (decide ((30:Int)≤c.Kind)) (cond (decide (c.Kind≤32)) (iG b (decide (b≤99))) (iG b false)) (iG b false)
theorem ox (T:Nat→Prop) (W0:World) (hT:TW T W0) (c:ah) (y:Int) (hM:iP c=some y):bj aP No 79 [.agg (aV c).toArray] W0 (fun v w'=>v=al y):=by
 refine en Tryz.func79 Tryz.ntmps79 hT fun a hS=>?_;unfold iP at hM;refine ai hS fun a hS=>?_;refine kb hS fun f g a w hk hS=>?_;refine ai hS fun a hS=>?_;refine aD ?_;refine ai hS fun a hS=>?_;obtain⟨d,e,hM⟩:=bd hM;refine kc hS KW (um _ _ hS.dlt c.Text _ e) fun _ w hR a hk hA=>?_;obtain rfl:=hR;have hS:=bY hA;refine ai hS fun a hS=>?_;refine aK (J:=fun a w=>∃ (b:Bool),St W0 No T 20 [(3,al d),(18,.bool b)] [] [] a w∧iG d b=some y) ?_ ?_
 ·exact fz
 rintro a w ⟨b,hS,hM⟩;unfold iG at hM;exact fz
def eJ (b:Bool):Option Bool:=some (b)
def fG (b:ah) (c:Bool):Option Bool:=cond c ((iP b).bind fun d=>some (decide ((0:Int)≤d))) (cond (decide ((1:Int)≤b.Kind)) (cond (decide (b.Kind≤22)) (cond (decide (((b.Text.size:Int):Int)≤1073741824)) (cond (b.Text.toList==bI.toList) (eJ true) (cond (b.Kind != 1) (eJ (b.Kind != 21)) (eJ false))) (eJ false)) (eJ false)) (eJ false))
def cE (b:ah):Option Bool:=cond (decide ((30:Int)≤b.Kind)) (fG b (decide (b.Kind≤32))) (fG b false)
theorem kY (T:Nat→Prop) (W0:World) (hT:TW T W0) (b:ah) (y:Bool) (hM:cE b=some y):bj aP No 46 [.agg (aV b).toArray] W0 (fun v w'=>v = .bool y):=by
 refine en Tryz.func46 Tryz.ntmps46 hT fun a hS=>?_;unfold cE at hM;refine ai hS fun a hS=>?_;refine kb hS fun e h a w hk hS=>?_;refine ai hS fun a hS=>?_;refine aD ?_;refine aK (J:=fun a w=>∃ (d:Bool),St W0 No T 43 [(1,pt e 0),(10,.bool d)] [.box e (aV b) 44] [] a w∧fG b d=some y) ?_ ?_
 ·exact fz
 rintro a w ⟨d,hS,hM⟩;unfold fG at hM;rcases cd hM with⟨g,hM⟩|⟨g,hM⟩
 ·refine ai hS fun a hS=>?_;obtain⟨i,f,hM⟩:=bd hM;refine kc hS JI (ox _ _ hS.dlt b _ f) fun _ w hR a hk hA=>?_;obtain rfl:=hR;have hS:=bY hA;exact fz
 refine ai hS fun a hS=>?_;refine aK (J:=fun a w=>∃ (c:Bool),St W0 No T 43 [(2,.bool c)] [] [] a w∧eJ c=some y) ?_ ?_
 ·exact fz
 rintro a w ⟨c,hS,hM⟩;unfold eJ at hM;exact fz
def jL (b:Bool):Option Bool:=some (b)
def cr (b:ah):Option Bool:=cond (b.Kind==1) (jL true) (cond (b.Kind==2) (jL true) (jL (b.Kind==30)))
theorem dJ (T:Nat→Prop) (W0:World) (hT:TW T W0) (c:ah) (y:Bool) (hM:cr c=some y):bj aP No 47 [.agg (aV c).toArray] W0 (fun v w'=>v = .bool y):=by
 refine en Tryz.func47 Tryz.ntmps47 hT fun a hS=>?_;unfold cr at hM;refine ai hS fun a hS=>?_;refine kb hS fun d e a w hk hS=>?_;refine ai hS fun a hS=>?_;refine aK (J:=fun a w=>∃ (b:Bool),St W0 No T 16 [(2,.bool b)] [] [] a w∧jL b=some y) ?_ ?_
 ·exact fz
 rintro a w ⟨b,hS,hM⟩;unfold jL at hM;exact fz
def jK (b:ah) (c:ah):Option Int:=cond (decide (b.Kind<c.Kind)) (some ((-1))) (cond (decide (c.Kind<b.Kind)) (some (1)) ((tj b.Text c.Text).bind fun d=>some (d)))
theorem lF (T:Nat→Prop) (W0:World) (hT:TW T W0) (hLv:di T W0) (b:ah) (c:ah) (y:Int) (hM:jK b c=some y):bj aP No 48 [.agg (aV b).toArray,.agg (aV c).toArray] W0 (fun v w'=>v=al y):=by
 refine en Tryz.func48 Tryz.ntmps48 hT fun a hS=>?_;replace hS:=hS.fact bC (di.dn hLv);unfold jK at hM;refine ai hS fun a hS=>?_;refine kb hS fun g i a w hk hS=>?_;refine kb hS fun h j a w hk hS=>?_;refine ai hS fun a hS=>?_;refine aD ?_;refine ai hS fun a hS=>?_;rcases cd hM with⟨e,hM⟩|⟨e,hM⟩
 ·exact fz
 refine ai hS fun a hS=>?_;rcases cd hM with⟨f,hM⟩|⟨f,hM⟩
 ·exact fz
 refine ai hS fun a hS=>?_;obtain⟨k,d,hM⟩:=bd hM;refine kc hS Oe (yE _ _ hS.dlt (hS.get 0 rfl) b.Text c.Text _ d) fun _ w hR a hk hA=>?_;obtain rfl:=hR;have hS:=bY hA;exact fz
def f0 (b:Bool):Option Bool:=some (b)
def q8 (b:Int):Option Bool:=cond (b==7) (f0 true) (cond (b==14) (f0 true) (cond (b==17) (f0 true) (f0 (b==18))))
theorem Ag (T:Nat→Prop) (W0:World) (hT:TW T W0) (c:Int) (y:Bool) (hM:q8 c=some y):bj aP No 126 [al c] W0 (fun v w'=>v = .bool y):=by
 refine en Tryz.func126 Tryz.ntmps126 hT fun a hS=>?_;unfold q8 at hM;refine ai hS fun a hS=>?_;refine aK (J:=fun a w=>∃ (b:Bool),St W0 No T 17 [(2,.bool b)] [] [] a w∧f0 b=some y) ?_ ?_
 ·exact fz
 rintro a w ⟨b,hS,hM⟩;unfold f0 at hM;exact fz
def f5 (b:Bool):Option Bool:=some (b)
def cN (b:ah):Option Bool:=cond (b.Kind==32) (f5 true) (cond (decide ((1:Int)≤b.Kind)) (cond (decide (b.Kind≤22)) ((q8 b.Kind).bind fun c=>f5 c) (f5 false)) (f5 false))
theorem c7 (T:Nat→Prop) (W0:World) (hT:TW T W0) (d:ah) (y:Bool) (hM:cN d=some y):bj aP No 90 [.agg (aV d).toArray] W0 (fun v w'=>v = .bool y):=by
 refine en Tryz.func90 Tryz.ntmps90 hT fun a hS=>?_;unfold cN at hM;refine ai hS fun a hS=>?_;refine kb hS fun h i a w hk hS=>?_;refine ai hS fun a hS=>?_;refine aK (J:=fun a w=>∃ (b:Bool),St W0 No T 21 [(2,.bool b)] [] [] a w∧f5 b=some y) ?_ ?_
 ·skip;refine ai hS fun a hS=>?_;rcases cd hM with⟨f,hM⟩|⟨f,hM⟩
  ·exact fz
  refine ai hS fun a hS=>?_;rcases cd hM with⟨g,hM⟩|⟨g,hM⟩
  ·refine ai hS fun a hS=>?_;rcases cd hM with⟨c,hM⟩|⟨c,hM⟩
   ·refine ai hS fun a hS=>?_;obtain⟨j,e,hM⟩:=bd hM;refine wg hS rfl rfl rfl c (bg hS NG rfl rfl (Ag _ _ hS.dlt d.Kind _ e) fun _ w hR a hk hA=>?_);obtain rfl:=hR;have hS:=bY hA;exact fz
   exact fz
  exact fz
 rintro a w ⟨b,hS,hM⟩;unfold f5 at hM;exact fz
def cO (b:Bool):Option Bool:=some (b)
def lK (b:aw):Option Bool:=(cE b.Key).bind fun c=>cond c ((cr b.Key).bind fun d=>cond (!(d)) (cond (decide (((b.Value.size:Int):Int)≤1073741824)) (cond (decide ((b.Reads.length:Int)≤4000)) (cond (decide ((0:Int)≤b.Changed)) (cond (decide (b.Changed≤b.Verified)) (cond (decide (b.Verified≤1073741824)) (cond (decide ((1:Int)≤b.Cost)) (cond (decide (b.Cost≤1073741824)) (cond (!(b.Dirty)) (cO true) ((cN b.Key).bind fun e=>cO e)) (cO false)) (cO false)) (cO false)) (cO false)) (cO false)) (cO false)) (cO false)) (cO false)) (cO false)
def lL (c:aw) (b:Int):Option (Fl (Int) (Fl (Unit) Bool)):=cond (decide (b<(c.Reads.length:Int))) ((bu c.Reads b).bind fun d=>(cE d).bind fun e=>cond (!(e)) (some (.out (.out false))) (some (.go (IntKind.i64.wrap (b+1))))) (some (.out (.go ())))
def qo (b:aw):Option Bool:=(loop (fun s:Int=>lL b s) 0).bind fun r=>Fl.el r (fun s=>lK b) (fun y=>some (y))
theorem Bc (T:Nat→Prop) (W0:World) (hT:TW T W0) (b:aw) (f:Value) (D:aE ac T W0 f b.Reads) (y:Bool) (hM:qo b=some y):bj aP No 81 [.agg (br b f).toArray] W0 (fun v w'=>v = .bool y):=by
 refine en Tryz.func81 Tryz.ntmps81 hT fun a hS=>?_;replace hS:=hS.fS (aE.dn D);unfold qo at hM;refine ai hS fun a hS=>?_;refine kb hS fun c I a w hk hS=>?_;refine ai hS fun a hS=>?_;refine aK (J:=fun a w=>St W0 No T 74 [(1,pt c 0)] [.box c (br b f) 84] [aR ac f b.Reads] a w∧lK b=some y) ?_ ?_
 ·skip;refine ai hS fun a hS=>?_;obtain⟨Q,C,hMo1⟩:=bd hM;refine bF _ (fun s a w=>∃ (d:Int),d=s∧St W0 No T 74 [(1,pt c 0),(6,f),(7,al (b.Reads.length:Int)),(8,al d)] [.box c (br b f) 84] [aR ac f b.Reads] a w) C ⟨_,rfl,hS.mt [0] [0]⟩ ?_;rintro s a w H ⟨d,rfl,hS⟩ hM hf1;have hM:lL b d=some H:=hM;unfold lL at hM;refine ai hS fun a hS=>?_;refine aD ?_;rcases cd hM with⟨o,hM⟩|⟨o,hM⟩
  ·refine ai hS fun a hS=>?_;refine aD ?_;refine ai hS fun a hS=>?_;obtain⟨n,i,hM⟩:=bd hM;refine wl rfl (bm (R:=ac) hS kB dR rfl rfl 0 rfl i rfl fun E L G p a hS=>?_);obtain rfl:=p;refine ai hS fun a hS=>?_;refine ka hS gU fun F K a w hk hS=>?_;refine go hS fun a w hS=>?_;obtain⟨P,m,hM⟩:=bd hM;refine kc hS Gw (kY _ _ hS.dlt n _ m) fun _ w hR a hk hA=>?_;obtain rfl:=hR;have hS:=bY hA;exact fz
  exact fz
 rintro a w ⟨hS,hM⟩;unfold lK at hM;refine aK (J:=fun a w=>∃ (e:Bool),St W0 No T 74 [(2,.bool e)] [] [] a w∧cO e=some y) ?_ ?_
 ·skip;refine ai hS fun a hS=>?_;obtain⟨M,j,hM⟩:=bd hM;refine kc hS Gw (kY _ _ hS.dlt b.Key _ j) fun _ w hR a hk hA=>?_;obtain rfl:=hR;have hS:=bY hA;refine ai hS fun a hS=>?_;rcases cd hM with⟨g,hM⟩|⟨g,hM⟩
  ·refine ai hS fun a hS=>?_;obtain⟨N,k,hM⟩:=bd hM;refine wg hS rfl rfl rfl g (bg hS yS rfl rfl (dJ _ _ hS.dlt b.Key _ k) fun _ w hR a hk hA=>?_);obtain rfl:=hR;have hS:=bY hA;refine ai hS fun a hS=>?_;rcases cd hM with⟨q,hM⟩|⟨q,hM⟩
   ·refine ai hS fun a hS=>?_;rcases cd hM with⟨r,hM⟩|⟨r,hM⟩
    ·refine ai hS fun a hS=>?_;rcases cd hM with⟨t,hM⟩|⟨t,hM⟩
     ·refine ai hS fun a hS=>?_;rcases cd hM with⟨u,hM⟩|⟨u,hM⟩
      ·refine ai hS fun a hS=>?_;rcases cd hM with⟨x,hM⟩|⟨x,hM⟩
       ·refine ai hS fun a hS=>?_;rcases cd hM with⟨z,hM⟩|⟨z,hM⟩
        ·refine ai hS fun a hS=>?_;rcases cd hM with⟨A,hM⟩|⟨A,hM⟩
         ·refine ai hS fun a hS=>?_;rcases cd hM with⟨B,hM⟩|⟨B,hM⟩
          ·refine ai hS fun a hS=>?_;rcases cd hM with⟨h,hM⟩|⟨h,hM⟩
           ·exact fz
           refine ai hS fun a hS=>?_;obtain⟨O,l,hM⟩:=bd hM;refine wg hS rfl rfl rfl h (bg hS xQ rfl rfl (c7 _ _ hS.dlt b.Key _ l) fun _ w hR a hk hA=>?_);obtain rfl:=hR;have hS:=bY hA;exact fz
          exact fz
         exact fz
        exact fz
       exact fz
      exact fz
     exact fz
    exact fz
   exact fz
  exact fz
 rintro a w ⟨e,hS,hM⟩;unfold cO at hM;exact fz
def nF (b:LR):Option Bool:=some (decide ((b.length:Int)≤4000))
def eu (b:Int) (c:Bool):Option (Fl (Int) (Fl (Unit) Bool)):=cond c (some (.out (.out false))) (some (.go (IntKind.i64.wrap (b+1))))
def ia (d:LR) (b:Int):Option (Fl (Int) (Fl (Unit) Bool)):=cond (decide (b<(d.length:Int))) ((bu d b).bind fun c=>(qo c).bind fun f=>cond (!(f)) (eu b true) (cond (decide ((0:Int)<b)) ((bu d (IntKind.i64.wrap (b-1))).bind fun e=>(jK e.Key c.Key).bind fun g=>eu b (decide ((0:Int)≤g))) (eu b false))) (some (.out (.go ())))
def kK (b:LR):Option Bool:=(loop (fun s:Int=>ia b s) 0).bind fun r=>Fl.el r (fun s=>nF b) (fun y=>some (y))
theorem xi (T:Nat→Prop) (W0:World) (hT:TW T W0) (hLv:di T W0) (b:LR) (d:Value) (C:aE aa T W0 d b) (y:Bool) (hM:kK b=some y):bj aP No 49 [d] W0 (fun v w'=>v = .bool y):=by
 refine en Tryz.func49 Tryz.ntmps49 hT fun a hS=>?_;replace hS:=(hS.fact bC (di.dn hLv)).fS (aE.dn C);unfold kK at hM;refine ai hS fun a hS=>?_;refine aK (J:=fun a w=>St W0 No T 35 [(0,d)] [] [aR aa d b,bC] a w∧nF b=some y) ?_ ?_
 ·skip;refine ai hS fun a hS=>?_;obtain⟨O,k,hMo1⟩:=bd hM;refine bF _ (fun s a w=>∃ (c:Int),c=s∧St W0 No T 35 [(0,d),(5,d),(6,al (b.length:Int)),(7,al c)] [] [aR aa d b,bC] a w) k ⟨_,rfl,hS.mt [] [0,1]⟩ ?_;rintro s a w B ⟨c,rfl,hS⟩ hM hf1;have hM:ia b c=some B:=hM;unfold ia at hM;refine ai hS fun a hS=>?_;refine aD ?_;rcases cd hM with⟨r,hM⟩|⟨r,hM⟩
  ·refine ai hS fun a hS=>?_;refine aD ?_;refine ai hS fun a hS=>?_;obtain⟨g,h,hM⟩:=bd hM;refine wl rfl (bm (R:=aa) hS qB m5 rfl rfl 0 rfl h rfl fun D I F t a hS=>?_);obtain⟨M,rfl,n⟩:=t;replace hS:=hS.fS n;refine ai hS fun a hS=>?_;refine ka hS gV fun E H a w hk hS=>?_;refine go hS fun a w hS=>?_;refine aK (J:=fun a w=>∃ (e:Bool),St W0 No T 35 [(0,d),(5,d),(6,al (b.length:Int)),(7,al c),(30,.bool e)] [] [aR aa d b,bC] a w∧eu c e=some B) ?_ ?_
   ·skip;refine dr [] hS fun w hQ hS=>?_;refine gE [0] hS fun a hS=>?_;obtain⟨K,l,hM⟩:=bd hM;refine ec 1 hS Pz (Bc _ _ hS.dlt g _ (hS.get 0 rfl) _ l) fun _ w hR a hk hA=>?_;obtain rfl:=hR;have hS:=bY hA;refine gE [2,3] hS fun a hS=>?_;rcases cd hM with⟨u,hM⟩|⟨u,hM⟩
    ·refine gE [4,5,6,7,8,9,10,11,12,13,14,15,16,17,18] hS fun a hS=>?_;refine eD ?_;exact⟨_,hS.mt [] [2,3],hM⟩
    refine gE [4,5,6] hS fun a hS=>?_;rcases cd hM with⟨f,hM⟩|⟨f,hM⟩
    ·refine gE [7,8,9] hS fun a hS=>?_;obtain⟨q,j,hM⟩:=bd hM;obtain⟨p,A,G,x,z,hS⟩:=jj (R:=aa) hS qB m5 2 rfl j;obtain⟨N,rfl,o⟩:=x;replace hS:=hS.fS o;refine y7 10 (v:=pt p A) rfl (by kernel_rfl) (by kernel_rfl) (by kernel_rfl) rfl hQ hS (z rfl rfl) rfl rfl rfl f rfl rfl fun a hS=>?_;refine gE [11,12,13,14] hS fun a hS=>?_;obtain⟨L,m,hM⟩:=bd hM;refine cI (i:=15) rfl (by kernel_rfl) hS rfl rfl rfl f (bg hS ED rfl rfl (lF _ _ hS.dlt (hS.get 5 rfl) q.Key g.Key _ m) fun _ w hR a hk hA=>⟨gf (hk),?_⟩);obtain rfl:=hR;have hS:=bY hA;refine gE [16,17,18] hS fun a hS=>?_;refine eD ?_;exact⟨_,hS.mt [] [4,5],hM⟩
    refine gE [7,8,9,10,11,12,13,14,15,16,17,18] hS fun a hS=>?_;refine eD ?_;exact⟨_,hS.mt [] [2,3],hM⟩
   rintro a w ⟨e,hS,hM⟩;unfold eu at hM;exact fz
  exact fz
 rintro a w ⟨hS,hM⟩;unfold nF at hM;exact fz
def jO (b:Bool):Option Bool:=some (b)
def ic (b:aj):Option Bool:=cond (decide ((0:Int)≤b.Revision)) (cond (decide (b.Revision≤1073741824)) (cond (decide ((b.Inputs.length:Int)≤64)) ((kK b.Records).bind fun c=>jO c) (jO false)) (jO false)) (jO false)
def eM (c:aj) (b:Int):Option (Fl (Int) (Fl (Unit) Bool)):=cond (decide (b<(c.Records.length:Int))) ((bu c.Records b).bind fun d=>cond (decide (c.Revision<d.Verified)) (some (.out (.out false))) (some (.go (IntKind.i64.wrap (b+1))))) (some (.out (.go ())))
def ie (b:aj):Option Bool:=(loop (fun s:Int=>eM b s) 0).bind fun r=>Fl.el r (fun s=>ic b) (fun y=>some (y))
def cH (b:Int) (c:Bool):Option (Fl (Int) (Fl (Unit) Bool)):=cond c (some (.out (.out false))) (some (.go (IntKind.i64.wrap (b+1))))
def eN (d:aj) (b:Int):Option (Fl (Int) (Fl (Unit) Bool)):=cond (decide (b<(d.Inputs.length:Int))) ((bu d.Inputs b).bind fun c=>(cE c.Key).bind fun f=>cond (!(f)) (cH b true) ((cr c.Key).bind fun g=>cond (!(g)) (cH b true) (cond (decide ((0:Int)<b)) ((bu d.Inputs (IntKind.i64.wrap (b-1))).bind fun e=>(jK e.Key c.Key).bind fun h=>cond (decide ((0:Int)≤h)) (cH b true) (cond (decide ((1073741824:Int)<(c.Value.size:Int))) (cH b true) (cond (decide (c.Changed<0)) (cH b true) (cH b (decide (d.Revision<c.Changed)))))) (cond (decide ((1073741824:Int)<(c.Value.size:Int))) (cH b true) (cond (decide (c.Changed<0)) (cH b true) (cH b (decide (d.Revision<c.Changed)))))))) (some (.out (.go ())))
def fc (b:aj):Option Bool:=(loop (fun s:Int=>eN b s) 0).bind fun r=>Fl.el r (fun s=>ie b) (fun y=>some (y))
theorem mQ (T:Nat→Prop) (W0:World) (hT:TW T W0) (hLv:di T W0) (b:aj) (d:Value) (f:Value) (W:aE ae T W0 d b.Inputs) (X:aE aa T W0 f b.Records) (y:Bool) (hM:fc b=some y):bj aP No 22 [.agg (bf b d f).toArray] W0 (fun v w'=>v = .bool y):=by
 refine en Tryz.func22 Tryz.ntmps22 hT fun a hS=>?_;replace hS:=((hS.fact bC (di.dn hLv)).fS (aE.dn W)).fS (aE.dn X);unfold fc at hM;refine ai hS fun a hS=>?_;refine kb hS fun c a9 a w hk hS=>?_;refine ai hS fun a hS=>?_;refine aK (J:=fun a w=>St W0 No T 93 [(1,pt c 0)] [.box c (bf b d f) 31] [aR ae d b.Inputs,aR aa f b.Records,bC] a w∧ie b=some y) ?_ ?_
 ·skip;refine ai hS fun a hS=>?_;obtain⟨r1,o,hMo1⟩:=bd hM;refine bF _ (fun s a w=>∃ (e:Int),e=s∧St W0 No T 93 [(1,pt c 0),(8,d),(9,al (b.Inputs.length:Int)),(10,al e)] [.box c (bf b d f) 31] [aR ae d b.Inputs,aR aa f b.Records,bC] a w) o ⟨_,rfl,hS.mt [0] [1,0,2]⟩ ?_;rintro s a w p ⟨e,rfl,hS⟩ hM hf1;have hM:eN b e=some p:=hM;unfold eN at hM;refine ai hS fun a hS=>?_;refine aD ?_;rcases cd hM with⟨E,hM⟩|⟨E,hM⟩
  ·refine ai hS fun a hS=>?_;refine aD ?_;refine ai hS fun a hS=>?_;obtain⟨h,r,hM⟩:=bd hM;refine wl rfl (bm (R:=ae) hS u5 uz rfl rfl 0 rfl r rfl fun Y ag a2 F a hS=>?_);obtain rfl:=F;refine ai hS fun a hS=>?_;refine ka hS ug fun Z ab a w hk hS=>?_;refine go hS fun a w hS=>?_;refine aK (J:=fun a w=>∃ (k:Bool),St W0 No T 93 [(1,pt c 0),(8,d),(9,al (b.Inputs.length:Int)),(10,al e),(59,.bool k)] [.box c (bf b d f) 31] [aR ae d b.Inputs,aR aa f b.Records,bC] a w∧cH e k=some p) ?_ ?_
   ·skip;refine dr [] hS fun w hQ hS=>?_;refine gE [0,1] hS fun a hS=>?_;obtain⟨b0,x,hM⟩:=bd hM;refine ec 2 hS Gw (kY _ _ hS.dlt h.Key _ x) fun _ w hR a hk hA=>?_;obtain rfl:=hR;have hS:=bY hA;refine gE [3,4] hS fun a hS=>?_;rcases cd hM with⟨m,hM⟩|⟨m,hM⟩
    ·refine gE [5,6,7,8,9,10,11,12,13,14,15,16,17,18,19,20,21,22,23,24,25,26,27,28,29,30,31,32,33,34,35,36,37,38,39,40,41,42,43,44] hS fun a hS=>?_;refine eD ?_;exact⟨_,hS.mt [1] [1,2,3],hM⟩
    refine gE [5,6] hS fun a hS=>?_;obtain⟨b1,z,hM⟩:=bd hM;refine cI (i:=7) rfl (by kernel_rfl) hS rfl rfl rfl m (bg hS yS rfl rfl (dJ _ _ hS.dlt h.Key _ z) fun _ w hR a hk hA=>⟨gf (hk),?_⟩);obtain rfl:=hR;have hS:=bY hA;refine gE [8,9,10] hS fun a hS=>?_;rcases cd hM with⟨G,hM⟩|⟨G,hM⟩
    ·refine gE [11,12,13,14,15,16,17,18,19,20,21,22,23,24,25,26,27,28,29,30,31,32,33,34,35,36,37,38,39,40,41,42,43,44] hS fun a hS=>?_;refine eD ?_;exact⟨_,hS.mt [1] [1,2,3],hM⟩
    refine gE [11,12,13] hS fun a hS=>?_;rcases cd hM with⟨l,hM⟩|⟨l,hM⟩
    ·refine gE [14,15,16,17] hS fun a hS=>?_;obtain⟨D,t,hM⟩:=bd hM;obtain⟨C,V,a3,H,I,hS⟩:=jj (R:=ae) hS u5 uz 1 rfl t;obtain rfl:=H;refine y7 18 (v:=pt C V) rfl (by kernel_rfl) (by kernel_rfl) (by kernel_rfl) rfl hQ hS (I rfl rfl) rfl rfl rfl l rfl rfl fun a hS=>?_;refine gE [19,20,21,22] hS fun a hS=>?_;obtain⟨b2,A,hM⟩:=bd hM;refine cI (i:=23) rfl (by kernel_rfl) hS rfl rfl rfl l (bg hS ED rfl rfl (lF _ _ hS.dlt (hS.get 4 rfl) D.Key h.Key _ A) fun _ w hR a hk hA=>⟨gf (hk),?_⟩);obtain rfl:=hR;have hS:=bY hA;refine gE [24,25,26,27] hS fun a hS=>?_;rcases cd hM with⟨K,hM⟩|⟨K,hM⟩
     ·refine gE [28,29,30,31,32,33,34,35,36,37,38,39,40,41,42,43,44] hS fun a hS=>?_;refine eD ?_;exact⟨_,hS.mt [1] [2,3,4],hM⟩
     refine gE [28,29,30,31,32,33] hS fun a hS=>?_;rcases cd hM with⟨L,hM⟩|⟨L,hM⟩
     ·refine gE [34,35,36,37,38,39,40,41,42,43,44] hS fun a hS=>?_;refine eD ?_;exact⟨_,hS.mt [1] [2,3,4],hM⟩
     refine gE [34,35,36,37,38] hS fun a hS=>?_;rcases cd hM with⟨M,hM⟩|⟨M,hM⟩
     ·refine gE [39,40,41,42,43,44] hS fun a hS=>?_;refine eD ?_;exact⟨_,hS.mt [1] [2,3,4],hM⟩
     refine gE [39,40,41,42,43,44] hS fun a hS=>?_;refine eD ?_;exact⟨_,hS.mt [1] [2,3,4],hM⟩
    refine gE [14,15,16,17,18,19,20,21,22,23,24,25,26,27,28,29,30,31,32,33] hS fun a hS=>?_;rcases cd hM with⟨N,hM⟩|⟨N,hM⟩
    ·refine gE [34,35,36,37,38,39,40,41,42,43,44] hS fun a hS=>?_;refine eD ?_;exact⟨_,hS.mt [1] [1,2,3],hM⟩
    refine gE [34,35,36,37,38] hS fun a hS=>?_;rcases cd hM with⟨O,hM⟩|⟨O,hM⟩
    ·refine gE [39,40,41,42,43,44] hS fun a hS=>?_;refine eD ?_;exact⟨_,hS.mt [1] [1,2,3],hM⟩
    refine gE [39,40,41,42,43,44] hS fun a hS=>?_;refine eD ?_;exact⟨_,hS.mt [1] [1,2,3],hM⟩
   rintro a w ⟨k,hS,hM⟩;unfold cH at hM;exact fz
  exact fz
 rintro a w ⟨hS,hM⟩;unfold ie at hM;refine aK (J:=fun a w=>St W0 No T 93 [(1,pt c 0)] [.box c (bf b d f) 31] [aR ae d b.Inputs,aR aa f b.Records,bC] a w∧ic b=some y) ?_ ?_
 ·skip;refine ai hS fun a hS=>?_;obtain⟨r1,o,hMo1⟩:=bd hM;refine bF _ (fun s a w=>∃ (g:Int),g=s∧St W0 No T 93 [(1,pt c 0),(62,f),(63,al (b.Records.length:Int)),(64,al g)] [.box c (bf b d f) 31] [aR aa f b.Records,aR ae d b.Inputs,bC] a w) o ⟨_,rfl,hS.mt [0] [1,0,2]⟩ ?_;rintro s a w p ⟨g,rfl,hS⟩ hM hf1;have hM:eM b g=some p:=hM;unfold eM at hM;refine ai hS fun a hS=>?_;refine aD ?_;rcases cd hM with⟨P,hM⟩|⟨P,hM⟩
  ·refine ai hS fun a hS=>?_;refine aD ?_;refine ai hS fun a hS=>?_;obtain⟨a5,q,hM⟩:=bd hM;refine wl rfl (bm (R:=aa) hS qB m5 rfl rfl 0 rfl q rfl fun a0 ak a4 Q a hS=>?_);obtain⟨b3,rfl,B⟩:=Q;replace hS:=hS.fS B;refine ai hS fun a hS=>?_;refine ka hS gV fun a1 af a w hk hS=>?_;exact fz
  exact fz
 rintro a w ⟨hS,hM⟩;unfold ic at hM;refine aK (J:=fun a w=>∃ (j:Bool),St W0 No T 93 [(2,.bool j)] [] [bC] a w∧jO j=some y) ?_ ?_
 ·skip;refine ai hS fun a hS=>?_;rcases cd hM with⟨S,hM⟩|⟨S,hM⟩
  ·refine ai hS fun a hS=>?_;rcases cd hM with⟨U,hM⟩|⟨U,hM⟩
   ·refine ai hS fun a hS=>?_;rcases cd hM with⟨n,hM⟩|⟨n,hM⟩
    ·refine ai hS fun a hS=>?_;obtain⟨av,u,hM⟩:=bd hM;refine wg hS rfl rfl rfl n (bg hS Pf rfl rfl (xi _ _ hS.dlt (hS.get 2 rfl) b.Records _ (hS.get 1 rfl) _ u) fun _ w hR a hk hA=>?_);obtain rfl:=hR;have hS:=bY hA;exact fz
    exact fz
   exact fz
  exact fz
 rintro a w ⟨j,hS,hM⟩;unfold jO at hM;exact fz
def sV (b:ah):Option aN:=some ((aN.mk b bI 0))
def gF (d:aj) (e:ah) (c:Int):Option (Fl (Int) (Fl (Unit) aN)):=cond (decide (c<(d.Inputs.length:Int))) ((bu d.Inputs c).bind fun b=>cond (b.Key.Kind==e.Kind&&b.Key.Text.toList==e.Text.toList) (some (.out (.out b))) (some (.go (IntKind.i64.wrap (c+1))))) (some (.out (.go ())))
def py (c:aj) (b:ah):Option aN:=(loop (fun s:Int=>gF c b s) 0).bind fun r=>Fl.el r (fun s=>sV b) (fun y=>some (y))
theorem xk (T:Nat→Prop) (W0:World) (hT:TW T W0) (c:aj) (b:ah) (i:Value) (p:Value) (n:aE ae T W0 i c.Inputs) (o:aE aa T W0 p c.Records) (y:aN) (hM:py c b=some y):bj aP No 42 [.agg (bf c i p).toArray,.agg (aV b).toArray] W0 (fun v w'=>v = .agg (pg y).toArray):=by
 refine en Tryz.func42 Tryz.ntmps42 hT fun a hS=>?_;replace hS:=(hS.fS (aE.dn n)).fS (aE.dn o);unfold py at hM;refine ai hS fun a hS=>?_;refine kb hS fun q z a w hk hS=>?_;refine kb hS fun d A a w hk hS=>?_;refine ka hS ug fun e B a w hk hS=>?_;refine ai hS fun a hS=>?_;refine aK (J:=fun a w=>St W0 No T 22 [(3,pt d 0),(4,pt e 0)] [.box d (aV b) 44,.box e [al 0,aO bI,aO bI,al 0] 69] [] a w∧sV b=some y) ?_ ?_
 ·skip;refine ai hS fun a hS=>?_;obtain⟨E,m,hMo1⟩:=bd hM;refine bF _ (fun s a w=>∃ (f:Int),f=s∧St W0 No T 22 [(3,pt d 0),(4,pt e 0),(8,i),(9,al (c.Inputs.length:Int)),(10,al f)] [.box d (aV b) 44,.box e [al 0,aO bI,aO bI,al 0] 69] [aR ae i c.Inputs] a w) m ⟨_,rfl,hS.mt [1,0] [1]⟩ ?_;rintro s a w x ⟨f,rfl,hS⟩ hM hf1;have hM:gF c b f=some x:=hM;unfold gF at hM;refine ai hS fun a hS=>?_;refine aD ?_;rcases cd hM with⟨j,hM⟩|⟨j,hM⟩
  ·refine ai hS fun a hS=>?_;refine aD ?_;refine ai hS fun a hS=>?_;obtain⟨g,h,hM⟩:=bd hM;refine wl rfl (bm (R:=ae) hS u5 uz rfl rfl 0 rfl h rfl fun r D u k a hS=>?_);obtain rfl:=k;refine ai hS fun a hS=>?_;refine ka hS ug fun t C a w hk hS=>?_;refine go hS fun a w hS=>?_;refine wl rfl (ky (v:=.bool (g.Key.Kind==b.Kind&&g.Key.Text.toList==b.Text.toList)) hS (zL hS rfl rfl) rfl rfl fun a hS=>?_);refine ai hS fun a hS=>?_;rcases cd hM with⟨l,hM⟩|⟨l,hM⟩
   ·refine go hS fun a w hS=>?_;cases hM
    have hr:=hf1 _ rfl;subst hr;replace hMo1:=kl hMo1;have hM:=hMo1;cases hM
    refine aI hS rfl (rC 2 hS) ?_;exact rfl
   exact fz
  exact fz
 rintro a w ⟨hS,hM⟩;unfold sV at hM;refine ai hS fun a hS=>?_;refine qy hS (bq (ps:=[(0,.tmp 20)]) hS Iv ug rfl (us:=[(aV b)]) ⟨rfl,trivial⟩ (ws:=[al b.Kind,aO b.Text,aO bI,al 0]) rfl) fun a hS=>?_;refine go hS fun a w hS=>?_;cases hM
 refine aI hS rfl (rC 1 hS) ?_;exact rfl
def nU (c:aj) (d:ah):Option ByteArray:=(py c d).bind fun b=>some (b.Value)
theorem sD (T:Nat→Prop) (W0:World) (hT:TW T W0) (b:aj) (c:ah) (g:Value) (h:Value) (e:aE ae T W0 g b.Inputs) (f:aE aa T W0 h b.Records) (y:ByteArray) (hM:nU b c=some y):bj aP No 15 [.agg (bf b g h).toArray,.agg (aV c).toArray] W0 (fun v w'=>v=aO y):=by
 refine en Tryz.func15 Tryz.ntmps15 hT fun a hS=>?_;replace hS:=(hS.fS (aE.dn e)).fS (aE.dn f);unfold nU at hM;refine ai hS fun a hS=>?_;refine kb hS fun i k a w hk hS=>?_;refine kb hS fun j l a w hk hS=>?_;refine ai hS fun a hS=>?_;obtain⟨m,d,hM⟩:=bd hM;refine kc hS Oa (xk _ _ hS.dlt b c _ _ (hS.get 1 rfl) (hS.get 0 rfl) _ d) fun _ w hR a hk hA=>?_;obtain rfl:=hR;have hS:=bY hA;refine qy hS (AF hS rfl Tryz.underlying69 rfl rfl Ji rfl rfl (fun _=>rfl)) fun a hS=>?_;exact fz
def jN (b:aj) (c:aj) (e:Bool) (d:LI):Option (aj×Int):=cond (!(e)) (some ((b,0))) (cond (decide ((64:Int)<(d.length:Int))) (some ((b,45))) (cond (decide ((1073741824:Int)<(IntKind.i64.wrap (c.Revision+1)))) (some ((b,3))) (some (((aj.mk (IntKind.i64.wrap (c.Revision+1)) d c.Records),0)))))
def fL (c:Int) (b:Bool) (d:LI):Option (Fl (Bool×Int×LI) (Bool×LI)):=some (.go (b,IntKind.i64.wrap (c+1),d))
def d9 (b:Int) (c:LI):Option (Fl (Bool×Int×LI) (Bool×LI)):=fL b true c
def eL (e:aj) (d:Int) (b:am) (c:LI) (f:Bool):Option (Fl (Bool×Int×LI) (Bool×LI)):=cond (!(f)) (gd (bH (c.length+([(aN.mk b.Key b.Value (IntKind.i64.wrap (e.Revision+1)))]).length)) <| d9 d (c++([(aN.mk b.Key b.Value (IntKind.i64.wrap (e.Revision+1)))]))) (d9 d c)
def fN (b:Int) (c:LI) (d:Bool):Option (Fl (LI×Bool×Int) (LI×Bool)):=some (.go (c,d,IntKind.i64.wrap (b+1)))
def fO (d:Int) (c:aN) (f:Int) (b:LI) (e:Bool):Option (Fl (LI×Bool×Int) (LI×Bool)):=cond (f != 0) (gd (bH (b.length+([c]).length)) <| fN d (b++([c])) e) (fN d b e)
def fP (f:aj) (b:am) (c:LI) (i:Bool) (e:Int) (d:aN) (g:Int) (h:Bool):Option (Fl (LI×Bool×Int) (LI×Bool)):=cond h (gd (bH (c.length+([(aN.mk b.Key b.Value (IntKind.i64.wrap (f.Revision+1)))]).length)) <| fO e d g (c++([(aN.mk b.Key b.Value (IntKind.i64.wrap (f.Revision+1)))])) true) (fO e d g c i)
def fQ (i:aj) (h:LI) (d:am) (f:LI) (c:Bool) (b:Int):Option (Fl (LI×Bool×Int) (LI×Bool)):=cond (decide (b<(h.length:Int))) ((bu h b).bind fun e=>(jK e.Key d.Key).bind fun g=>cond (decide ((0:Int)≤g)) (fP i d f c b e g (!(c))) (fP i d f c b e g false)) (some (.out (f,c)))
def lM (h:aj) (f:aj) (e:Bool) (c:Int) (d:LI) (b:am) (g:Bool):Option (Fl (Bool×Int×LI) (Bool×LI)):=cond (!(g)) (fL c e d) ((nU h b.Key).bind fun i=>cond (i.toList==b.Value.toList) (fL c e d) ((loop (fun s:LI×Bool×Int=>fQ f d b s.1 s.2.1 s.2.2) (([]:List aN),false,0)).bind fun r=>eL f c b r.1 r.2))
def ga (c:am) (e:LC) (f:Bool) (b:Int):Option (Fl (Bool×Int) (Bool)):=cond (decide (b<(e.length:Int))) ((bu e b).bind fun d=>cond f (some (.go (!(d.Key.Kind==c.Key.Kind&&d.Key.Text.toList==c.Key.Text.toList),IntKind.i64.wrap (b+1)))) (some (.go (false,IntKind.i64.wrap (b+1))))) (some (.out f))
def gc (c:LC) (h:aj) (i:aj) (d:Bool) (b:Int) (f:LI):Option (Fl (Bool×Int×LI) (Bool×LI)):=cond (decide (b<(c.length:Int))) ((bu c b).bind fun e=>(o0 c (IntKind.i64.wrap (b+1)) c.length).bind fun g=>(loop (fun s:Bool×Int=>ga e g s.1 s.2) (true,0)).bind fun r=>lM h i d b f e r) (some (.out (d,f)))
def f8 (d:LC) (b:aj):Option (aj×Int):=(dG b).bind fun c=>(loop (fun s:Bool×Int×LI=>gc d b c s.1 s.2.1 s.2.2) (false,0,c.Inputs)).bind fun r=>jN b c r.1 r.2
def fa (c:LC) (e:aj) (b:Int):Option (Fl (Int) (Fl (Unit) (aj×Int))):=cond (decide (b<(c.length:Int))) ((bu c b).bind fun d=>cond (decide ((1073741824:Int)<(d.Value.size:Int))) (some (.out (.out (e,3)))) (some (.go (IntKind.i64.wrap (b+1))))) (some (.out (.go ())))
def f9 (c:LC) (b:aj):Option (aj×Int):=(loop (fun s:Int=>fa c b s) 0).bind fun r=>Fl.el r (fun s=>f8 c b) (fun y=>some (y))
def fb (e:LC) (d:aj) (b:Int):Option (Fl (Int) (Fl (Unit) (aj×Int))):=cond (decide (b<(e.length:Int))) ((bu e b).bind fun c=>(cE c.Key).bind fun f=>cond (!(f)) (some (.out (.out (d,40)))) ((cr c.Key).bind fun g=>cond (!(g)) (some (.out (.out (d,40)))) (some (.go (IntKind.i64.wrap (b+1)))))) (some (.out (.go ())))
def iU (e:aj) (c:LC):Option (aj×Int):=(dG e).bind fun b=>(fc b).bind fun d=>cond (!(d)) (some ((b,42))) (cond (decide ((32:Int)<(c.length:Int))) (some ((b,3))) ((loop (fun s:Int=>fb c b s) 0).bind fun r=>Fl.el r (fun s=>f9 c b) (fun y=>some (y))))
theorem sS (T:Nat→Prop) (W0:World) (hT:TW T W0) (hLv:di T W0) (W:aj) (l:LC) (v1:Value) (v2:Value) (q:Value) (fd:aE ae T W0 v1 W.Inputs) (fl:aE aa T W0 v2 W.Records) (fn:aE ad T W0 q l) (y:aj×Int) (hM:iU W l=some y):bj aP No 31 [.agg (bf W v1 v2).toArray,q] W0 (fun v w'=>∃ (v4:Value) (v5:Value),v = .tuple #[.agg (bf y.1 v4 v5).toArray,al y.2]∧aE ae (dT T []) w' v4 y.1.Inputs∧aE aa (dT T []) w' v5 y.1.Records):=by
 refine en Tryz.func31 Tryz.ntmps31 hT fun a hS=>?_;replace hS:=(((hS.fact bC (di.dn hLv)).fS (aE.dn fd)).fS (aE.dn fl)).fS (aE.dn fn);unfold iU at hM;refine ai hS fun a hS=>?_;refine kb hS fun g h9 a w hk hS=>?_;refine ka hS mo fun j ha a w hk hS=>?_;refine ai hS fun a hS=>?_;obtain⟨c,cs,hM⟩:=bd hM;refine kc hS xP (dP _ _ hS.dlt W _ _ (hS.get 2 rfl) (hS.get 1 rfl) _ cs) fun _ w hR a hk hA=>?_;obtain⟨e,D,f,E,he,c1,c2,c0⟩:=hR;obtain rfl:=he.symm;have hS:=uw hA c1 c2 c0;refine go hS fun a w hS=>?_;refine aD ?_;refine ai hS fun a hS=>?_;have hL:=hS;replace hL:=hL.freeze (R:=ae) 0 rfl 1 rfl;replace hL:=hL.freeze (R:=aa) 0 rfl 1 rfl;obtain⟨hu,d4,hM⟩:=bd hM;refine kc hS HA (mQ _ _ hL.dlt (hL.get 7 rfl) c _ _ (hL.get 1 rfl) (hL.get 0 rfl) _ d4) fun _ w hR a hk hA=>?_;obtain rfl:=hR;have hS:=bY hA;refine ai hS fun a hS=>?_;rcases cd hM with⟨d6,hM⟩|⟨d6,hM⟩
 ·refine go hS fun a w hS=>?_;replace hS:=(hS.freeze (R:=ae) 0 rfl 1 rfl).freeze (R:=aa) 0 rfl 1 rfl;cases hM
  refine aI hS Tryz.results31 (bn hS rfl 0 rfl fy rfl (fun h=>by cases h) (aq hS rfl aH)) ?_;exact⟨e,f,rfl,(aE.up trivial (hS.get 1 rfl)),(aE.up trivial (hS.get 0 rfl))⟩
 refine ai hS fun a hS=>?_;rcases cd hM with⟨da,hM⟩|⟨da,hM⟩
 ·refine go hS fun a w hS=>?_;replace hS:=(hS.freeze (R:=ae) 0 rfl 1 rfl).freeze (R:=aa) 0 rfl 1 rfl;cases hM
  refine aI hS Tryz.results31 (bn hS rfl 0 rfl fy rfl (fun h=>by cases h) (aq hS rfl aH)) ?_;exact⟨e,f,rfl,(aE.up trivial (hS.get 1 rfl)),(aE.up trivial (hS.get 0 rfl))⟩
 refine ai hS fun a hS=>?_;refine aK (J:=fun a w=>St W0 No T 172 [(1,q),(2,pt g 0),(4,pt j 0)] [bh e D,aS f E,.box g (bf c e f) 31,.box j [al 0,.slice none 0 0,.slice none 0 0] 31] [aR ad q l,an ae D c.Inputs,an aa E c.Records,bC] a w∧f9 l c=some y) ?_ ?_
 ·skip;refine ai hS fun a hS=>?_;obtain⟨r1,X,hMo1⟩:=bd hM;refine bF _ (fun s a w=>∃ (O:Int),O=s∧St W0 No T 172 [(1,q),(2,pt g 0),(4,pt j 0),(34,q),(35,al (l.length:Int)),(36,al O)] [bh e D,aS f E,.box g (bf c e f) 31,.box j [al 0,.slice none 0 0,.slice none 0 0] 31] [aR ad q l,an ae D c.Inputs,an aa E c.Records,bC] a w) X ⟨_,rfl,hS.mt [0,1,3,2] [2,1,0,5]⟩ ?_;rintro s a w K ⟨O,rfl,hS⟩ hM hf1;have hM:fb l c O=some K:=hM;unfold fb at hM;refine ai hS fun a hS=>?_;refine aD ?_;rcases cd hM with⟨dc,hM⟩|⟨dc,hM⟩
  ·refine ai hS fun a hS=>?_;refine aD ?_;refine ai hS fun a hS=>?_;obtain⟨bi,cl,hM⟩:=bd hM;refine wl rfl (bm (R:=ad) hS tA s9 rfl rfl 0 rfl cl rfl fun g2 hi gu dk a hS=>?_);obtain rfl:=dk;refine ai hS fun a hS=>?_;refine ka hS ir fun g3 hb a w hk hS=>?_;refine go hS fun a w hS=>?_;refine iY ?_;refine ai hS fun a hS=>?_;obtain⟨hs,d2,hM⟩:=bd hM;refine kc hS Gw (kY _ _ hS.dlt bi.Key _ d2) fun _ w hR a hk hA=>?_;obtain rfl:=hR;have hS:=bY hA;refine ai hS fun a hS=>?_;rcases cd hM with⟨bl,hM⟩|⟨bl,hM⟩
   ·refine go hS fun a w hS=>?_;replace hS:=(hS.freeze (R:=ae) 1 rfl 2 rfl).freeze (R:=aa) 1 rfl 4 rfl;cases hM
    have hr:=hf1 _ rfl;subst hr;replace hMo1:=kl hMo1;have hM:=hMo1;cases hM
    refine aI hS Tryz.results31 (bn hS rfl 2 rfl fy rfl (fun h=>by cases h) (aq hS rfl aH)) ?_;exact⟨e,f,rfl,(aE.up trivial (hS.get 1 rfl)),(aE.up trivial (hS.get 0 rfl))⟩
   refine ai hS fun a hS=>?_;obtain⟨ht,d3,hM⟩:=bd hM;refine wg hS rfl rfl rfl bl (bg hS yS rfl rfl (dJ _ _ hS.dlt bi.Key _ d3) fun _ w hR a hk hA=>?_);obtain rfl:=hR;have hS:=bY hA;refine ai hS fun a hS=>?_;rcases cd hM with⟨dl,hM⟩|⟨dl,hM⟩
   ·refine go hS fun a w hS=>?_;replace hS:=(hS.freeze (R:=ae) 1 rfl 2 rfl).freeze (R:=aa) 1 rfl 4 rfl;cases hM
    have hr:=hf1 _ rfl;subst hr;replace hMo1:=kl hMo1;have hM:=hMo1;cases hM
    refine aI hS Tryz.results31 (bn hS rfl 2 rfl fy rfl (fun h=>by cases h) (aq hS rfl aH)) ?_;exact⟨e,f,rfl,(aE.up trivial (hS.get 1 rfl)),(aE.up trivial (hS.get 0 rfl))⟩
   exact fz
  exact fz
 rintro a w ⟨hS,hM⟩;unfold f9 at hM;refine aK (J:=fun a w=>St W0 No T 172 [(1,q),(2,pt g 0),(4,pt j 0)] [bh e D,aS f E,.box g (bf c e f) 31,.box j [al 0,.slice none 0 0,.slice none 0 0] 31] [aR ad q l,an ae D c.Inputs,an aa E c.Records,bC] a w∧f8 l c=some y) ?_ ?_
 ·skip;refine ai hS fun a hS=>?_;obtain⟨r1,X,hMo1⟩:=bd hM;refine bF _ (fun s a w=>∃ (N:Int),N=s∧St W0 No T 172 [(1,q),(2,pt g 0),(4,pt j 0),(52,q),(53,al (l.length:Int)),(54,al N)] [bh e D,aS f E,.box g (bf c e f) 31,.box j [al 0,.slice none 0 0,.slice none 0 0] 31] [aR ad q l,an ae D c.Inputs,an aa E c.Records,bC] a w) X ⟨_,rfl,hS.mt [0,1,2,3] [0,1,2,3]⟩ ?_;rintro s a w K ⟨N,rfl,hS⟩ hM hf1;have hM:fa l c N=some K:=hM;unfold fa at hM;refine ai hS fun a hS=>?_;refine aD ?_;rcases cd hM with⟨ds,hM⟩|⟨ds,hM⟩
  ·refine ai hS fun a hS=>?_;refine aD ?_;refine ai hS fun a hS=>?_;obtain⟨h8,ck,hM⟩:=bd hM;refine wl rfl (bm (R:=ad) hS tA s9 rfl rfl 0 rfl ck rfl fun g4 hj h0 e2 a hS=>?_);obtain rfl:=e2;refine ai hS fun a hS=>?_;refine ka hS ir fun g5 hc a w hk hS=>?_;refine go hS fun a w hS=>?_;rcases cd hM with⟨e3,hM⟩|⟨e3,hM⟩
   ·refine go hS fun a w hS=>?_;replace hS:=(hS.freeze (R:=ae) 1 rfl 2 rfl).freeze (R:=aa) 1 rfl 4 rfl;cases hM
    have hr:=hf1 _ rfl;subst hr;replace hMo1:=kl hMo1;have hM:=hMo1;cases hM
    refine aI hS Tryz.results31 (bn hS rfl 2 rfl fy rfl (fun h=>by cases h) (aq hS rfl aH)) ?_;exact⟨e,f,rfl,(aE.up trivial (hS.get 1 rfl)),(aE.up trivial (hS.get 0 rfl))⟩
   exact fz
  exact fz
 rintro a w ⟨hS,hM⟩;unfold f8 at hM;refine ai hS fun a hS=>?_;replace hS:=(hS.freeze (R:=ae) 0 rfl 1 rfl).freeze (R:=aa) 0 rfl 3 rfl;obtain⟨d,cv,hM⟩:=bd hM;refine kc hS xP (dP _ _ hS.dlt c _ _ (hS.get 1 rfl) (hS.get 0 rfl) _ cv) fun _ w hR a hk hA=>?_;obtain⟨hv,h1,m,p,he,c3,c4,c0⟩:=hR;obtain rfl:=he.symm;have hS:=uw hA c3 c4 c0;refine ka hS mo fun o hd a w hk hS=>?_;refine go hS fun a w hS=>?_;refine aK (J:=fun a w=>∃ (Y:Bool) (ao:LI) (V:Value) (a0:LV),St W0 No T 172 [(2,pt g 0),(4,pt j 0),(10,pt o 0),(11,.bool Y)] [.box g (bf c e f) 31,.box j [al 0,.slice none 0 0,.slice none 0 0] 31,bh V a0,aS m p,.box o [al (IntKind.i64.wrap (d.Revision+1)),V,m] 31] [aR ae e c.Inputs,aR aa f c.Records,an ae a0 ao,an aa p d.Records,bC] a w∧jN c d Y ao=some y) ?_ ?_
 ·skip;refine ai hS fun a hS=>?_;obtain⟨r1,X,hMo1⟩:=bd hM;refine bF _ (fun s a w=>∃ (C:Bool) (u:Int) (t:LI) (n:Value) (r:LV),(C,u,t)=s∧St W0 No T 172 [(1,q),(2,pt g 0),(4,pt j 0),(10,pt o 0),(11,.bool C),(70,q),(71,al (l.length:Int)),(72,al u)] [.box g (bf c e f) 31,.box j [al 0,.slice none 0 0,.slice none 0 0] 31,bh n r,aS m p,.box o [al (IntKind.i64.wrap (d.Revision+1)),n,m] 31] [aR ad q l,aR ae e c.Inputs,aR aa f c.Records,an ae r t,an aa p d.Records,bC] a w) X ⟨_,_,_,_,_,rfl,hS.mt [3,4,1,2,0] [4,3,2,1,0,7]⟩ ?_;rintro s a w K ⟨C,u,t,n,r,rfl,hS⟩ hM hf1;have hM:gc l c d C u t=some K:=hM;unfold gc at hM;refine ai hS fun a hS=>?_;refine aD ?_;rcases cd hM with⟨e4,hM⟩|⟨e4,hM⟩
  ·refine ai hS fun a hS=>?_;refine aK (J:=fun a w=>∃ (Z:Bool) (av:LI) (b3:Value) (a1:LV),St W0 No T 172 [(1,q),(2,pt g 0),(4,pt j 0),(10,pt o 0),(11,.bool Z),(70,q),(71,al (l.length:Int)),(72,al u)] [.box g (bf c e f) 31,.box j [al 0,.slice none 0 0,.slice none 0 0] 31,bh b3 a1,aS m p,.box o [al (IntKind.i64.wrap (d.Revision+1)),b3,m] 31] [aR ad q l,aR ae e c.Inputs,aR aa f c.Records,an ae a1 av,an aa p d.Records,bC] a w∧fL u Z av=some K) ?_ ?_
   ·skip;refine ai hS fun a hS=>?_;obtain⟨b,ca,hM⟩:=bd hM;refine wl rfl (bm (R:=ad) hS tA s9 rfl rfl 0 rfl ca rfl fun g6 hl h2 e5 a hS=>?_);obtain rfl:=e5;refine ai hS fun a hS=>?_;refine ka hS ir fun z hf a w hk hS=>?_;refine go hS fun a w hS=>?_;refine aK (J:=fun a w=>∃ (ag:Bool),St W0 No T 172 [(1,q),(2,pt g 0),(4,pt j 0),(10,pt o 0),(11,.bool C),(13,pt z 0),(14,.bool ag),(70,q),(71,al (l.length:Int)),(72,al u)] [.box g (bf c e f) 31,.box j [al 0,.slice none 0 0,.slice none 0 0] 31,bh n r,aS m p,.box o [al (IntKind.i64.wrap (d.Revision+1)),n,m] 31,.box z (gt b) 46] [aR ad q l,aR ae e c.Inputs,aR aa f c.Records,an ae r t,an aa p d.Records,bC] a w∧lM c d C u t b ag=some K) ?_ ?_
    ·skip;refine ai hS fun a hS=>?_;obtain⟨ak,co,hM⟩:=bd hM;refine wl rfl (H2 (R:=ad) (k2:=.i64) hS tA s9 rfl (.inl ⟨_,rfl,rfl⟩) (.inr ⟨rfl,rfl⟩) 1 rfl co rfl fun c9 a hS=>?_);refine ai hS fun a hS=>?_;obtain⟨r2,c5,hMo2⟩:=bd hM;refine bF _ (fun s a w=>∃ (S:Bool) (M:Int),(S,M)=s∧St W0 No T 172 [(1,q),(2,pt g 0),(4,pt j 0),(10,pt o 0),(11,.bool C),(13,pt z 0),(14,.bool S),(70,q),(71,al (l.length:Int)),(72,al u),(80,c9),(81,al (ak.length:Int)),(82,al M)] [.box g (bf c e f) 31,.box j [al 0,.slice none 0 0,.slice none 0 0] 31,bh n r,aS m p,.box o [al (IntKind.i64.wrap (d.Revision+1)),n,m] 31,.box z (gt b) 46] [aR ad q l,aR ad c9 ak,aR ae e c.Inputs,aR aa f c.Records,an ae r t,an aa p d.Records,bC] a w) c5 ⟨_,_,rfl,hS.mt [1,2,3,4,5,0] [2,0,3,4,5,6,7]⟩ ?_;rintro s a w f2 ⟨S,M,rfl,hS⟩ hM hf2;have hM:ga b ak S M=some f2:=hM;unfold ga at hM;refine ai hS fun a hS=>?_;refine aD ?_;rcases cd hM with⟨e8,hM⟩|⟨e8,hM⟩
     ·refine ai hS fun a hS=>?_;refine aD ?_;refine ai hS fun a hS=>?_;obtain⟨bb,ch,hM⟩:=bd hM;refine wl rfl (bm (R:=ad) hS tA s9 rfl rfl 1 rfl ch rfl fun g7 hm h3 ea a hS=>?_);obtain rfl:=ea;refine ai hS fun a hS=>?_;refine ka hS ir fun g8 hg a w hk hS=>?_;refine go hS fun a w hS=>?_;rcases cd hM with⟨bs,hM⟩|⟨bs,hM⟩
      ·refine ai hS fun a hS=>?_;refine wg hS rfl rfl rfl bs (ky (v:=.bool (!(bb.Key.Kind==b.Key.Kind&&bb.Key.Text.toList==b.Key.Text.toList))) hS (zM hS rfl rfl) rfl rfl fun a hS=>?_);exact fz
      exact fz
     exact fz
    rintro a w ⟨ag,hS,hM⟩;unfold lM at hM;refine aD ?_;refine aD ?_;refine dr [] hS fun w hQ hS=>?_;refine gE [0,1,2] hS fun a hS=>?_;rcases cd hM with⟨bt,hM⟩|⟨bt,hM⟩
    ·refine gE [3,4,5,6,7,8,9,10] hS fun a hS=>?_;refine eD ?_;exact fz
    refine gE [3,4,5,7,8] hS fun a hS=>?_;obtain⟨hq,d1,hM⟩:=bd hM;refine cI (i:=6) rfl (by kernel_rfl) hS rfl rfl rfl bt (bg hS JD rfl rfl (sD _ _ hS.dlt c b.Key _ _ (hS.get 1 rfl) (hS.get 2 rfl) _ d1) fun _ w hR a hk hA=>⟨gf (hk),?_⟩);obtain rfl:=hR;have hS:=bY hA;refine gE [9,10] hS fun a hS=>?_;refine eD ?_;refine ai hS fun a hS=>?_;rcases cd hM with⟨ed,hM⟩|⟨ed,hM⟩
    ·exact fz
    refine ai hS fun a hS=>?_;refine aK (J:=fun a w=>∃ (P:LI) (b0:Bool) (b4:Value) (a2:LV),St W0 No T 172 [(1,q),(2,pt g 0),(4,pt j 0),(10,pt o 0),(11,.bool true),(13,pt z 0),(17,b4),(18,.bool b0),(70,q),(71,al (l.length:Int)),(72,al u)] [bh b4 a2,.box g (bf c e f) 31,.box j [al 0,.slice none 0 0,.slice none 0 0] 31,bh n r,aS m p,.box o [al (IntKind.i64.wrap (d.Revision+1)),n,m] 31,.box z (gt b) 46] [aR ad q l,an ae a2 P,aR ae e c.Inputs,aR aa f c.Records,an ae r t,an aa p d.Records,bC] a w∧eL d u b P b0=some K) ?_ ?_
    ·skip;refine ai hS fun a hS=>?_;replace hS:=hS.nilRow ae 69 (by decide);obtain⟨r2,c5,hMo2⟩:=bd hM;refine bF _ (fun s a w=>∃ (F:LI) (G:Bool) (B:Int) (I:Value) (H:LV),(F,G,B)=s∧St W0 No T 172 [(1,q),(2,pt g 0),(4,pt j 0),(10,pt o 0),(11,.bool true),(13,pt z 0),(17,I),(18,.bool G),(70,q),(71,al (l.length:Int)),(72,al u),(107,n),(108,al (t.length:Int)),(109,al B)] [bh I H,bh n r,.box g (bf c e f) 31,.box j [al 0,.slice none 0 0,.slice none 0 0] 31,aS m p,.box o [al (IntKind.i64.wrap (d.Revision+1)),n,m] 31,.box z (gt b) 46] [aR ad q l,an ae H F,an ae r t,aR ae e c.Inputs,aR aa f c.Records,an aa p d.Records,bC] a w) c5 ⟨_,_,_,_,_,rfl,hS.mt [0,3,1,2,4,5,6] [1,0,4,2,3,5,6]⟩ ?_;rintro s a w f2 ⟨F,G,B,I,H,rfl,hS⟩ hM hf2;have hM:fQ d t b F G B=some f2:=hM;unfold fQ at hM;refine ai hS fun a hS=>?_;refine aD ?_;rcases cd hM with⟨eg,hM⟩|⟨eg,hM⟩
     ·refine ai hS fun a hS=>?_;refine aK (J:=fun a w=>∃ (af:LI) (b1:Bool) (b5:Value) (a3:LV),St W0 No T 172 [(1,q),(2,pt g 0),(4,pt j 0),(10,pt o 0),(11,.bool true),(13,pt z 0),(17,b5),(18,.bool b1),(70,q),(71,al (l.length:Int)),(72,al u),(107,n),(108,al (t.length:Int)),(109,al B)] [bh b5 a3,bh n r,.box g (bf c e f) 31,.box j [al 0,.slice none 0 0,.slice none 0 0] 31,aS m p,.box o [al (IntKind.i64.wrap (d.Revision+1)),n,m] 31,.box z (gt b) 46] [aR ad q l,an ae a3 af,an ae r t,aR ae e c.Inputs,aR aa f c.Records,an aa p d.Records,bC] a w∧fN B af b1=some f2) ?_ ?_
      ·skip;refine ai hS fun a hS=>?_;obtain⟨A,cb,hM⟩:=bd hM;refine wl rfl (dj (R:=ae) hS u5 uz rfl rfl 1 rfl 2 rfl cb rfl fun gb hn ho h4 ek el em a hS=>?_);obtain rfl:=ek;refine qy hS (ce (k:=0) hS uz 1 rfl el em rfl id (us:=(pg A)) rfl rfl (fun h=>by cases h)) fun a hS=>?_;refine ka hS ug fun L hh a w hk hS=>?_;refine go hS fun a w hS=>?_;obtain⟨U,d0,hM⟩:=bd hM;refine kc hS ED (lF _ _ hS.dlt (hS.get 6 rfl) A.Key b.Key _ d0) fun _ w hR a hk hA=>?_;obtain rfl:=hR;have hS:=bY hA;refine ai hS fun a hS=>?_;refine aK (J:=fun a w=>∃ (Q:LI) (b2:Bool) (b6:Value) (a4:LV),St W0 No T 172 [(1,q),(2,pt g 0),(4,pt j 0),(10,pt o 0),(11,.bool true),(13,pt z 0),(17,b6),(18,.bool b2),(20,pt L 0),(21,al U),(70,q),(71,al (l.length:Int)),(72,al u),(107,n),(108,al (t.length:Int)),(109,al B)] [bh b6 a4,bh n r,.box g (bf c e f) 31,.box j [al 0,.slice none 0 0,.slice none 0 0] 31,aS m p,.box o [al (IntKind.i64.wrap (d.Revision+1)),n,m] 31,.box z (gt b) 46,.box L (pg A) 69] [aR ad q l,an ae a4 Q,an ae r t,aR ae e c.Inputs,aR aa f c.Records,an aa p d.Records,bC] a w∧fO B A U Q b2=some f2) ?_ ?_
       ·skip;refine aK (J:=fun a w=>∃ (a9:Bool),St W0 No T 172 [(1,q),(2,pt g 0),(4,pt j 0),(10,pt o 0),(11,.bool true),(13,pt z 0),(17,I),(18,.bool G),(20,pt L 0),(21,al U),(70,q),(71,al (l.length:Int)),(72,al u),(107,n),(108,al (t.length:Int)),(109,al B),(123,.bool a9)] [bh I H,bh n r,.box g (bf c e f) 31,.box j [al 0,.slice none 0 0,.slice none 0 0] 31,aS m p,.box o [al (IntKind.i64.wrap (d.Revision+1)),n,m] 31,.box z (gt b) 46,.box L (pg A) 69] [aR ad q l,an ae H F,an ae r t,aR ae e c.Inputs,aR aa f c.Records,an aa p d.Records,bC] a w∧fP d b F G B A U a9=some f2) ?_ ?_
        ·exact fz
        rintro a w ⟨a9,hS,hM⟩;unfold fP at hM;rcases cd hM with⟨eq,hM⟩|⟨eq,hM⟩
        ·refine ai hS fun a hS=>?_;refine qy hS (bq (ps:=[(0,.tmp 126),(1,.tmp 128),(2,.tmp 130)]) hS Iv ug rfl (us:=[(aV b.Key),[aO b.Value],[al (IntKind.i64.wrap (d.Revision+1))]]) ⟨rfl,⟨rfl,⟨rfl,trivial⟩⟩⟩ (ws:=[al b.Key.Kind,aO b.Key.Text,aO b.Value,al (IntKind.i64.wrap (d.Revision+1))]) rfl) fun a hS=>?_;refine wl rfl (a8 (ps:=[(0,.tmp 131)]) hS A4 ug (zl:=[al 0,aO bI,aO bI,al 0]) (by kernel_rfl) rfl (us:=[[al b.Key.Kind,aO b.Key.Text,aO b.Value,al (IntKind.i64.wrap (d.Revision+1))]]) ⟨rfl,trivial⟩ (ws:=[al b.Key.Kind,aO b.Key.Text,aO b.Value,al (IntKind.i64.wrap (d.Revision+1))]) rfl rfl rfl rfl fun gi a w hk hS=>?_);replace hS:=(hS.lit (R:=ae) (us:=[al b.Key.Kind,aO b.Key.Text,aO b.Value,al (IntKind.i64.wrap (d.Revision+1))]) (xs:=[(aN.mk b.Key b.Value (IntKind.i64.wrap (d.Revision+1)))]) 0 rfl (by decide) (aA.one_ (R:=ae) (x:=(aN.mk b.Key b.Value (IntKind.i64.wrap (d.Revision+1)))) rfl) rfl rfl).freeze (R:=ae) 0 rfl 0 rfl;obtain⟨er,hM⟩:=be hM;refine wl rfl (bM (R:=ae) (xs:=F) (ys:=[(aN.mk b.Key b.Value (IntKind.i64.wrap (d.Revision+1)))]) hS A4 (by decide) (by decide) rfl rfl 0 rfl 3 rfl 0 rfl er rfl fun hw h5 a w hk hS=>?_);exact fz
        exact fz
       rintro a w ⟨Q,b2,b6,a4,hS,hM⟩;unfold fO at hM;refine ai hS fun a hS=>?_;rcases cd hM with⟨et,hM⟩|⟨et,hM⟩
       ·refine ai hS fun a hS=>?_;refine wl rfl (a8 (ps:=[(0,.tmp 137)]) hS A4 ug (zl:=[al 0,aO bI,aO bI,al 0]) (by kernel_rfl) rfl (us:=[(pg A)]) ⟨rfl,trivial⟩ (ws:=(pg A)) rfl rfl rfl rfl fun gp a w hk hS=>?_);replace hS:=(hS.lit (R:=ae) (us:=(pg A)) (xs:=[A]) 0 rfl (by decide) (aA.one_ (R:=ae) (x:=A) rfl) rfl rfl).freeze (R:=ae) 0 rfl 0 rfl;obtain⟨ex,hM⟩:=be hM;refine wl rfl (bM (R:=ae) (xs:=Q) (ys:=[A]) hS A4 (by decide) (by decide) rfl rfl 0 rfl 3 rfl 0 rfl ex rfl fun hx h6 a w hk hS=>?_);exact fz
       exact fz
      rintro a w ⟨af,b1,b5,a3,hS,hM⟩;unfold fN at hM;exact fz
     refine ai hS fun a hS=>?_;cases hM
     have hr:=hf2 _ rfl;subst hr;have hM:eL d u b F G=some K:=hMo2;exact⟨_,_,_,_,hS.mt [0,2,3,1,4,5,6] [0,1,3,4,2,5,6],hM⟩
    rintro a w ⟨P,b0,b4,a2,hS,hM⟩;unfold eL at hM;refine aK (J:=fun a w=>∃ (ab:LI) (b8:Value) (a5:LV),St W0 No T 172 [(1,q),(2,pt g 0),(4,pt j 0),(10,pt o 0),(11,.bool true),(17,b8),(70,q),(71,al (l.length:Int)),(72,al u)] [bh b8 a5,.box g (bf c e f) 31,.box j [al 0,.slice none 0 0,.slice none 0 0] 31,bh n r,aS m p,.box o [al (IntKind.i64.wrap (d.Revision+1)),n,m] 31] [aR ad q l,an ae a5 ab,aR ae e c.Inputs,aR aa f c.Records,an ae r t,an aa p d.Records,bC] a w∧d9 u ab=some K) ?_ ?_
    ·skip;refine ai hS fun a hS=>?_;rcases cd hM with⟨eT,hM⟩|⟨eT,hM⟩
     ·refine ai hS fun a hS=>?_;refine qy hS (bq (ps:=[(0,.tmp 145),(1,.tmp 147),(2,.tmp 149)]) hS Iv ug rfl (us:=[(aV b.Key),[aO b.Value],[al (IntKind.i64.wrap (d.Revision+1))]]) ⟨rfl,⟨rfl,⟨rfl,trivial⟩⟩⟩ (ws:=[al b.Key.Kind,aO b.Key.Text,aO b.Value,al (IntKind.i64.wrap (d.Revision+1))]) rfl) fun a hS=>?_;refine wl rfl (a8 (ps:=[(0,.tmp 150)]) hS A4 ug (zl:=[al 0,aO bI,aO bI,al 0]) (by kernel_rfl) rfl (us:=[[al b.Key.Kind,aO b.Key.Text,aO b.Value,al (IntKind.i64.wrap (d.Revision+1))]]) ⟨rfl,trivial⟩ (ws:=[al b.Key.Kind,aO b.Key.Text,aO b.Value,al (IntKind.i64.wrap (d.Revision+1))]) rfl rfl rfl rfl fun gs a w hk hS=>?_);replace hS:=(hS.lit (R:=ae) (us:=[al b.Key.Kind,aO b.Key.Text,aO b.Value,al (IntKind.i64.wrap (d.Revision+1))]) (xs:=[(aN.mk b.Key b.Value (IntKind.i64.wrap (d.Revision+1)))]) 0 rfl (by decide) (aA.one_ (R:=ae) (x:=(aN.mk b.Key b.Value (IntKind.i64.wrap (d.Revision+1)))) rfl) rfl rfl).freeze (R:=ae) 0 rfl 0 rfl;obtain⟨eX,hM⟩:=be hM;refine wl rfl (bM (R:=ae) (xs:=P) (ys:=[(aN.mk b.Key b.Value (IntKind.i64.wrap (d.Revision+1)))]) hS A4 (by decide) (by decide) rfl rfl 0 rfl 3 rfl 0 rfl eX rfl fun hy h7 a w hk hS=>?_);exact fz
     exact fz
    rintro a w ⟨ab,b8,a5,hS,hM⟩;unfold d9 at hM;exact fz
   rintro a w ⟨Z,av,b3,a1,hS,hM⟩;unfold fL at hM;exact fz
  refine ai hS fun a hS=>?_;cases hM
  have hr:=hf1 _ rfl;subst hr;have hM:jN c d C t=some y:=hMo1;exact⟨_,_,_,_,hS.mt [0,1,2,3,4] [1,2,3,4,5],hM⟩
 rintro a w ⟨Y,ao,V,a0,hS,hM⟩;unfold jN at hM;refine aD ?_;refine ai hS fun a hS=>?_;rcases cd hM with⟨f3,hM⟩|⟨f3,hM⟩
 ·refine go hS fun a w hS=>?_;cases hM
  refine aI hS Tryz.results31 (bn hS rfl 1 rfl fy rfl (fun h=>by cases h) (aq hS rfl aH)) ?_;exact⟨e,f,rfl,(aE.up trivial (hS.get 0 rfl)),(aE.up trivial (hS.get 1 rfl))⟩
 refine ai hS fun a hS=>?_;rcases cd hM with⟨f4,hM⟩|⟨f4,hM⟩
 ·refine go hS fun a w hS=>?_;cases hM
  refine aI hS Tryz.results31 (bn hS rfl 1 rfl fy rfl (fun h=>by cases h) (aq hS rfl aH)) ?_;exact⟨e,f,rfl,(aE.up trivial (hS.get 0 rfl)),(aE.up trivial (hS.get 1 rfl))⟩
 refine ai hS fun a hS=>?_;rcases cd hM with⟨f6,hM⟩|⟨f6,hM⟩
 ·refine go hS fun a w hS=>?_;cases hM
  refine aI hS Tryz.results31 (bn hS rfl 1 rfl fy rfl (fun h=>by cases h) (aq hS rfl aH)) ?_;exact⟨e,f,rfl,(aE.up trivial (hS.get 0 rfl)),(aE.up trivial (hS.get 1 rfl))⟩
 refine go hS fun a w hS=>?_;replace hS:=(hS.freeze (R:=ae) 2 rfl 2 rfl).freeze (R:=aa) 2 rfl 4 rfl;cases hM
 refine aI hS Tryz.results31 (bn hS rfl 1 rfl fy rfl (fun h=>by cases h) (aq hS rfl aH)) ?_;exact⟨V,m,rfl,(aE.up trivial (hS.get 1 rfl)),(aE.up trivial (hS.get 0 rfl))⟩
end
end
section
set_option maxRecDepth 100000
set_option maxHeartbeats 4000000
open Go.RowKit
noncomputable section
def q9 (b:Bool):Option Bool:=some (b)
def mb (b:Bool):Option Bool:=some (b)
def mc (b:Int) (c:Int):Option Bool:=cond (decide ((0:Int)≤b)) (mb (decide (b<c))) (mb false)
def ry (b:LU) (e:Int) (g:dA) (c:Int):Option Bool:=cond g.Cell (cond (decide ((0:Int)≤c)) (q9 (decide (c≤15))) (q9 false)) ((nS b e).bind fun d=>(bu b e).bind fun f=>cond (!(f.Ring)) (mc c d.1) (mc c d.2))
theorem yK (T:Nat→Prop) (W0:World) (hT:TW T W0) (b:LU) (g:Int) (k:dA) (f:Int) (o:Value) (n:aE aC T W0 o b) (y:Bool) (hM:ry b g k f=some y):bj aP No 148 [o,al g,.agg (Ly k).toArray,al f] W0 (fun v w'=>v = .bool y):=by
 refine en Tryz.func148 Tryz.ntmps148 hT fun a hS=>?_;replace hS:=hS.fS (aE.dn n);unfold ry at hM;refine ai hS fun a hS=>?_;refine kb hS fun p t a w hk hS=>?_;refine ai hS fun a hS=>?_;refine aD ?_;refine ai hS fun a hS=>?_;rcases cd hM with⟨l,hM⟩|⟨l,hM⟩
 ·refine ai hS fun a hS=>?_;refine aK (J:=fun a w=>∃ (d:Bool),St W0 No T 39 [(8,.bool d)] [] [] a w∧q9 d=some y) ?_ ?_
  ·exact fz
  rintro a w ⟨d,hS,hM⟩;unfold q9 at hM;exact fz
 refine ai hS fun a hS=>?_;obtain⟨x,i,hM⟩:=bd hM;refine kc hS Oc (vV _ _ hS.dlt b g _ (hS.get 0 rfl) _ i) fun _ w hR a hk hA=>?_;obtain rfl:=hR;have hS:=bY hA;refine ai hS fun a hS=>?_;refine aK (J:=fun a w=>∃ (c:Int),St W0 No T 39 [(3,al f),(10,al c)] [] [] a w∧mc f c=some y) ?_ ?_
 ·skip;refine ai hS fun a hS=>?_;obtain⟨s,h,hM⟩:=bd hM;refine wl rfl (bm (R:=aC) hS yk xA rfl rfl 0 rfl h rfl fun q u r m a hS=>?_);obtain⟨z,rfl,j⟩:=m;replace hS:=hS.fS j;exact fz
 rintro a w ⟨c,hS,hM⟩;unfold mc at hM;refine aK (J:=fun a w=>∃ (e:Bool),St W0 No T 39 [(8,.bool e)] [] [] a w∧mb e=some y) ?_ ?_
 ·exact fz
 rintro a w ⟨e,hS,hM⟩;unfold mb at hM;exact fz
def oz (b:LU):Option Bool:=some (decide ((b.length:Int)≤24))
def oA (b:Int):Option (Fl (Int) (Fl (Unit) Bool)):=some (.go (IntKind.i64.wrap (b+1)))
def dF (b:Int) (c:Bool):Option (Fl (Int) (Fl (Unit) Bool)):=cond c (some (.out (.out false))) (oA b)
def hO (c:Int) (b:aW):Option (Fl (Int) (Fl (Unit) Bool)):=cond b.Ring (cond (b.Final != 5) (dF c true) (cond (decide (b.C<0)) (dF c true) (cond (decide ((65535:Int)<b.C)) (dF c true) (dF c false)))) (cond (decide (b.Final<1)) (dF c true) (cond (decide ((4:Int)<b.Final)) (dF c true) (cond (decide (b.C<0)) (dF c true) (dF c (decide ((999:Int)<b.C))))))
def eK (b:Int) (c:Bool):Option (Fl (Int) (Fl (Unit) Bool)):=cond c (some (.out (.out false))) (some (.go (IntKind.i64.wrap (b+1))))
def fK (d:LU) (f:Int) (e:aW) (b:Int):Option (Fl (Int) (Fl (Unit) Bool)):=cond (decide (b<(e.Asks.length:Int))) ((bu e.Asks b).bind fun c=>(ry d f c c.N).bind fun g=>cond (!(g)) (eK b true) (cond c.Pick (cond e.Ring (eK b true) (cond (b==0) (eK b true) ((ry d f c c.Else).bind fun h=>cond (!(h)) (eK b true) (eK b false)))) (eK b (c.Else != 0)))) (some (.out (.go ())))
def hU (b:LU) (c:Int):Option (Fl (Int) (Fl (Unit) Bool)):=cond (decide (c<(b.length:Int))) ((bu b c).bind fun d=>cond (decide ((6:Int)<(d.Asks.length:Int))) (some (.out (.out false))) ((loop (fun s:Int=>fK b c d s) 0).bind fun r=>Fl.el r (fun s=>hO c d) (fun y=>some (.out (.out y))))) (some (.out (.go ())))
def ql (b:LU):Option Bool:=(loop (fun s:Int=>hU b s) 0).bind fun r=>Fl.el r (fun s=>oz b) (fun y=>some (y))
theorem Ba (T:Nat→Prop) (W0:World) (hT:TW T W0) (b:LU) (d:Value) (I:aE aC T W0 d b) (y:Bool) (hM:ql b=some y):bj aP No 118 [d] W0 (fun v w'=>v = .bool y):=by
 refine en Tryz.func118 Tryz.ntmps118 hT fun a hS=>?_;replace hS:=hS.fS (aE.dn I);unfold ql at hM;refine ai hS fun a hS=>?_;refine aK (J:=fun a w=>St W0 No T 111 [(0,d)] [] [aR aC d b] a w∧oz b=some y) ?_ ?_
 ·skip;refine ai hS fun a hS=>?_;obtain⟨Y,G,hMo1⟩:=bd hM;refine bF _ (fun s a w=>∃ (c:Int),c=s∧St W0 No T 111 [(0,d),(7,d),(8,al (b.length:Int)),(9,al c)] [] [aR aC d b] a w) G ⟨_,rfl,hS.mt [] [0]⟩ ?_;rintro s a w m ⟨c,rfl,hS⟩ hM hf1;have hM:hU b c=some m:=hM;unfold hU at hM;refine ai hS fun a hS=>?_;refine aD ?_;rcases cd hM with⟨t,hM⟩|⟨t,hM⟩
  ·refine ai hS fun a hS=>?_;refine aK (J:=fun a w=>St W0 No T 111 [(0,d),(7,d),(8,al (b.length:Int)),(9,al c)] [] [aR aC d b] a w∧oA c=some m) ?_ ?_
   ·skip;refine ai hS fun a hS=>?_;obtain⟨e,n,hM⟩:=bd hM;refine wl rfl (bm (R:=aC) hS yk xA rfl rfl 0 rfl n rfl fun K U O u a hS=>?_);obtain⟨f,rfl,r⟩:=u;replace hS:=hS.fS r;refine ai hS fun a hS=>?_;refine ka hS y0 fun g Q a w hk hS=>?_;refine go hS fun a w hS=>?_;refine aD ?_;refine ai hS fun a hS=>?_;rcases cd hM with⟨x,hM⟩|⟨x,hM⟩
    ·exact fz
    refine ai hS fun a hS=>?_;refine aK (J:=fun a w=>St W0 No T 111 [(0,d),(4,pt g 0),(7,d),(8,al (b.length:Int)),(9,al c)] [.box g (vN e f) 89] [aR aC d b,aR ff f e.Asks] a w∧hO c e=some m) ?_ ?_
    ·skip;refine ai hS fun a hS=>?_;obtain⟨Z,H,hMo2⟩:=bd hM;refine bF _ (fun s a w=>∃ (h:Int),h=s∧St W0 No T 111 [(0,d),(3,al c),(4,pt g 0),(7,d),(8,al (b.length:Int)),(9,al c),(19,f),(20,al (e.Asks.length:Int)),(21,al h)] [.box g (vN e f) 89] [aR aC d b,aR ff f e.Asks] a w) H ⟨_,rfl,hS.mt [0] [2,0]⟩ ?_;rintro s a w F ⟨h,rfl,hS⟩ hM hf2;have hM:fK b c e h=some F:=hM;unfold fK at hM;refine ai hS fun a hS=>?_;refine aD ?_;rcases cd hM with⟨z,hM⟩|⟨z,hM⟩
     ·refine ai hS fun a hS=>?_;refine aD ?_;refine ai hS fun a hS=>?_;obtain⟨i,o,hM⟩:=bd hM;refine wl rfl (bm (R:=ff) hS M2 M5 rfl rfl 1 rfl o rfl fun L V P A a hS=>?_);obtain rfl:=A;refine ai hS fun a hS=>?_;refine ka hS Ff fun M S a w hk hS=>?_;refine go hS fun a w hS=>?_;refine aK (J:=fun a w=>∃ (k:Bool),St W0 No T 111 [(0,d),(3,al c),(4,pt g 0),(7,d),(8,al (b.length:Int)),(9,al c),(19,f),(20,al (e.Asks.length:Int)),(21,al h),(63,.bool k)] [.box g (vN e f) 89] [aR aC d b,aR ff f e.Asks] a w∧eK h k=some F) ?_ ?_
      ·skip;refine ai hS fun a hS=>?_;obtain⟨W,p,hM⟩:=bd hM;refine kc hS K1 (yK _ _ hS.dlt b c i i.N _ (hS.get 1 rfl) _ p) fun _ w hR a hk hA=>?_;obtain rfl:=hR;have hS:=bY hA;refine ai hS fun a hS=>?_;rcases cd hM with⟨B,hM⟩|⟨B,hM⟩
       ·exact fz
       refine ai hS fun a hS=>?_;rcases cd hM with⟨C,hM⟩|⟨C,hM⟩
       ·refine ai hS fun a hS=>?_;rcases cd hM with⟨D,hM⟩|⟨D,hM⟩
        ·exact fz
        refine ai hS fun a hS=>?_;rcases cd hM with⟨l,hM⟩|⟨l,hM⟩
        ·exact fz
        refine ai hS fun a hS=>?_;obtain⟨X,q,hM⟩:=bd hM;refine wg hS rfl rfl rfl l (bg hS K1 rfl rfl (yK _ _ hS.dlt b c i i.Else _ (hS.get 1 rfl) _ q) fun _ w hR a hk hA=>?_);obtain rfl:=hR;have hS:=bY hA;exact fz
       exact fz
      rintro a w ⟨k,hS,hM⟩;unfold eK at hM;rcases cd hM with⟨E,hM⟩|⟨E,hM⟩
      ·refine ai hS fun a hS=>?_;cases hM
       have hr:=hf2 _ rfl;subst hr;replace hMo2:=kl hMo2;have hM:=hMo2;cases hM
       have hr:=hf1 _ rfl;subst hr;replace hMo1:=kl hMo1;have hM:=hMo1;cases hM
       refine aI hS rfl (aq hS rfl aH) ?_;exact rfl
      exact fz
     exact fz
    rintro a w ⟨hS,hM⟩;unfold hO at hM;refine aK (J:=fun a w=>∃ (j:Bool),St W0 No T 111 [(0,d),(7,d),(8,al (b.length:Int)),(9,al c),(106,.bool j)] [] [aR aC d b] a w∧dF c j=some m) ?_ ?_
    ·exact fz
    rintro a w ⟨j,hS,hM⟩;unfold dF at hM;exact fz
   rintro a w ⟨hS,hM⟩;unfold oA at hM;exact fz
  exact fz
 rintro a w ⟨hS,hM⟩;unfold oz at hM;exact fz
def qk (c:ByteArray) (b:Int):Option ah:=some ((ah.mk b c))
def lG (c:LU) (b:Int):Option ah:=cond (decide (b<0)) (some ((ah.mk 0 bI))) (cond (decide ((c.length:Int)≤b)) (some ((ah.mk 0 bI))) (cond (decide ((99:Int)<b)) (some ((ah.mk 0 bI))) ((w6 b).bind fun d=>(bu c b).bind fun e=>cond e.Ring (qk d 32) (qk d 31))))
theorem pr (T:Nat→Prop) (W0:World) (hT:TW T W0) (hLv:di T W0) (c:LU) (g:Int) (p:Value) (o:aE aC T W0 p c) (y:ah) (hM:lG c g=some y):bj aP No 122 [p,al g] W0 (fun v w'=>v = .agg (aV y).toArray):=by
 refine en Tryz.func122 Tryz.ntmps122 hT fun a hS=>?_;replace hS:=(hS.fact bC (di.dn hLv)).fS (aE.dn o);unfold lG at hM;refine ai hS fun a hS=>?_;refine ka hS gU fun e t a w hk hS=>?_;refine ai hS fun a hS=>?_;refine aD ?_;refine iY ?_;refine ai hS fun a hS=>?_;rcases cd hM with⟨k,hM⟩|⟨k,hM⟩
 ·refine ai hS fun a hS=>?_;refine qy hS (bq (ps:=[]) hS EQ gU rfl (us:=[]) trivial (ws:=[al 0,aO bI]) rfl) fun a hS=>?_;refine go hS fun a w hS=>?_;cases hM
  refine aI hS rfl (rC 0 hS) ?_;exact rfl
 refine ai hS fun a hS=>?_;rcases cd hM with⟨l,hM⟩|⟨l,hM⟩
 ·refine ai hS fun a hS=>?_;refine qy hS (bq (ps:=[]) hS EQ gU rfl (us:=[]) trivial (ws:=[al 0,aO bI]) rfl) fun a hS=>?_;refine go hS fun a w hS=>?_;cases hM
  refine aI hS rfl (rC 0 hS) ?_;exact rfl
 refine ai hS fun a hS=>?_;rcases cd hM with⟨m,hM⟩|⟨m,hM⟩
 ·refine ai hS fun a hS=>?_;refine qy hS (bq (ps:=[]) hS EQ gU rfl (us:=[]) trivial (ws:=[al 0,aO bI]) rfl) fun a hS=>?_;refine go hS fun a w hS=>?_;cases hM
  refine aI hS rfl (rC 0 hS) ?_;exact rfl
 refine ai hS fun a hS=>?_;obtain⟨b,i,hM⟩:=bd hM;refine kc hS JF (y8 _ _ hS.dlt (hS.get 1 rfl) g _ i) fun _ w hR a hk hA=>?_;obtain rfl:=hR;have hS:=bY hA;refine qy hS (bq (ps:=[(0,.const (al 31)),(1,.tmp 20)]) hS EQ gU rfl (us:=[[al 31],[aO b]]) ⟨rfl,⟨rfl,trivial⟩⟩ (ws:=[al 31,aO b]) rfl) fun a hS=>?_;refine ka hS gU fun f u a w hk hS=>?_;refine go hS fun a w hS=>?_;refine aK (J:=fun a w=>∃ (d:Int),St W0 No T 29 [(4,pt e 0),(5,pt f 0)] [.box e [al 0,aO bI] 44,.box f [al d,aO b] 44] [bC] a w∧qk b d=some y) ?_ ?_
 ·skip;refine ai hS fun a hS=>?_;obtain⟨s,h,hM⟩:=bd hM;refine wl rfl (bm (R:=aC) hS yk xA rfl rfl 0 rfl h rfl fun q x r n a hS=>?_);obtain⟨z,rfl,j⟩:=n;replace hS:=hS.fS j;exact fz
 rintro a w ⟨d,hS,hM⟩;unfold qk at hM;refine go hS fun a w hS=>?_;cases hM
 refine aI hS rfl (rC 0 hS) ?_;exact rfl
def fT (b:Bool):Option Bool:=some (b)
def nV (c:LU) (b:ah):Option Bool:=(cE b).bind fun f=>cond f (cond (b.Kind != 31) (cond (b.Kind != 32) (fT true) ((iP b).bind fun g=>(lG c g).bind fun d=>fT (d.Kind==b.Kind&&d.Text.toList==b.Text.toList))) ((iP b).bind fun h=>(lG c h).bind fun e=>fT (e.Kind==b.Kind&&e.Text.toList==b.Text.toList))) (fT false)
theorem vX (T:Nat→Prop) (W0:World) (hT:TW T W0) (hLv:di T W0) (c:LU) (b:ah) (s:Value) (r:aE aC T W0 s c) (y:Bool) (hM:nV c b=some y):bj aP No 119 [s,.agg (aV b).toArray] W0 (fun v w'=>v = .bool y):=by
 refine en Tryz.func119 Tryz.ntmps119 hT fun a hS=>?_;replace hS:=(hS.fact bC (di.dn hLv)).fS (aE.dn r);unfold nV at hM;refine ai hS fun a hS=>?_;refine kb hS fun t u a w hk hS=>?_;refine ai hS fun a hS=>?_;refine aK (J:=fun a w=>∃ (e:Bool),St W0 No T 25 [(4,.bool e)] [] [bC] a w∧fT e=some y) ?_ ?_
 ·skip;refine dr [] hS fun w hQ hS=>?_;refine gE [0] hS fun a hS=>?_;obtain⟨x,h,hM⟩:=bd hM;refine ec 1 hS Gw (kY _ _ hS.dlt b _ h) fun _ w hR a hk hA=>?_;obtain rfl:=hR;have hS:=bY hA;refine gE [2] hS fun a hS=>?_;rcases cd hM with⟨n,hM⟩|⟨n,hM⟩
  ·refine gE [3,4,5,6] hS fun a hS=>?_;rcases cd hM with⟨o,hM⟩|⟨o,hM⟩
   ·refine gE [7,8,9,10,11] hS fun a hS=>?_;rcases cd hM with⟨d,hM⟩|⟨d,hM⟩
    ·refine gE [12,13,14,15,16,17,18,19,20] hS fun a hS=>?_;refine eD ?_;exact⟨_,hS.mt [] [1],hM⟩
    refine gE [12,13,16] hS fun a hS=>?_;obtain⟨p,j,hM⟩:=bd hM;refine cI (i:=14) rfl (by kernel_rfl) hS rfl rfl rfl d (bg hS JI rfl rfl (ox _ _ hS.dlt b _ j) fun _ w hR a hk hA=>⟨gf (hk),?_⟩);obtain rfl:=hR;have hS:=bY hA;obtain⟨f,k,hM⟩:=bd hM;refine cI (i:=15) rfl (by kernel_rfl) hS rfl rfl rfl d (bg hS Bu rfl rfl (pr _ _ hS.dlt (hS.get 1 rfl) c p _ (hS.get 0 rfl) _ k) fun _ w hR a hk hA=>⟨gf (hk),?_⟩);obtain rfl:=hR;have hS:=bY hA;refine y7 17 (v:=.bool (f.Kind==b.Kind&&f.Text.toList==b.Text.toList)) rfl (by kernel_rfl) (by kernel_rfl) (by kernel_rfl) rfl hQ hS (zL hS rfl rfl) rfl rfl rfl d rfl rfl fun a hS=>?_;refine gE [18,19,20] hS fun a hS=>?_;refine eD ?_;exact⟨_,hS.mt [] [1],hM⟩
   refine gE [7,8,9,10,11,12,13,16] hS fun a hS=>?_;obtain⟨q,l,hM⟩:=bd hM;refine cI (i:=14) rfl (by kernel_rfl) hS rfl rfl rfl rfl (bg hS JI rfl rfl (ox _ _ hS.dlt b _ l) fun _ w hR a hk hA=>⟨gf (hk),?_⟩);obtain rfl:=hR;have hS:=bY hA;obtain⟨g,m,hM⟩:=bd hM;refine cI (i:=15) rfl (by kernel_rfl) hS rfl rfl rfl rfl (bg hS Bu rfl rfl (pr _ _ hS.dlt (hS.get 1 rfl) c q _ (hS.get 0 rfl) _ m) fun _ w hR a hk hA=>⟨gf (hk),?_⟩);obtain rfl:=hR;have hS:=bY hA;refine y7 17 (v:=.bool (g.Kind==b.Kind&&g.Text.toList==b.Text.toList)) rfl (by kernel_rfl) (by kernel_rfl) (by kernel_rfl) rfl hQ hS (zL hS rfl rfl) rfl rfl rfl rfl rfl rfl fun a hS=>?_;refine gE [18,19,20] hS fun a hS=>?_;refine eD ?_;exact⟨_,hS.mt [] [1],hM⟩
  refine gE [3,4,5,6,7,8,9,10,11,12,13,14,15,16,17,18,19,20] hS fun a hS=>?_;refine eD ?_;exact⟨_,hS.mt [] [1],hM⟩
 rintro a w ⟨e,hS,hM⟩;unfold fT at hM;exact fz
def r5:Option Int:=some (0)
def lR (d:LU) (b:LK) (c:Int):Option (Fl (Int) (Fl (Unit) Int)):=cond (decide (c<(b.length:Int))) ((bu b c).bind fun e=>(nV d e).bind fun f=>cond (!(f)) (some (.out (.out 40))) (some (.go (IntKind.i64.wrap (c+1))))) (some (.out (.go ())))
def lQ (c:LU) (f:aj) (b:LK):Option Int:=(ql c).bind fun d=>cond (!(d)) (some (41)) ((fc f).bind fun e=>cond (!(e)) (some (42)) (cond (decide ((32:Int)<(b.length:Int))) (some (3)) ((loop (fun s:Int=>lR c b s) 0).bind fun r=>Fl.el r (fun s=>r5) (fun y=>some (y)))))
theorem sX (T:Nat→Prop) (W0:World) (hT:TW T W0) (hLv:di T W0) (b:LU) (e:aj) (c:LK) (j:Value) (A:Value) (B:Value) (k:Value) (t:aE aC T W0 j b) (u:aE ae T W0 A e.Inputs) (x:aE aa T W0 B e.Records) (z:aE ac T W0 k c) (y:Int) (hM:lQ b e c=some y):bj aP No 84 [j,.agg (bf e A B).toArray,k] W0 (fun v w'=>v=al y):=by
 refine en Tryz.func84 Tryz.ntmps84 hT fun a hS=>?_;replace hS:=((((hS.fact bC (di.dn hLv)).fS (aE.dn t)).fS (aE.dn u)).fS (aE.dn x)).fS (aE.dn z);unfold lQ at hM;refine ai hS fun a hS=>?_;refine kb hS fun C H a w hk hS=>?_;refine ai hS fun a hS=>?_;refine aD ?_;refine ai hS fun a hS=>?_;obtain⟨M,h,hM⟩:=bd hM;refine kc hS NC (Ba _ _ hS.dlt b _ (hS.get 3 rfl) _ h) fun _ w hR a hk hA=>?_;obtain rfl:=hR;have hS:=bY hA;refine ai hS fun a hS=>?_;rcases cd hM with⟨m,hM⟩|⟨m,hM⟩
 ·exact fz
 refine ai hS fun a hS=>?_;obtain⟨N,i,hM⟩:=bd hM;refine kc hS HA (mQ _ _ hS.dlt (hS.get 4 rfl) e _ _ (hS.get 2 rfl) (hS.get 1 rfl) _ i) fun _ w hR a hk hA=>?_;obtain rfl:=hR;have hS:=bY hA;refine ai hS fun a hS=>?_;rcases cd hM with⟨n,hM⟩|⟨n,hM⟩
 ·exact fz
 refine ai hS fun a hS=>?_;rcases cd hM with⟨o,hM⟩|⟨o,hM⟩
 ·exact fz
 refine ai hS fun a hS=>?_;refine aK (J:=fun a w=>St W0 No T 32 [] [] [bC] a w∧r5=some y) ?_ ?_
 ·skip;refine ai hS fun a hS=>?_;obtain⟨O,r,hMo1⟩:=bd hM;refine bF _ (fun s a w=>∃ (d:Int),d=s∧St W0 No T 32 [(0,j),(21,k),(22,al (c.length:Int)),(23,al d)] [] [aR aC j b,aR ac k c,bC] a w) r ⟨_,rfl,hS.mt [] [3,0,4]⟩ ?_;rintro s a w G ⟨d,rfl,hS⟩ hM hf1;have hM:lR b c d=some G:=hM;unfold lR at hM;refine ai hS fun a hS=>?_;refine aD ?_;rcases cd hM with⟨p,hM⟩|⟨p,hM⟩
  ·refine ai hS fun a hS=>?_;refine aD ?_;refine ai hS fun a hS=>?_;obtain⟨l,f,hM⟩:=bd hM;refine wl rfl (bm (R:=ac) hS kB dR rfl rfl 1 rfl f rfl fun D K F q a hS=>?_);obtain rfl:=q;refine ai hS fun a hS=>?_;refine ka hS gU fun E I a w hk hS=>?_;refine go hS fun a w hS=>?_;obtain⟨L,g,hM⟩:=bd hM;refine kc hS KX (vX _ _ hS.dlt (hS.get 3 rfl) b l _ (hS.get 1 rfl) _ g) fun _ w hR a hk hA=>?_;obtain rfl:=hR;have hS:=bY hA;exact fz
  exact fz
 rintro a w ⟨hS,hM⟩;unfold r5 at hM;exact fz
def kw (b:LU):Option LU:=some (b)
def il (e:LU) (d:LU) (c:Int):Option (Fl (LU×Int) (LU)):=cond (decide (c<(e.length:Int))) ((bu e c).bind fun b=>gd (bH (([]:List dA).length+b.Asks.length)) <| gd (bH (d.length+([(aW.mk b.Ring (([]:List dA)++b.Asks) b.Final b.C)]).length)) <| some (.go ((d++([(aW.mk b.Ring (([]:List dA)++b.Asks) b.Final b.C)])),IntKind.i64.wrap (c+1)))) (some (.out d))
def kO (b:LU):Option LU:=(loop (fun s:LU×Int=>il b s.1 s.2) (([]:List aW),0)).bind fun r=>kw r
theorem xo (T:Nat→Prop) (W0:World) (hT:TW T W0) (g:LU) (p:Value) (A:aE aC T W0 p g) (y:LU) (hM:kO g=some y):bj aP No 120 [p] W0 (fun v w'=>∃ (k:Value) (qE:bv),v=k∧gg aC T W0 w' [cm k qE] 89 k qE y):=by
 refine en Tryz.func120 Tryz.ntmps120 hT fun a hS=>?_;replace hS:=hS.fS (aE.dn A);unfold kO at hM;refine ai hS fun a hS=>?_;refine aK (J:=fun a w=>∃ (j:LU) (f:Value) (d:LV),St W0 No T 22 [(3,f)] [cm f d] [an aC d j] a w∧kw j=some y) ?_ ?_
 ·skip;refine ai hS fun a hS=>?_;replace hS:=hS.nilRow aC 89 (by decide);obtain⟨O,z,hMo1⟩:=bd hM;refine bF _ (fun s a w=>∃ (c:LU) (e:Int) (l:Value) (h:LV),(c,e)=s∧St W0 No T 22 [(3,l),(6,p),(7,al (g.length:Int)),(8,al e)] [cm l h] [an aC h c,aR aC p g] a w) z ⟨_,_,_,_,rfl,hS.mt [0] [0,1]⟩ ?_;rintro s a w I ⟨c,e,l,h,rfl,hS⟩ hM hf1;have hM:il g c e=some I:=hM;unfold il at hM;refine ai hS fun a hS=>?_;refine aD ?_;rcases cd hM with⟨q,hM⟩|⟨q,hM⟩
  ·refine ai hS fun a hS=>?_;refine aD ?_;refine ai hS fun a hS=>?_;obtain⟨b,n,hM⟩:=bd hM;refine wl rfl (bm (R:=aC) hS yk xA rfl rfl 1 rfl n rfl fun B L F r a hS=>?_);obtain⟨M,rfl,o⟩:=r;replace hS:=hS.fS o;refine ai hS fun a hS=>?_;refine ka hS y0 fun D K a w hk hS=>?_;refine go hS fun a w hS=>?_;replace hS:=hS.nilRow ff 93 (by decide);obtain⟨t,hM⟩:=be hM;refine wl rfl (bM (R:=ff) (xs:=([]:List dA)) (ys:=b.Asks) hS L7 (by decide) (by decide) rfl rfl 0 rfl 0 rfl 1 rfl t rfl fun m G a w hk hS=>?_);refine go hS fun a w hS=>?_;refine wl rfl (a8 (ps:=[(0,.tmp 17)]) hS JP y0 (zl:=[.bool false,.slice none 0 0,al 0,al 0]) (by kernel_rfl) rfl (us:=[(vN b m)]) ⟨rfl,trivial⟩ (ws:=(vN b m)) rfl rfl rfl rfl fun E a w hk hS=>?_);replace hS:=hS.freeze (R:=ff) 1 rfl 0 rfl;replace hS:=(hS.lit (R:=aC) (us:=(vN b m)) (xs:=[(aW.mk b.Ring (([]:List dA)++b.Asks) b.Final b.C)]) 0 rfl (by decide) (aA.one_ (R:=aC) (x:=(aW.mk b.Ring (([]:List dA)++b.Asks) b.Final b.C)) (⟨_,rfl,(hS.get 0 rfl)⟩)) rfl rfl).freeze (R:=aC) 0 rfl 0 rfl;obtain⟨u,hM⟩:=be hM;refine wl rfl (bM (R:=aC) (xs:=c) (ys:=[(aW.mk b.Ring (([]:List dA)++b.Asks) b.Final b.C)]) hS JP (by decide) (by decide) rfl rfl 1 rfl 7 rfl 0 rfl u rfl fun N H a w hk hS=>?_);exact fz
  exact fz
 rintro a w ⟨j,f,d,hS,hM⟩;unfold kw at hM;refine ai hS fun a hS=>?_;cases hM
 refine aI hS rfl (aq hS rfl aH) ?_;exact⟨f,d,rfl,hS.retOwn ⟨.inr (a6 (i:=0) rfl),trivial⟩ 0 rfl 0 rfl⟩
def cY (b:LF):Option LF:=some (b)
def ci (e:LF) (d:LF) (c:Int):Option (Fl (LF×Int) (LF)):=cond (decide (c<(e.length:Int))) ((bu e c).bind fun b=>gd (bH (([]:List ah).length+b.Reads.length)) <| gd (bH (([]:List ByteArray).length+b.Answers.length)) <| gd (bH (d.length+([(bB.mk b.Key b.Running b.At (([]:List ah)++b.Reads) (([]:List ByteArray)++b.Answers))]).length)) <| some (.go ((d++([(bB.mk b.Key b.Running b.At (([]:List ah)++b.Reads) (([]:List ByteArray)++b.Answers))])),IntKind.i64.wrap (c+1)))) (some (.out d))
def eB (b:LF):Option LF:=(loop (fun s:LF×Int=>ci b s.1 s.2) (([]:List bB),0)).bind fun r=>cY r
theorem wE (T:Nat→Prop) (W0:World) (hT:TW T W0) (g:LF) (z:Value) (G:aE az T W0 z g) (y:LF) (hM:eB g=some y):bj aP No 121 [z] W0 (fun v w'=>∃ (k:Value) (qE:bv),v=k∧gg az T W0 w' [dV k qE] 131 k qE y):=by
 refine en Tryz.func121 Tryz.ntmps121 hT fun a hS=>?_;replace hS:=hS.fS (aE.dn G);unfold eB at hM;refine ai hS fun a hS=>?_;refine aK (J:=fun a w=>∃ (j:LF) (f:Value) (d:LV),St W0 No T 26 [(3,f)] [dV f d] [an az d j] a w∧cY j=some y) ?_ ?_
 ·skip;refine ai hS fun a hS=>?_;replace hS:=hS.nilRow az 131 (by decide);obtain⟨V,F,hMo1⟩:=bd hM;refine bF _ (fun s a w=>∃ (c:LF) (e:Int) (m:Value) (h:LV),(c,e)=s∧St W0 No T 26 [(3,m),(6,z),(7,al (g.length:Int)),(8,al e)] [dV m h] [an az h c,aR az z g] a w) F ⟨_,_,_,_,rfl,hS.mt [0] [0,1]⟩ ?_;rintro s a w O ⟨c,e,m,h,rfl,hS⟩ hM hf1;have hM:ci g c e=some O:=hM;unfold ci at hM;refine ai hS fun a hS=>?_;refine aD ?_;rcases cd hM with⟨A,hM⟩|⟨A,hM⟩
  ·refine ai hS fun a hS=>?_;refine aD ?_;refine ai hS fun a hS=>?_;obtain⟨b,r,hM⟩:=bd hM;refine wl rfl (bm (R:=az) hS Av u7 rfl rfl 1 rfl r rfl fun H Q K B a hS=>?_);obtain⟨S,q,rfl,t,u⟩:=B;replace hS:=(hS.fS t).fS u;refine ai hS fun a hS=>?_;refine ka hS tI fun p P a w hk hS=>?_;refine go hS fun a w hS=>?_;refine aD ?_;replace hS:=(hS.nilRow ac 44 (by decide)).nilRow aY.str 9 (by decide);refine dr [(2,.blk (Value.ownBlock (.slice none 0 0))),(5,.blk (Value.ownBlock (.slice none 0 0))),(7,.blk (some p)),(9,.blk (some p))] hS fun w hQ hS=>?_;refine gE [0,1,3] hS fun a hS=>?_;refine dy (l:=[.blk (Value.ownBlock (.slice none 0 0))]) 4 (v:=q) rfl (by kernel_rfl) (by kernel_rfl) (by kernel_rfl) (by kernel_rfl) hQ hS (eU hS rfl E8 2 rfl (jZ hS 2 rfl rfl 0 rfl rfl (by decide) bP) (us:=[q]) rfl rfl (fun _=>rfl)) rfl rfl rfl fun a hS=>?_;obtain⟨C,hM⟩:=be hM;refine e1 2 (bM (R:=ac) (xs:=([]:List ah)) (ys:=b.Reads) hS gY (by decide) (by decide) rfl rfl 1 rfl 1 rfl 3 rfl C rfl fun n L a w hk hS=>⟨mx rfl hk mE,?_⟩);refine gE [6] hS fun a hS=>?_;obtain⟨D,hM⟩:=be hM;refine e1 5 (bM (R:=aY.str) (xs:=([]:List ByteArray)) (ys:=b.Answers) hS xV (by decide) (by decide) rfl rfl 0 rfl 1 rfl 3 rfl D rfl fun o M a w hk hS=>⟨mx rfl hk mE,?_⟩);refine es 7 hS fun w hS=>?_;refine gE [8] hS fun a hS=>?_;refine es 9 hS fun w hS=>?_;refine eD ?_;refine ai hS fun a hS=>?_;refine wl rfl (a8 (ps:=[(0,.tmp 21)]) hS Cd tI (zl:=[al 0,aO bI,.bool false,al 0,.slice none 0 0,.slice none 0 0]) (by kernel_rfl) rfl (us:=[(mp b n o)]) ⟨rfl,trivial⟩ (ws:=(mp b n o)) rfl rfl rfl rfl fun I a w hk hS=>?_);replace hS:=(hS.freeze (R:=ac) 2 rfl 1 rfl).freeze (R:=aY.str) 1 rfl 1 rfl;replace hS:=(hS.lit (R:=az) (us:=(mp b n o)) (xs:=[(bB.mk b.Key b.Running b.At (([]:List ah)++b.Reads) (([]:List ByteArray)++b.Answers))]) 0 rfl (by decide) (aA.one_ (R:=az) (x:=(bB.mk b.Key b.Running b.At (([]:List ah)++b.Reads) (([]:List ByteArray)++b.Answers))) (⟨_,_,rfl,(hS.get 1 rfl),(hS.get 0 rfl)⟩)) rfl rfl).freeze (R:=az) 0 rfl 0 rfl;obtain⟨E,hM⟩:=be hM;refine wl rfl (bM (R:=az) (xs:=c) (ys:=[(bB.mk b.Key b.Running b.At (([]:List ah)++b.Reads) (([]:List ByteArray)++b.Answers))]) hS Cd (by decide) (by decide) rfl rfl 1 rfl 11 rfl 0 rfl E rfl fun U N a w hk hS=>?_);exact fz
  exact fz
 rintro a w ⟨j,f,d,hS,hM⟩;unfold cY at hM;refine ai hS fun a hS=>?_;cases hM
 refine aI hS rfl (aq hS rfl aH) ?_;exact⟨f,d,rfl,hS.retOwn ⟨.inr (a6 (i:=0) rfl),trivial⟩ 0 rfl 0 rfl⟩
def nH (b:dB):Option dB:=(kO b.Rules).bind fun c=>(dG b.Base).bind fun d=>gd (bH (([]:List ah).length+b.Goals.length)) <| (eB b.Stack).bind fun e=>gd (bH (([]:List ah).length+b.Ran.length)) <| some ((dB.mk c d (([]:List ah)++b.Goals) e (([]:List ah)++b.Ran)))
theorem tZ (T:Nat→Prop) (W0:World) (hT:TW T W0) (b:dB) (Z:Value) (v2:Value) (v3:Value) (v4:Value) (F:Value) (G:Value) (hD:ze T W0 []) (S:aE aC (dT T []) W0 Z b.Rules) (U:aE ae (dT T []) W0 v2 b.Base.Inputs) (V:aE aa (dT T []) W0 v3 b.Base.Records) (W:aE ac (dT T []) W0 v4 b.Goals) (X:aE az (dT T []) W0 F b.Stack) (Y:aE ac (dT T []) W0 G b.Ran) (y:dB) (hM:nH b=some y):bj aP (MD []) 85 [.agg (vO b Z v2 v3 v4 F G).toArray] W0 (fun v w'=>∃ (s:Value) (xK:bv) (t:Value) (rG:bv) (h:Value) (tN:bv) (j:Value) (e:bv) (k:Value) (f:bv) (g:Value) (d:bv),v = .agg (vO y s t h j k g).toArray∧aA aC (dT T [cm s xK,bh t rG,aS h tN,ay j e,dV k f,ay g d]) w' xK y.Rules∧aA ae (dT T [cm s xK,bh t rG,aS h tN,ay j e,dV k f,ay g d]) w' rG y.Base.Inputs∧aA aa (dT T [cm s xK,bh t rG,aS h tN,ay j e,dV k f,ay g d]) w' tN y.Base.Records∧aA ac (dT T [cm s xK,bh t rG,aS h tN,ay j e,dV k f,ay g d]) w' e y.Goals∧aA az (dT T [cm s xK,bh t rG,aS h tN,ay j e,dV k f,ay g d]) w' f y.Stack∧aA ac (dT T [cm s xK,bh t rG,aS h tN,ay j e,dV k f,ay g d]) w' d y.Ran∧qG W0 w' [] [cm s xK,bh t rG,aS h tN,ay j e,dV k f,ay g d]):=by
 refine lx (c:=_) Tryz.func85 rfl T 19 Tryz.ntmps85 hT rfl hD fun a hS=>?_;replace hS:=(((((hS.fS S).fS U).fS V).fS W).fS X).fS Y;unfold nH at hM;refine ai hS fun a hS=>?_;refine kb hS fun a3 a4 a w hk hS=>?_;refine ka hS AV fun H a5 a w hk hS=>?_;refine ai hS fun a hS=>?_;refine aD ?_;replace hS:=(hS.nilRow ac 44 (by decide)).nilRow ac 44 (by decide);refine dr [(8,.blk (Value.ownBlock (.slice none 0 0))),(14,.blk (Value.ownBlock (.slice none 0 0))),(16,.blk (some H))] hS fun w hQ hS=>?_;refine gE [0,1,3,4,6,7,9] hS fun a hS=>?_;refine dy (l:=[.blk (Value.ownBlock (.slice none 0 0))]) 10 (v:=F) rfl (by kernel_rfl) (by kernel_rfl) (by kernel_rfl) (by kernel_rfl) hQ hS (eU hS rfl OO 3 rfl (jZ hS 3 rfl rfl 0 rfl rfl (by decide) bP) (us:=[F]) rfl rfl (fun _=>rfl)) rfl rfl rfl fun a hS=>?_;refine gE [12] hS fun a hS=>?_;refine dy (l:=[.blk (Value.ownBlock (.slice none 0 0))]) 13 (v:=G) rfl (by kernel_rfl) (by kernel_rfl) (by kernel_rfl) (by kernel_rfl) hQ hS (eU hS rfl E7 3 rfl (jZ hS 3 rfl rfl 0 rfl rfl (by decide) bP) (us:=[G]) rfl rfl (fun _=>rfl)) rfl rfl rfl fun a hS=>?_;obtain⟨a9,C,hM⟩:=bd hM;refine ec 2 hS ND (xo _ _ hS.dlt b.Rules _ (hS.get 7 rfl) _ C) fun _ w hR a hk hA=>?_;obtain⟨m,I,he,x⟩:=hR;obtain rfl:=he.symm;have hS:=qD hA x;obtain⟨u,D,hM⟩:=bd hM;refine ec 5 hS xP (dP _ _ hS.dlt b.Base _ _ (hS.get 7 rfl) (hS.get 6 rfl) _ D) fun _ w hR a hk hA=>?_;obtain⟨n,J,o,K,he,z,A,Q⟩:=hR;obtain rfl:=he.symm;have hS:=uw hA z A Q;obtain⟨O,hM⟩:=be hM;refine e1 8 (bM (R:=ac) (xs:=([]:List ah)) (ys:=b.Goals) hS gY (by decide) (by decide) rfl rfl 4 rfl 3 rfl 7 rfl O rfl fun p L a w hk hS=>⟨mx rfl hk mE,?_⟩);obtain⟨ab,E,hM⟩:=bd hM;refine ec 11 hS KY (wE _ _ hS.dlt b.Stack _ (hS.get 7 rfl) _ E) fun _ w hR a hk hA=>?_;obtain⟨q,M,he,B⟩:=hR;obtain rfl:=he.symm;have hS:=qD hA B;obtain⟨P,hM⟩:=be hM;refine e1 14 (bM (R:=ac) (xs:=([]:List ah)) (ys:=b.Ran) hS gY (by decide) (by decide) rfl rfl 4 rfl 5 rfl 7 rfl P rfl fun r N a w hk hS=>⟨mx rfl hk mE,?_⟩);refine dy 15 (v:=.agg #[m,al u.Revision,n,o,p,q,r]) rfl (by kernel_rfl) (by kernel_rfl) (by kernel_rfl) rfl hQ hS (bq (ps:=[(0,.tmp 5),(1,.tmp 8),(2,.tmp 11),(3,.tmp 14),(4,.tmp 17)]) hS MX AV rfl (us:=[[m],(bf u n o),[p],[q],[r]]) ⟨(ft (gv (hS.own _ (a6 (i:=3) rfl)).1)),⟨rfl,⟨(ft (gv (hS.own _ (a6 (i:=5) rfl)).1)),⟨(ft (gv (hS.own _ (a6 (i:=0) rfl)).1)),⟨(ft (gv (hS.own _ (a6 (i:=4) rfl)).1)),trivial⟩⟩⟩⟩⟩ (ws:=[m,al u.Revision,n,o,p,q,r]) rfl) rfl rfl rfl fun a hS=>?_;refine es 16 hS fun w hS=>?_;refine eD ?_;refine ai hS fun a hS=>?_;cases hM
 refine aI hS rfl (rC 6 hS) ?_;have hZ:=hS.sl [3,1,2,5,0,4] [5,4,3,2,1,0];exact⟨m,I,n,J,o,K,p,L,q,M,r,N,rfl,(hZ.get 0 rfl),(hZ.get 1 rfl),(hZ.get 2 rfl),(hZ.get 3 rfl),(hZ.get 4 rfl),(hZ.get 5 rfl),hZ.dnew⟩
def qr (c:LU) (e:aj) (b:LK):Option (dB×Int):=(lQ c e b).bind fun d=>cond (d != 0) (some (((dB.mk ([]:List aW) (aj.mk 0 ([]:List aN) ([]:List aw)) ([]:List ah) ([]:List bB) ([]:List ah)),d))) ((nH (dB.mk c e b ([]) ([]))).bind fun f=>some ((f,0)))
theorem sY (T:Nat→Prop) (W0:World) (hT:TW T W0) (f:LU) (g:aj) (e:LK) (z:Value) (A:Value) (B:Value) (C:Value) (hD:ze T W0 []) (R:aE aC (dT T []) W0 z f) (S:aE ae (dT T []) W0 A g.Inputs) (U:aE aa (dT T []) W0 B g.Records) (V:aE ac (dT T []) W0 C e) (hLv:di (dT T []) W0) (y:dB×Int) (hM:qr f g e=some y):bj aP (MD []) 55 [z,.agg (bf g A B).toArray,C] W0 (fun v w'=>∃ (l:Value) (C1:bv) (m:Value) (xK:bv) (n:Value) (rG:bv) (i:Value) (tN:bv) (j:Value) (b:bv) (k:Value) (d:bv),v = .tuple #[.agg (vO y.1 l m n i j k).toArray,al y.2]∧aA aC (dT T [cm l C1,bh m xK,aS n rG,ay i tN,dV j b,ay k d]) w' C1 y.1.Rules∧aA ae (dT T [cm l C1,bh m xK,aS n rG,ay i tN,dV j b,ay k d]) w' xK y.1.Base.Inputs∧aA aa (dT T [cm l C1,bh m xK,aS n rG,ay i tN,dV j b,ay k d]) w' rG y.1.Base.Records∧aA ac (dT T [cm l C1,bh m xK,aS n rG,ay i tN,dV j b,ay k d]) w' tN y.1.Goals∧aA az (dT T [cm l C1,bh m xK,aS n rG,ay i tN,dV j b,ay k d]) w' b y.1.Stack∧aA ac (dT T [cm l C1,bh m xK,aS n rG,ay i tN,dV j b,ay k d]) w' d y.1.Ran∧qG W0 w' [] [cm l C1,bh m xK,aS n rG,ay i tN,dV j b,ay k d]):=by
 refine lx (c:=_) Tryz.func55 rfl T 22 Tryz.ntmps55 hT rfl hD fun a hS=>?_;replace hS:=((((hS.fact bC hLv).fS R).fS S).fS U).fS V;unfold qr at hM;refine ai hS fun a hS=>?_;refine kb hS fun W Y a w hk hS=>?_;refine ka hS AV fun X Z a w hk hS=>?_;refine ai hS fun a hS=>?_;refine aD ?_;refine ai hS fun a hS=>?_;obtain⟨a0,u,hM⟩:=bd hM;refine kc hS LS (sX _ _ hS.dlt (hS.get 4 rfl) f g e _ _ _ _ (hS.get 3 rfl) (hS.get 2 rfl) (hS.get 1 rfl) (hS.get 0 rfl) _ u) fun _ w hR a hk hA=>?_;obtain rfl:=hR;have hS:=bY hA;refine ai hS fun a hS=>?_;rcases cd hM with⟨J,hM⟩|⟨J,hM⟩
 ·refine ai hS fun a hS=>?_;refine qy hS (bq (ps:=[]) hS MX AV rfl (us:=[]) trivial (ws:=[.slice none 0 0,al 0,.slice none 0 0,.slice none 0 0,.slice none 0 0,.slice none 0 0,.slice none 0 0]) rfl) fun a hS=>?_;refine go hS fun a w hS=>?_;replace hS:=(((((hS.nilRow aC 89 (by decide)).nilRow ae 69 (by decide)).nilRow aa 84 (by decide)).nilRow ac 44 (by decide)).nilRow az 131 (by decide)).nilRow ac 44 (by decide);cases hM
  refine aI hS Tryz.results55 (bn hS rfl 6 rfl yn rfl (fun h=>by cases h) (aq hS rfl aH)) ?_;have hZ:=hS.sl [5,4,3,2,1,0] [5,4,3,0,1];exact⟨(.slice none 0 0),[],(.slice none 0 0),[],(.slice none 0 0),[],(.slice none 0 0),[],(.slice none 0 0),[],(.slice none 0 0),[],rfl,(hZ.get 0 rfl),(hZ.get 1 rfl),(hZ.get 2 rfl),(hZ.get 3 rfl),(hZ.get 4 rfl),(hZ.get 3 rfl),hZ.dnew⟩
 refine ai hS fun a hS=>?_;refine qy hS (bq (ps:=[(0,.tmp 17),(1,.tmp 18),(2,.tmp 19)]) hS MX AV rfl (us:=[[z],(bf g A B),[C]]) ⟨(ft (aE.one ((hS.get 3 rfl):aE aC _ _ _ _))),⟨rfl,⟨(ft (aE.one ((hS.get 0 rfl):aE ac _ _ _ _))),trivial⟩⟩⟩ (ws:=[z,al g.Revision,A,B,C,.slice none 0 0,.slice none 0 0]) rfl) fun a hS=>?_;replace hS:=(hS.fact (aR az (.slice none 0 0) []) (aE.nil_ _ _ _)).fact (aR ac (.slice none 0 0) []) (aE.nil_ _ _ _);obtain⟨a1,x,hM⟩:=bd hM;replace hS:=hS.re [] [0,1];refine wl rfl (de hS LT rfl rfl (tZ _ _ hS.dltD (dB.mk f g e ([]) ([])) _ _ _ _ _ _ hS.dok (hS.getD 5 rfl) (hS.getD 4 rfl) (hS.getD 3 rfl) (hS.getD 2 rfl) (hS.getD 1 rfl) (hS.getD 0 rfl) _ x) fun _ w hR a hk hA=>?_);obtain⟨L,D,M,E,N,F,O,G,P,H,Q,I,he,o,p,q,r,s,t,K⟩:=hR;obtain rfl:=he.symm;have hS:=hA _ K;replace hS:=(((((hS.fR (o.keep (au _ _) (aB _))).fR (p.keep (au _ _) (aB _))).fR (q.keep (au _ _) (aB _))).fR (r.keep (au _ _) (aB _))).fR (s.keep (au _ _) (aB _))).fR (t.keep (au _ _) (aB _));refine go hS fun a w hS=>?_;cases hM
 refine aI hS Tryz.results55 (bn hS rfl 6 rfl yn rfl (fun h=>by cases h) (aq hS rfl aH)) ?_;have hZ:=hS.sl [0,1,2,3,4,5] [5,4,3,2,1,0];exact⟨L,D,M,E,N,F,O,G,P,H,Q,I,rfl,(hZ.get 0 rfl),(hZ.get 1 rfl),(hZ.get 2 rfl),(hZ.get 3 rfl),(hZ.get 4 rfl),(hZ.get 5 rfl),hZ.dnew⟩
def tv (k:aX) (b:LU):Option (ah×aX):=(cg k 8).bind fun c=>cond (c.1==1) ((cg (aX.mk c.2.L c.2.At) 4).bind fun e=>(c6 e.1).bind fun h=>some ((h,(aX.mk e.2.L e.2.At)))) ((cg (aX.mk c.2.L c.2.At) 2).bind fun d=>cond (d.1==0) ((cg (aX.mk d.2.L d.2.At) (min 3 (b.length:Int))).bind fun f=>(lG b (IntKind.i64.wrap ((IntKind.i64.wrap ((b.length:Int)-1))-f.1))).bind fun i=>some ((i,(aX.mk f.2.L f.2.At)))) ((cg (aX.mk d.2.L d.2.At) (b.length:Int)).bind fun g=>(lG b g.1).bind fun j=>some ((j,(aX.mk g.2.L g.2.At)))))
theorem DI (T:Nat→Prop) (W0:World) (hT:TW T W0) (e:aX) (b:LU) (u:Value) (Q:Value) (d:Nat) (x:W0.heap[d]? = some (.cells (bk e u).toArray 64 (0,0))) (J:¬ T d) (O:aE (aY.int .i64) (dT T [.box d (bk e u) 64]) W0 u e.L) (P:aE aC (dT T [.box d (bk e u) 64]) W0 Q b) (hLv:di (dT T [.box d (bk e u) 64]) W0) (y:ah×aX) (hM:tv e b=some y):bj aP (fun k=>k=d) 86 [pt d 0,Q] W0 (fun v w'=>∃ (N:Value),v = .agg (aV y.1).toArray∧w'.heap[d]? = some (.cells (bk y.2 N).toArray 64 (0,0))∧aE (aY.int .i64) (dT T [.box d (bk y.2 N) 64]) w' N y.2.L):=by
 refine sK (c:=_) Tryz.func86 rfl T 31 Tryz.ntmps86 hT rfl x J fun a hS=>?_;replace hS:=((hS.fact bC hLv).fS O).fS P;unfold tv at hM;refine ai hS fun a hS=>?_;refine ka hS gU fun R S a w hk hS=>?_;refine ai hS fun a hS=>?_;refine aD ?_;refine ai hS fun a hS=>?_;obtain⟨f,z,hM⟩:=bd hM;refine wl rfl (cC hS nB rfl rfl 1 rfl (bE _ _ (hS.drop 1).dlt e 8 _ _ (hS.boxRow 1 rfl) (hS.notin 1 rfl) (aE.lent (i:=1) rfl (hS.get 1 rfl)) _ z) fun _ w hR hk=>?_);obtain⟨K,he,hrow,h⟩:=hR;obtain rfl:=he.symm;refine⟨(bk f.2 K),hrow,fun a hS=>?_⟩;replace hS:=hS.fS (aE.back (i:=1) rfl h);refine ai hS fun a hS=>?_;rcases cd hM with⟨H,hM⟩|⟨H,hM⟩
 ·refine ai hS fun a hS=>?_;obtain⟨o,A,hM⟩:=bd hM;refine wl rfl (cC hS nB rfl rfl 1 rfl (bE _ _ (hS.drop 1).dlt (aX.mk f.2.L f.2.At) 4 _ _ (hS.boxRow 1 rfl) (hS.notin 1 rfl) (aE.lent (i:=1) rfl (hS.get 0 rfl)) _ A) fun _ w hR hk=>?_);obtain⟨r,he,hrow,j⟩:=hR;obtain rfl:=he.symm;refine⟨(bk o.2 r),hrow,fun a hS=>?_⟩;replace hS:=hS.fS (aE.back (i:=1) rfl j);obtain⟨U,B,hM⟩:=bd hM;refine kc hS xO (dO _ _ hS.dlt (hS.get 4 rfl) o.1 _ B) fun _ w hR a hk hA=>?_;obtain rfl:=hR;have hS:=bY hA;refine go hS fun a w hS=>?_;cases hM
  refine aI hS rfl (rC 0 hS) ?_;exact⟨r,rfl,hS.boxRow 1 rfl,(aE.up ⟨.inr (a6 (i:=1) rfl),trivial⟩ (hS.get 0 rfl))⟩
 refine ai hS fun a hS=>?_;refine aD ?_;refine ai hS fun a hS=>?_;obtain⟨g,C,hM⟩:=bd hM;refine wl rfl (cC hS nB rfl rfl 1 rfl (bE _ _ (hS.drop 1).dlt (aX.mk f.2.L f.2.At) 2 _ _ (hS.boxRow 1 rfl) (hS.notin 1 rfl) (aE.lent (i:=1) rfl (hS.get 0 rfl)) _ C) fun _ w hR hk=>?_);obtain⟨M,he,hrow,l⟩:=hR;obtain rfl:=he.symm;refine⟨(bk g.2 M),hrow,fun a hS=>?_⟩;replace hS:=hS.fS (aE.back (i:=1) rfl l);refine ai hS fun a hS=>?_;rcases cd hM with⟨I,hM⟩|⟨I,hM⟩
 ·refine ai hS fun a hS=>?_;refine qy hS (I9 hS rfl rfl) fun a hS=>?_;obtain⟨p,D,hM⟩:=bd hM;refine wl rfl (cC hS nB rfl rfl 1 rfl (bE _ _ (hS.drop 1).dlt (aX.mk g.2.L g.2.At) (min 3 (b.length:Int)) _ _ (hS.boxRow 1 rfl) (hS.notin 1 rfl) (aE.lent (i:=1) rfl (hS.get 0 rfl)) _ D) fun _ w hR hk=>?_);obtain⟨s,he,hrow,m⟩:=hR;obtain rfl:=he.symm;refine⟨(bk p.2 s),hrow,fun a hS=>?_⟩;replace hS:=hS.fS (aE.back (i:=1) rfl m);refine ai hS fun a hS=>?_;obtain⟨V,E,hM⟩:=bd hM;refine kc hS Bu (pr _ _ hS.dlt (hS.get 5 rfl) b (IntKind.i64.wrap ((IntKind.i64.wrap ((b.length:Int)-1))-p.1)) _ (hS.get 3 rfl) _ E) fun _ w hR a hk hA=>?_;obtain rfl:=hR;have hS:=bY hA;refine go hS fun a w hS=>?_;cases hM
  refine aI hS rfl (rC 0 hS) ?_;exact⟨s,rfl,hS.boxRow 1 rfl,(aE.up ⟨.inr (a6 (i:=1) rfl),trivial⟩ (hS.get 0 rfl))⟩
 refine ai hS fun a hS=>?_;obtain⟨q,F,hM⟩:=bd hM;refine wl rfl (cC hS nB rfl rfl 1 rfl (bE _ _ (hS.drop 1).dlt (aX.mk g.2.L g.2.At) (b.length:Int) _ _ (hS.boxRow 1 rfl) (hS.notin 1 rfl) (aE.lent (i:=1) rfl (hS.get 0 rfl)) _ F) fun _ w hR hk=>?_);obtain⟨t,he,hrow,n⟩:=hR;obtain rfl:=he.symm;refine⟨(bk q.2 t),hrow,fun a hS=>?_⟩;replace hS:=hS.fS (aE.back (i:=1) rfl n);obtain⟨W,G,hM⟩:=bd hM;refine kc hS Bu (pr _ _ hS.dlt (hS.get 5 rfl) b q.1 _ (hS.get 3 rfl) _ G) fun _ w hR a hk hA=>?_;obtain rfl:=hR;have hS:=bY hA;refine go hS fun a w hS=>?_;cases hM
 refine aI hS rfl (rC 0 hS) ?_;exact⟨t,rfl,hS.boxRow 1 rfl,(aE.up ⟨.inr (a6 (i:=1) rfl),trivial⟩ (hS.get 0 rfl))⟩
def pJ (d:LK) (b:LN) (c:Int):Option (LK×aX):=some ((d,(aX.mk b c)))
def pK (g:LU) (c:LK) (f:Int) (d:LN) (e:Int):Option (Fl (LK×Int×LN×Int) (LK×LN×Int)):=cond (decide ((0:Int)<f)) ((tv (aX.mk d e) g).bind fun b=>gd (bH (c.length+([(ah.mk b.1.Kind b.1.Text)]).length)) <| some (.go ((c++([(ah.mk b.1.Kind b.1.Text)])),IntKind.i64.wrap (f-1),b.2.L,b.2.At))) (some (.out (c,d,e)))
def po (e:aX) (c:LU) (d:Int):Option (LK×aX):=(cg e d).bind fun b=>(loop (fun s:LK×Int×LN×Int=>pK c s.1 s.2.1 s.2.2.1 s.2.2.2) (([]:List ah),IntKind.i64.wrap (b.1+1),b.2.L,b.2.At)).bind fun r=>pJ r.1 r.2.1 r.2.2
theorem tS (T:Nat→Prop) (W0:World) (hT:TW T W0) (j:aX) (d:LU) (n:Int) (E:Value) (H:Value) (e:Nat) (S:W0.heap[e]? = some (.cells (bk j E).toArray 64 (0,0))) (N:¬ T e) (V:aE (aY.int .i64) (dT T [.box e (bk j E) 64]) W0 E j.L) (W:aE aC (dT T [.box e (bk j E) 64]) W0 H d) (hLv:di (dT T [.box e (bk j E) 64]) W0) (y:LK×aX) (hM:po j d n=some y):bj aP (fun k=>k=e) 56 [pt e 0,H,al n] W0 (fun v w'=>∃ (o:Value) (wq:bv) (I:Value),v=o∧gg ac T W0 w' [ay o wq,.box e (bk y.2 I) 64] 44 o wq y.1∧w'.heap[e]? = some (.cells (bk y.2 I).toArray 64 (0,0))∧aE (aY.int .i64) (dT T [ay o wq,.box e (bk y.2 I) 64]) w' I y.2.L):=by
 refine sK (c:=_) Tryz.func56 rfl T 24 Tryz.ntmps56 hT rfl S N fun a hS=>?_;replace hS:=((hS.fact bC hLv).fS V).fS W;unfold po at hM;refine ai hS fun a hS=>?_;refine aK (J:=fun a w=>∃ (z:LK) (t:LN) (u:Int) (p:Value) (l:LV) (q:Value),St W0 (fun k=>k=e) T 24 [(7,p)] [ay p l,.box e [q,al u] 64] [an ac l z,aR (aY.int .i64) q t,bC] a w∧pJ z t u=some y) ?_ ?_
 ·skip;refine ai hS fun a hS=>?_;obtain⟨O,G,hM⟩:=bd hM;refine wl rfl (cC hS nB rfl rfl 0 rfl (bE _ _ (hS.drop 0).dlt j n _ _ (hS.boxRow 0 rfl) (hS.notin 0 rfl) (aE.lent (i:=0) rfl (hS.get 1 rfl)) _ G) fun _ w hR hk=>?_);obtain⟨P,he,hrow,C⟩:=hR;obtain rfl:=he.symm;refine⟨(bk O.2 P),hrow,fun a hS=>?_⟩;replace hS:=hS.fS (aE.back (i:=0) rfl C);refine ai hS fun a hS=>?_;replace hS:=hS.nilRow ac 44 (by decide);obtain⟨r1,U,hMo1⟩:=bd hM;refine bF _ (fun s a w=>∃ (h:LK) (m:Int) (f:LN) (g:Int) (A:Value) (r:LV) (B:Value),(h,m,f,g)=s∧St W0 (fun k=>k=e) T 24 [(0,pt e 0),(1,H),(7,A),(8,al m)] [ay A r,.box e [B,al g] 64] [aR aC H d,an ac r h,aR (aY.int .i64) B f,bC] a w) U ⟨_,_,_,_,_,_,_,rfl,hS.mt [0,1] [2,0,1,4]⟩ ?_;rintro s a w Z ⟨h,m,f,g,A,r,B,rfl,hS⟩ hM hf1;have hM:pK d h m f g=some Z:=hM;unfold pK at hM;refine aD ?_;refine ai hS fun a hS=>?_;rcases cd hM with⟨K,hM⟩|⟨K,hM⟩
  ·refine ai hS fun a hS=>?_;refine aD ?_;refine ai hS fun a hS=>?_;obtain⟨b,F,hM⟩:=bd hM;refine wl rfl (cC hS PB rfl rfl 1 rfl (DI _ _ (hS.drop 1).dlt (aX.mk f g) d _ _ _ (hS.boxRow 1 rfl) (hS.notin 1 rfl) (aE.lent (i:=1) rfl (hS.get 2 rfl)) (aE.lent (i:=1) rfl (hS.get 0 rfl)) (bC.keep (hS.get 3 rfl) (au _ _) (fun k hk=>.inl ((qb (i:=1) rfl k).1 hk))) _ F) fun _ w hR hk=>?_);obtain⟨Q,he,hrow,D⟩:=hR;obtain rfl:=he.symm;refine⟨(bk b.2 Q),hrow,fun a hS=>?_⟩;replace hS:=hS.fS (aE.back (i:=1) rfl D);refine wl rfl (a8 (ps:=[(0,.tmp 20)]) hS gY gU (zl:=[al 0,aO bI]) (by kernel_rfl) rfl (us:=[(aV b.1)]) ⟨rfl,trivial⟩ (ws:=(aV b.1)) rfl rfl rfl rfl fun X a w hk hS=>?_);replace hS:=(hS.lit (R:=ac) (us:=(aV b.1)) (xs:=[(ah.mk b.1.Kind b.1.Text)]) 0 rfl (by decide) (aA.one_ (R:=ac) (x:=(ah.mk b.1.Kind b.1.Text)) rfl) rfl rfl).freeze (R:=ac) 0 rfl 0 rfl;obtain⟨M,hM⟩:=be hM;refine wl rfl (bM (R:=ac) (xs:=h) (ys:=[(ah.mk b.1.Kind b.1.Text)]) hS gY (by decide) (by decide) rfl rfl 0 rfl 4 rfl 0 rfl M rfl fun a0 Y a w hk hS=>?_);exact fz
  refine ai hS fun a hS=>?_;cases hM
  have hr:=hf1 _ rfl;subst hr;have hM:pJ h f g=some y:=hMo1;exact⟨_,_,_,_,_,_,hS.mt [0,1] [1,2,3],hM⟩
 rintro a w ⟨z,t,u,p,l,q,hS,hM⟩;unfold pJ at hM;refine ai hS fun a hS=>?_;cases hM
 refine aI hS rfl (aq hS rfl aH) ?_;exact⟨p,l,q,rfl,hS.retOwnm ⟨.inr (a6 (i:=0) rfl),⟨.inr (a6 (i:=1) rfl),trivial⟩⟩ 0 rfl 0 rfl 1 rfl (by decide),hS.boxRow 1 rfl,(aE.up ⟨.inr (a6 (i:=0) rfl),⟨.inr (a6 (i:=1) rfl),trivial⟩⟩ (hS.get 1 rfl))⟩
def sQ:Option (aw×Bool):=some (((aw.mk (ah.mk 0 bI) bI ([]) 0 0 0 false),false))
def jf (e:LR) (d:ah) (c:Int):Option (Fl (Int) (Fl (Unit) (aw×Bool))):=cond (decide (c<(e.length:Int))) ((bu e c).bind fun b=>cond (b.Key.Kind==d.Kind&&b.Key.Text.toList==d.Text.toList) ((gD b).bind fun f=>some (.out (.out (f,true)))) (some (.go (IntKind.i64.wrap (c+1))))) (some (.out (.go ())))
def c8 (c:LR) (b:ah):Option (aw×Bool):=(loop (fun s:Int=>jf c b s) 0).bind fun r=>Fl.el r (fun s=>sQ) (fun y=>some (y))
theorem cj (T:Nat→Prop) (W0:World) (hT:TW T W0) (e:LR) (b:ah) (n:Value) (z:aE aa T W0 n e) (y:aw×Bool) (hM:c8 e b=some y):bj aP No 129 [n,.agg (aV b).toArray] W0 (fun v w'=>∃ (u:Value) (qE:bv),v = .tuple #[.agg (br y.1 u).toArray,.bool y.2]∧gg ac T W0 w' [ay u qE] 44 u qE y.1.Reads):=by
 refine en Tryz.func129 Tryz.ntmps129 hT fun a hS=>?_;replace hS:=hS.fS (aE.dn z);unfold c8 at hM;refine ai hS fun a hS=>?_;refine kb hS fun g E a w hk hS=>?_;refine ka hS gV fun c F a w hk hS=>?_;refine ai hS fun a hS=>?_;refine aK (J:=fun a w=>St W0 No T 22 [(4,pt c 0)] [.box c [al 0,aO bI,aO bI,.slice none 0 0,al 0,al 0,al 0,.bool false] 84] [] a w∧sQ=some y) ?_ ?_
 ·skip;refine ai hS fun a hS=>?_;obtain⟨L,x,hMo1⟩:=bd hM;refine bF _ (fun s a w=>∃ (d:Int),d=s∧St W0 No T 22 [(3,pt g 0),(4,pt c 0),(8,n),(9,al (e.length:Int)),(10,al d)] [.box g (aV b) 44,.box c [al 0,aO bI,aO bI,.slice none 0 0,al 0,al 0,al 0,.bool false] 84] [aR aa n e] a w) x ⟨_,rfl,hS.mt [1,0] [0]⟩ ?_;rintro s a w D ⟨d,rfl,hS⟩ hM hf1;have hM:jf e b d=some D:=hM;unfold jf at hM;refine ai hS fun a hS=>?_;refine aD ?_;rcases cd hM with⟨p,hM⟩|⟨p,hM⟩
  ·refine ai hS fun a hS=>?_;refine aD ?_;refine ai hS fun a hS=>?_;obtain⟨f,k,hM⟩:=bd hM;refine wl rfl (bm (R:=aa) hS qB m5 rfl rfl 0 rfl k rfl fun A H C q a hS=>?_);obtain⟨K,rfl,m⟩:=q;replace hS:=hS.fS m;refine ai hS fun a hS=>?_;refine ka hS gV fun B G a w hk hS=>?_;refine go hS fun a w hS=>?_;refine wl rfl (ky (v:=.bool (f.Key.Kind==b.Kind&&f.Key.Text.toList==b.Text.toList)) hS (zL hS rfl rfl) rfl rfl fun a hS=>?_);refine ai hS fun a hS=>?_;rcases cd hM with⟨r,hM⟩|⟨r,hM⟩
   ·refine ai hS fun a hS=>?_;obtain⟨I,l,hM⟩:=bd hM;refine kc hS Fr (ni _ _ hS.dlt f _ (hS.get 0 rfl) _ l) fun _ w hR a hk hA=>?_;obtain⟨t,o,he,j⟩:=hR;obtain rfl:=he.symm;have hS:=qD hA j;refine go hS fun a w hS=>?_;cases hM
    have hr:=hf1 _ rfl;subst hr;replace hMo1:=kl hMo1;have hM:=hMo1;cases hM
    refine aI hS Tryz.results129 (bn hS rfl 3 rfl m5 rfl (fun h=>by cases h) (aq hS rfl aH)) ?_;exact⟨t,o,rfl,hS.retOwn ⟨.inr (a6 (i:=0) rfl),trivial⟩ 0 rfl 0 rfl⟩
   exact fz
  exact fz
 rintro a w ⟨hS,hM⟩;unfold sQ at hM;refine ai hS fun a hS=>?_;refine qy hS (bq (ps:=[]) hS Oy gV rfl (us:=[]) trivial (ws:=[al 0,aO bI,aO bI,.slice none 0 0,al 0,al 0,al 0,.bool false]) rfl) fun a hS=>?_;refine go hS fun a w hS=>?_;cases hM
 refine aI hS Tryz.results129 (bn hS rfl 0 rfl m5 rfl (fun h=>by cases h) (aq hS rfl aH)) ?_;exact⟨.slice none 0 0,[],rfl,eE _ _ _ _ _ _⟩
def tV:Option Bool:=some (false)
def ma (e:LK) (d:ah) (b:Int):Option (Fl (Int) (Fl (Unit) Bool)):=cond (decide (b<(e.length:Int))) ((bu e b).bind fun c=>cond (c.Kind==d.Kind&&c.Text.toList==d.Text.toList) (some (.out (.out true))) (some (.go (IntKind.i64.wrap (b+1))))) (some (.out (.go ())))
def pq (c:LK) (b:ah):Option Bool:=(loop (fun s:Int=>ma c b s) 0).bind fun r=>Fl.el r (fun s=>tV) (fun y=>some (y))
theorem uS (T:Nat→Prop) (W0:World) (hT:TW T W0) (d:LK) (b:ah) (h:Value) (l:aE ac T W0 h d) (y:Bool) (hM:pq d b=some y):bj aP No 94 [h,.agg (aV b).toArray] W0 (fun v w'=>v = .bool y):=by
 refine en Tryz.func94 Tryz.ntmps94 hT fun a hS=>?_;replace hS:=hS.fS (aE.dn l);unfold pq at hM;refine ai hS fun a hS=>?_;refine kb hS fun e q a w hk hS=>?_;refine ai hS fun a hS=>?_;refine aK (J:=fun a w=>St W0 No T 17 [] [] [] a w∧tV=some y) ?_ ?_
 ·skip;refine ai hS fun a hS=>?_;obtain⟨u,k,hMo1⟩:=bd hM;refine bF _ (fun s a w=>∃ (c:Int),c=s∧St W0 No T 17 [(3,pt e 0),(7,h),(8,al (d.length:Int)),(9,al c)] [.box e (aV b) 44] [aR ac h d] a w) k ⟨_,rfl,hS.mt [0] [0]⟩ ?_;rintro s a w p ⟨c,rfl,hS⟩ hM hf1;have hM:ma d b c=some p:=hM;unfold ma at hM;refine ai hS fun a hS=>?_;refine aD ?_;rcases cd hM with⟨i,hM⟩|⟨i,hM⟩
  ·refine ai hS fun a hS=>?_;refine aD ?_;refine ai hS fun a hS=>?_;obtain⟨f,g,hM⟩:=bd hM;refine wl rfl (bm (R:=ac) hS kB dR rfl rfl 0 rfl g rfl fun m t o j a hS=>?_);obtain rfl:=j;refine ai hS fun a hS=>?_;refine ka hS gU fun n r a w hk hS=>?_;refine go hS fun a w hS=>?_;refine wl rfl (ky (v:=.bool (f.Kind==b.Kind&&f.Text.toList==b.Text.toList)) hS (zL hS rfl rfl) rfl rfl fun a hS=>?_);exact fz
  exact fz
 rintro a w ⟨hS,hM⟩;unfold tV at hM;exact fz
def nj (b:(List dg)):Option (List dg):=some (b)
def nk (b:Int) (c:(List dg)):Option (Fl ((List dg)×Int) ((List dg))):=some (.go (c,IntKind.i64.wrap (b+1)))
def kL (b:Int) (c:(List dg)):Option (Fl ((List dg)×Int) ((List dg))):=some (.go (c,IntKind.i64.wrap (b+1)))
def iI (f:LK) (e:ah) (g:(aw×Bool)) (c:(List dg)) (b:Int):Option (Fl ((List dg)×Int) ((List dg))):=cond (decide (b<(g.1.Reads.length:Int))) ((bu g.1.Reads b).bind fun d=>(pq f d).bind fun h=>cond (!(h)) (gd (bH (c.length+([(dg.mk e d)]).length)) <| kL b (c++([(dg.mk e d)]))) (kL b c)) (some (.out c))
def kM (g:LR) (b:LK) (e:(List dg)) (c:Int):Option (Fl ((List dg)×Int) ((List dg))):=cond (decide (c<(b.length:Int))) ((bu b c).bind fun d=>(c8 g d).bind fun f=>(loop (fun s:(List dg)×Int=>iI b d f s.1 s.2) (e,0)).bind fun r=>nk c r) (some (.out e))
def iV (c:LR) (b:LK):Option (List dg):=(loop (fun s:(List dg)×Int=>kM c b s.1 s.2) (([]:List dg),0)).bind fun r=>nj r
theorem oD (T:Nat→Prop) (W0:World) (hT:TW T W0) (j:LR) (b:LK) (n:Value) (e:Value) (a9:aE aa T W0 n j) (S:aE ac T W0 e b) (y:(List dg)) (hM:iV j b=some y):bj aP No 149 [n,e] W0 (fun v w'=>∃ (v3:Value) (sI:bv),v=v3∧gg gh T W0 w' [ne v3 sI] 198 v3 sI y):=by
 refine en Tryz.func149 Tryz.ntmps149 hT fun a hS=>?_;replace hS:=(hS.fS (aE.dn a9)).fS (aE.dn S);unfold iV at hM;refine ai hS fun a hS=>?_;refine aK (J:=fun a w=>∃ (D:(List dg)) (t:Value) (p:LV),St W0 No T 44 [(5,t)] [ne t p] [an gh p D] a w∧nj D=some y) ?_ ?_
 ·skip;refine ai hS fun a hS=>?_;replace hS:=hS.nilRow gh 198 (by decide);obtain⟨r1,O,hMo1⟩:=bd hM;refine bF _ (fun s a w=>∃ (r:(List dg)) (f:Int) (G:Value) (z:LV),(r,f)=s∧St W0 No T 44 [(0,n),(1,e),(5,G),(12,e),(13,al (b.length:Int)),(14,al f)] [ne G z] [aR aa n j,aR ac e b,an gh z r] a w) O ⟨_,_,_,_,rfl,hS.mt [0] [2,1,0]⟩ ?_;rintro s a w f1 ⟨r,f,G,z,rfl,hS⟩ hM hf1;have hM:kM j b r f=some f1:=hM;unfold kM at hM;refine ai hS fun a hS=>?_;refine aD ?_;rcases cd hM with⟨U,hM⟩|⟨U,hM⟩
  ·refine ai hS fun a hS=>?_;refine aK (J:=fun a w=>∃ (E:(List dg)) (H:Value) (A:LV),St W0 No T 44 [(0,n),(1,e),(5,H),(12,e),(13,al (b.length:Int)),(14,al f)] [ne H A] [aR aa n j,aR ac e b,an gh A E] a w∧nk f E=some f1) ?_ ?_
   ·skip;refine ai hS fun a hS=>?_;obtain⟨c,M,hM⟩:=bd hM;refine wl rfl (bm (R:=ac) hS kB dR rfl rfl 1 rfl M rfl fun ab b5 av V a hS=>?_);obtain rfl:=V;refine ai hS fun a hS=>?_;refine ka hS gU fun o b2 a w hk hS=>?_;refine go hS fun a w hS=>?_;obtain⟨m,P,hM⟩:=bd hM;refine kc hS mA (cj _ _ hS.dlt j c _ (hS.get 1 rfl) _ P) fun _ w hR a hk hA=>?_;obtain⟨u,q,he,L⟩:=hR;obtain rfl:=he.symm;have hS:=qD hA L;refine ai hS fun a hS=>?_;refine ka hS gV fun af b3 a w hk hS=>?_;refine go hS fun a w hS=>?_;obtain⟨r2,a5,hMo2⟩:=bd hM;refine bF _ (fun s a w=>∃ (l:(List dg)) (g:Int) (I:Value) (B:LV),(l,g)=s∧St W0 No T 44 [(0,n),(1,e),(5,I),(7,pt o 0),(12,e),(13,al (b.length:Int)),(14,al f),(25,u),(26,al (m.1.Reads.length:Int)),(27,al g)] [ne I B,ay u q,.box o (aV c) 44] [aR aa n j,aR ac e b,an gh B l,an ac q m.1.Reads] a w) a5 ⟨_,_,_,_,rfl,hS.mt [3,1,2] [2,3,4,0]⟩ ?_;rintro s a w f2 ⟨l,g,I,B,rfl,hS⟩ hM hf2;have hM:iI b c m l g=some f2:=hM;unfold iI at hM;refine ai hS fun a hS=>?_;refine aD ?_;rcases cd hM with⟨W,hM⟩|⟨W,hM⟩
    ·refine ai hS fun a hS=>?_;refine aK (J:=fun a w=>∃ (F:(List dg)) (K:Value) (C:LV),St W0 No T 44 [(0,n),(1,e),(5,K),(7,pt o 0),(12,e),(13,al (b.length:Int)),(14,al f),(25,u),(26,al (m.1.Reads.length:Int)),(27,al g)] [ne K C,ay u q,.box o (aV c) 44] [aR aa n j,aR ac e b,an gh C F,an ac q m.1.Reads] a w∧kL g F=some f2) ?_ ?_
     ·skip;refine ai hS fun a hS=>?_;obtain⟨d,N,hM⟩:=bd hM;refine wl rfl (dj (R:=ac) hS kB dR rfl rfl 1 rfl 3 rfl N rfl fun ag b6 b8 b0 X Y Z a hS=>?_);obtain rfl:=X;refine qy hS (ce (k:=0) hS dR 1 rfl Y Z rfl id (us:=(aV d)) rfl rfl (fun h=>by cases h)) fun a hS=>?_;refine ka hS gU fun ak b4 a w hk hS=>?_;refine go hS fun a w hS=>?_;obtain⟨b9,Q,hM⟩:=bd hM;refine kc hS LX (uS _ _ hS.dlt b d _ (hS.get 1 rfl) _ Q) fun _ w hR a hk hA=>?_;obtain rfl:=hR;have hS:=bY hA;refine ai hS fun a hS=>?_;rcases cd hM with⟨a0,hM⟩|⟨a0,hM⟩
      ·refine ai hS fun a hS=>?_;refine qy hS (bq (ps:=[(0,.tmp 36),(1,.tmp 37)]) hS Ox Ge rfl (us:=[(aV c),(aV d)]) ⟨rfl,⟨rfl,trivial⟩⟩ (ws:=[al c.Kind,aO c.Text,al d.Kind,aO d.Text]) rfl) fun a hS=>?_;refine wl rfl (a8 (ps:=[(0,.tmp 38)]) hS Lf Ge (zl:=[al 0,aO bI,al 0,aO bI]) (by kernel_rfl) rfl (us:=[[al c.Kind,aO c.Text,al d.Kind,aO d.Text]]) ⟨rfl,trivial⟩ (ws:=[al c.Kind,aO c.Text,al d.Kind,aO d.Text]) rfl rfl rfl rfl fun ao a w hk hS=>?_);replace hS:=(hS.lit (R:=gh) (us:=[al c.Kind,aO c.Text,al d.Kind,aO d.Text]) (xs:=[(dg.mk c d)]) 0 rfl (by decide) (aA.one_ (R:=gh) (x:=(dg.mk c d)) rfl) rfl rfl).freeze (R:=gh) 0 rfl 0 rfl;obtain⟨a1,hM⟩:=be hM;refine wl rfl (bM (R:=gh) (xs:=l) (ys:=[(dg.mk c d)]) hS Lf (by decide) (by decide) rfl rfl 1 rfl 4 rfl 0 rfl a1 rfl fun bb b1 a w hk hS=>?_);exact fz
      exact fz
     rintro a w ⟨F,K,C,hS,hM⟩;unfold kL at hM;exact fz
    exact fz
   rintro a w ⟨E,H,A,hS,hM⟩;unfold nk at hM;exact fz
  exact fz
 rintro a w ⟨D,t,p,hS,hM⟩;unfold nj at hM;refine ai hS fun a hS=>?_;cases hM
 refine aI hS rfl (aq hS rfl aH) ?_;exact⟨t,p,rfl,hS.retOwn ⟨.inr (a6 (i:=0) rfl),trivial⟩ 0 rfl 0 rfl⟩
def qL (b:LK):Option LK:=some (b)
def iH (b:Int) (c:LK):Option (Fl (LK×Int) (LK)):=some (.go (c,IntKind.i64.wrap (b+1)))
def e9 (c:LK) (e:Int) (d:ah) (f:Int) (h:Bool):Option (Fl (LK×Int) (LK)):=cond h ((o0 c 0 f).bind fun b=>(o0 c f c.length).bind fun g=>gd (bH (([]:List ah).length+b.length)) <| gd (bH ((([]:List ah)++b).length+([d]).length)) <| gd (bH (((([]:List ah)++b)++([d])).length+g.length)) <| iH e (((([]:List ah)++b)++([d]))++g)) (iH e c)
def kJ (d:LK) (f:Int) (b:ah) (c:Int):Option (Fl (LK×Int) (LK)):=cond (c==(d.length:Int)) (e9 d f b c true) ((bu d c).bind fun e=>e9 d f b c (!(e.Kind==b.Kind&&e.Text.toList==b.Text.toList)))
def f7 (c:LK) (d:ah) (b:Int):Option (Fl (Int) (Int)):=cond (decide (b<(c.length:Int))) ((bu c b).bind fun e=>(jK e d).bind fun f=>cond (decide (f<0)) (some (.go (IntKind.i64.wrap (b+1)))) (some (.out b))) (some (.out b))
def nh (e:LK) (c:LK) (b:Int):Option (Fl (LK×Int) (LK)):=cond (decide (b<(e.length:Int))) ((bu e b).bind fun d=>(loop (fun s:Int=>f7 c d s) 0).bind fun r=>kJ c b d r) (some (.out c))
def gw (b:LK):Option LK:=(loop (fun s:LK×Int=>nh b s.1 s.2) (([]:List ah),0)).bind fun r=>qL r
theorem rX (T:Nat→Prop) (W0:World) (hT:TW T W0) (hLv:di T W0) (e:LK) (o:Value) (bi:aE ac T W0 o e) (y:LK) (hM:gw e=some y):bj aP No 82 [o] W0 (fun v w'=>∃ (I:Value) (qE:bv),v=I∧gg ac T W0 w' [ay I qE] 44 I qE y):=by
 refine en Tryz.func82 Tryz.ntmps82 hT fun a hS=>?_;replace hS:=(hS.fact bC (di.dn hLv)).fS (aE.dn bi);unfold gw at hM;refine ai hS fun a hS=>?_;refine aK (J:=fun a w=>∃ (G:LK) (A:Value) (q:LV),St W0 No T 53 [(3,A)] [ay A q] [an ac q G,bC] a w∧qL G=some y) ?_ ?_
 ·skip;refine ai hS fun a hS=>?_;replace hS:=hS.nilRow ac 44 (by decide);obtain⟨r1,b9,hMo1⟩:=bd hM;refine bF _ (fun s a w=>∃ (d:LK) (c:Int) (g:Value) (f:LV),(d,c)=s∧St W0 No T 53 [(3,g),(7,o),(8,al (e.length:Int)),(9,al c)] [ay g f] [an ac f d,aR ac o e,bC] a w) b9 ⟨_,_,_,_,rfl,hS.mt [0] [0,1,2]⟩ ?_;rintro s a w P ⟨d,c,g,f,rfl,hS⟩ hM hf1;have hM:nh e d c=some P:=hM;unfold nh at hM;refine ai hS fun a hS=>?_;refine aD ?_;rcases cd hM with⟨a2,hM⟩|⟨a2,hM⟩
  ·refine ai hS fun a hS=>?_;refine aK (J:=fun a w=>∃ (H:LK) (K:Value) (B:LV),St W0 No T 53 [(3,K),(7,o),(8,al (e.length:Int)),(9,al c)] [ay K B] [an ac B H,aR ac o e,bC] a w∧iH c H=some P) ?_ ?_
   ·skip;refine ai hS fun a hS=>?_;obtain⟨b,Q,hM⟩:=bd hM;refine wl rfl (bm (R:=ac) hS kB dR rfl rfl 1 rfl Q rfl fun bl ca c0 a3 a hS=>?_);obtain rfl:=a3;refine ai hS fun a hS=>?_;refine ka hS gU fun m c9 a w hk hS=>?_;refine go hS fun a w hS=>?_;refine aK (J:=fun a w=>∃ (p:Int),St W0 No T 53 [(3,g),(5,pt m 0),(6,al p),(7,o),(8,al (e.length:Int)),(9,al c)] [ay g f,.box m (aV b) 44] [an ac f d,aR ac o e,bC] a w∧kJ d c b p=some P) ?_ ?_
    ·skip;refine ai hS fun a hS=>?_;obtain⟨r2,bb,hMo2⟩:=bd hM;refine bF _ (fun s a w=>∃ (z:Int),z=s∧St W0 No T 53 [(3,g),(5,pt m 0),(6,al z),(7,o),(8,al (e.length:Int)),(9,al c)] [ay g f,.box m (aV b) 44] [an ac f d,aR ac o e,bC] a w) bb ⟨_,rfl,hS.mt [1,0] [1,2,3]⟩ ?_;rintro s a w f2 ⟨z,rfl,hS⟩ hM hf2;have hM:f7 d b z=some f2:=hM;unfold f7 at hM;refine aD ?_;refine aD ?_;refine dr [] hS fun w hQ hS=>?_;refine gE [0,1,2,3,4] hS fun a hS=>?_;rcases cd hM with⟨t,hM⟩|⟨t,hM⟩
     ·refine gE [5,6] hS fun a hS=>?_;obtain⟨C,U,hM⟩:=bd hM;obtain⟨Y,b2,cb,c1,a4,a5,a9,ab⟩:=mD (R:=ac) hS kB dR 0 rfl 0 rfl U;obtain rfl:=a4;refine y7 7 (v:=pt Y b2) rfl (by kernel_rfl) (by kernel_rfl) (by kernel_rfl) rfl hQ hS (ab rfl rfl) rfl rfl rfl t rfl rfl fun a hS=>?_;refine y7 (l:=[]) 8 (v:=.agg (aV C).toArray) rfl (by kernel_rfl) (by kernel_rfl) (by kernel_rfl) (by kernel_rfl) hQ hS (ce (k:=0) hS dR 0 rfl a5 a9 rfl bP (us:=(aV C)) rfl rfl (fun h=>by cases h)) rfl rfl rfl t rfl rfl fun a hS=>?_;refine gE [9] hS fun a hS=>?_;obtain⟨ck,X,hM⟩:=bd hM;refine cI (i:=10) rfl (by kernel_rfl) hS rfl rfl rfl t (bg hS ED rfl rfl (lF _ _ hS.dlt (hS.get 2 rfl) C b _ X) fun _ w hR a hk hA=>⟨gf (hk),?_⟩);obtain rfl:=hR;have hS:=bY hA;refine gE [11,12] hS fun a hS=>?_;refine eD ?_;exact fz
     refine gE [5,6,7,8,9,10,11,12] hS fun a hS=>?_;refine eD ?_;exact fz
    rintro a w ⟨p,hS,hM⟩;unfold kJ at hM;refine aK (J:=fun a w=>∃ (D:Bool),St W0 No T 53 [(3,g),(5,pt m 0),(6,al p),(7,o),(8,al (e.length:Int)),(9,al c),(39,.bool D)] [ay g f,.box m (aV b) 44] [an ac f d,aR ac o e,bC] a w∧e9 d c b p D=some P) ?_ ?_
    ·skip;refine dr [] hS fun w hQ hS=>?_;refine gE [0,1,2,3,4] hS fun a hS=>?_;rcases cd hM with⟨u,hM⟩|⟨u,hM⟩
     ·refine gE [5,6,7,8,9,10,11] hS fun a hS=>?_;refine eD ?_;exact⟨_,hS.mt [0,1] [0,1,2],hM⟩
     refine gE [5,6] hS fun a hS=>?_;obtain⟨r,S,hM⟩:=bd hM;obtain⟨Z,b3,ch,c2,af,ag,ak,ao⟩:=mD (R:=ac) hS kB dR 0 rfl 0 rfl S;obtain rfl:=af;refine y7 7 (v:=pt Z b3) rfl (by kernel_rfl) (by kernel_rfl) (by kernel_rfl) rfl hQ hS (ao rfl rfl) rfl rfl rfl u rfl rfl fun a hS=>?_;refine y7 (l:=[]) 8 (v:=.agg (aV r).toArray) rfl (by kernel_rfl) (by kernel_rfl) (by kernel_rfl) (by kernel_rfl) hQ hS (ce (k:=0) hS dR 0 rfl ag ak rfl bP (us:=(aV r)) rfl rfl (fun h=>by cases h)) rfl rfl rfl u rfl rfl fun a hS=>?_;refine gE [9] hS fun a hS=>?_;refine y7 10 (v:=.bool (!(r.Kind==b.Kind&&r.Text.toList==b.Text.toList))) rfl (by kernel_rfl) (by kernel_rfl) (by kernel_rfl) rfl hQ hS (zM hS rfl rfl) rfl rfl rfl u rfl rfl fun a hS=>?_;refine gE [11] hS fun a hS=>?_;refine eD ?_;exact⟨_,hS.mt [0,1] [0,1,2],hM⟩
    rintro a w ⟨D,hS,hM⟩;unfold e9 at hM;rcases cd hM with⟨av,hM⟩|⟨av,hM⟩
    ·refine ai hS fun a hS=>?_;replace hS:=hS.nilRow ac 44 (by decide);refine dr [(3,.blk (Value.ownBlock (.slice none 0 0))),(6,.any),(10,.any)] hS fun w hQ hS=>?_;refine gE [0,1] hS fun a hS=>?_;obtain⟨n,V,hM⟩:=bd hM;obtain⟨b4,L,b0⟩:=zF (R:=ac) hS kB dR 1 rfl 1 rfl V;refine dy 2 (v:=b4) rfl (by kernel_rfl) (by kernel_rfl) (by kernel_rfl) rfl hQ hS (b0 (k1:=.i64) rfl (.inr ⟨rfl,rfl⟩) (.inl ⟨_,rfl,rfl⟩)) rfl rfl rfl fun a hS=>?_;refine dy (l:=[.blk (Value.ownBlock (.slice none 0 0))]) 4 (v:=.agg (aV b).toArray) rfl (by kernel_rfl) (by kernel_rfl) (by kernel_rfl) (by kernel_rfl) hQ hS (eU hS rfl dR 2 rfl (jZ hS 2 rfl rfl 0 rfl rfl (by decide) bP) (us:=(aV b)) rfl rfl (fun h=>by cases h)) rfl rfl rfl fun a hS=>?_;refine gE [7,8] hS fun a hS=>?_;obtain⟨O,W,hM⟩:=bd hM;obtain⟨b5,M,b1⟩:=zF (R:=ac) hS kB dR 1 rfl 1 rfl W;refine dy 9 (v:=b5) rfl (by kernel_rfl) (by kernel_rfl) (by kernel_rfl) rfl hQ hS (b1 (k2:=.i64) rfl (.inl ⟨_,rfl,rfl⟩) (.inr ⟨rfl,rfl⟩)) rfl rfl rfl fun a hS=>?_;obtain⟨N,hM⟩:=be hM;refine eh (i:=3) (j:=5) rfl rfl (by kernel_rfl) rfl rfl ?_ ?_
     ·skip;skip;replace hS:=hS.freeze (R:=ac) 1 rfl 1 rfl;replace hS:=hS.fS (L _ _ (hS.get 0 rfl));refine id (bM (R:=ac) (xs:=([]:List ah)) (ys:=n) hS gY (by decide) (by decide) rfl rfl 0 rfl 2 rfl 0 rfl N rfl fun cl c3 a w hk hS=>⟨mx rfl hk mE,?_⟩);refine e1 5 (a8 (ps:=[(0,.tmp 44)]) hS gY gU (zl:=[al 0,aO bI]) (by kernel_rfl) rfl (us:=[(aV b)]) ⟨rfl,trivial⟩ (ws:=(aV b)) rfl rfl rfl rfl fun bs a w hk hS=>⟨gf (hk),?_⟩);replace hS:=(hS.lit (R:=ac) (us:=(aV b)) (xs:=[b]) 0 rfl (by decide) (aA.one_ (R:=ac) (x:=b) rfl) rfl rfl).freeze (R:=ac) 0 rfl 0 rfl;obtain⟨E,hM⟩:=be hM;refine e1 6 (bM (R:=ac) (xs:=(([]:List ah)++n)) (ys:=[b]) hS gY (by decide) (by decide) rfl rfl 0 rfl 2 rfl 0 rfl E rfl fun b6 a0 a w hk hS=>⟨mx rfl hk vQ,?_⟩);replace hS:=hS.fS (M _ _ (hS.get 5 rfl));obtain⟨F,hM⟩:=be hM;refine e1 10 (bM (R:=ac) (xs:=((([]:List ah)++n)++([b]))) (ys:=O) hS gY (by decide) (by decide) rfl rfl 0 rfl 1 rfl 0 rfl F rfl fun b8 a1 a w hk hS=>⟨mx rfl hk vQ,?_⟩);refine gE [11] hS fun a hS=>?_;refine eD ?_;exact⟨_,_,_,hS.mt [0] [0,10,11],hM⟩
     skip;refine id (a8 (ps:=[(0,.tmp 44)]) hS gY gU (zl:=[al 0,aO bI]) (by kernel_rfl) rfl (us:=[(aV b)]) ⟨rfl,trivial⟩ (ws:=(aV b)) rfl rfl rfl rfl fun bt a w hk hS=>⟨gf (hk),?_⟩);replace hS:=hS.freeze (R:=ac) 2 rfl 1 rfl;replace hS:=hS.fS (L _ _ (hS.get 0 rfl));refine e1 3 (bM (R:=ac) (xs:=([]:List ah)) (ys:=n) hS gY (by decide) (by decide) rfl rfl 1 rfl 2 rfl 0 rfl N rfl fun co c4 a w hk hS=>⟨mx rfl hk mE,?_⟩);replace hS:=(hS.lit (R:=ac) (us:=(aV b)) (xs:=[b]) 0 rfl (by decide) (aA.one_ (R:=ac) (x:=b) rfl) rfl rfl).freeze (R:=ac) 0 rfl 0 rfl;obtain⟨E,hM⟩:=be hM;refine e1 6 (bM (R:=ac) (xs:=(([]:List ah)++n)) (ys:=[b]) hS gY (by decide) (by decide) rfl rfl 0 rfl 2 rfl 0 rfl E rfl fun b6 a0 a w hk hS=>⟨mx rfl hk vQ,?_⟩);replace hS:=hS.fS (M _ _ (hS.get 5 rfl));obtain⟨F,hM⟩:=be hM;refine e1 10 (bM (R:=ac) (xs:=((([]:List ah)++n)++([b]))) (ys:=O) hS gY (by decide) (by decide) rfl rfl 0 rfl 1 rfl 0 rfl F rfl fun b8 a1 a w hk hS=>⟨mx rfl hk vQ,?_⟩);refine gE [11] hS fun a hS=>?_;refine eD ?_;exact⟨_,_,_,hS.mt [0] [0,10,11],hM⟩
    exact fz
   rintro a w ⟨H,K,B,hS,hM⟩;unfold iH at hM;exact fz
  exact fz
 rintro a w ⟨G,A,q,hS,hM⟩;unfold qL at hM;refine ai hS fun a hS=>?_;cases hM
 refine aI hS rfl (aq hS rfl aH) ?_;exact⟨A,q,rfl,hS.retOwn ⟨.inr (a6 (i:=0) rfl),trivial⟩ 0 rfl 0 rfl⟩
def jg (b:Bool):Option Bool:=some (b)
def pz (f:LR) (b:Int) (d:ah):Option Bool:=(c8 f d).bind fun c=>cond c.2 ((cN d).bind fun e=>cond e (cond (decide (c.1.Verified<b)) (jg (!(c.1.Dirty))) (jg false)) (jg false)) (jg false)
theorem xl (T:Nat→Prop) (W0:World) (hT:TW T W0) (g:LR) (b:Int) (d:ah) (k:Value) (j:aE aa T W0 k g) (y:Bool) (hM:pz g b d=some y):bj aP No 180 [k,al b,.agg (aV d).toArray] W0 (fun v w'=>v = .bool y):=by
 refine en Tryz.func180 Tryz.ntmps180 hT fun a hS=>?_;replace hS:=hS.fS (aE.dn j);unfold pz at hM;refine ai hS fun a hS=>?_;refine kb hS fun l o a w hk hS=>?_;refine ai hS fun a hS=>?_;obtain⟨q,h,hM⟩:=bd hM;refine kc hS mA (cj _ _ hS.dlt g d _ (hS.get 0 rfl) _ h) fun _ w hR a hk hA=>?_;obtain⟨s,n,he,f⟩:=hR;obtain rfl:=he.symm;have hS:=qD hA f;refine ai hS fun a hS=>?_;refine ka hS gV fun m p a w hk hS=>?_;refine go hS fun a w hS=>?_;refine aK (J:=fun a w=>∃ (c:Bool),St W0 No T 31 [(6,.bool c)] [] [] a w∧jg c=some y) ?_ ?_
 ·skip;refine ai hS fun a hS=>?_;rcases cd hM with⟨e,hM⟩|⟨e,hM⟩
  ·refine ai hS fun a hS=>?_;obtain⟨r,i,hM⟩:=bd hM;refine wg hS rfl rfl rfl e (bg hS xQ rfl rfl (c7 _ _ hS.dlt d _ i) fun _ w hR a hk hA=>?_);obtain rfl:=hR;have hS:=bY hA;exact fz
  exact fz
 rintro a w ⟨c,hS,hM⟩;unfold jg at hM;exact fz
def oE (b:LO):Option LO:=some (b)
def lN (b:Int) (d:LO) (c:LK):Option (Fl (LO×LK×Int) (LO)):=some (.go (d,c,IntKind.i64.wrap (b+1)))
def lO (b:Int) (d:LO) (c:LK):Option (Fl (LO×LK×Int) (LO×LK)):=some (.go (d,c,IntKind.i64.wrap (b+1)))
def lP (e:LO) (c:LK) (d:Int) (b:ah) (f:Bool):Option (Fl (LO×LK×Int) (LO×LK)):=cond f (gd (bH (c.length+([b]).length)) <| lO d (eH aL b true e) (c++([b]))) (lO d e c)
def fU (j:LR) (e:Int) (g:(aw×Bool)) (d:LO) (f:LK) (c:Int):Option (Fl (LO×LK×Int) (LO×LK)):=cond (decide (c<(g.1.Reads.length:Int))) ((bu g.1.Reads c).bind fun b=>(pz j e b).bind fun h=>cond h ((some ((cK aL b d).getD false)).bind fun i=>lP d f c b (!(i))) (lP d f c b false)) (some (.out (d,f)))
def ij (f:LR) (b:Int) (e:LO) (d:LK) (c:Int):Option (Fl (LO×LK×Int) (LO)):=cond (decide (c<(d.length:Int))) ((bu d c).bind fun g=>(c8 f g).bind fun h=>(loop (fun s:LO×LK×Int=>fU f b h s.1 s.2.1 s.2.2) (e,d,0)).bind fun r=>lN c r.1 r.2) (some (.out e))
def nY (d:LR) (b:Int) (c:ah):Option LO:=(loop (fun s:LO×LK×Int=>ij d b s.1 s.2.1 s.2.2) (([]:LO),[c],0)).bind fun r=>oE r
theorem vY (T:Nat→Prop) (W0:World) (hT:TW T W0) (l:LR) (b:Int) (u:ah) (q:Value) (c3:aE aa T W0 q l) (y:LO) (hM:nY l b u=some y):bj aP No 181 [q,al b,.agg (aV u).toArray] W0 (fun v w'=>∃ (b2:Nat) (ak:Array MapEntry) (ag:Nat),v = .map (some b2)∧Ls ac true aY.bool false T W0 w' [om b2 ak ag] b2 ak ag y):=by
 refine en Tryz.func181 Tryz.ntmps181 hT fun a hS=>?_;replace hS:=hS.fS (aE.dn c3);unfold nY at hM;refine ai hS fun a hS=>?_;refine kb hS fun c4 d2 a w hk hS=>?_;refine ai hS fun a hS=>?_;refine wl rfl (qY ac true aY.bool false hS rfl fun e d3 a w hk hS=>?_);refine ai hS fun a hS=>?_;refine wl rfl (a8 (ps:=[(0,.tmp 15)]) hS gY gU (zl:=[al 0,aO bI]) (by kernel_rfl) rfl (us:=[(aV u)]) ⟨rfl,trivial⟩ (ws:=(aV u)) rfl rfl rfl rfl fun c5 a w hk hS=>?_);refine ai hS fun a hS=>?_;refine aK (J:=fun a w=>∃ (P:LO) (A:AM) (D:Nat),St W0 No T 57 [(7,.map (some e))] [om e A D] [vU A P] a w∧oE P=some y) ?_ ?_
 ·skip;refine ai hS fun a hS=>?_;replace hS:=hS.lit (R:=ac) (us:=(aV u)) (xs:=[u]) 0 rfl (by decide) (aA.one_ (R:=ac) (x:=u) rfl) rfl rfl;obtain⟨r1,c1,hMo1⟩:=bd hM;refine bF _ (fun s a w=>∃ (C:LO) (B:LK) (f:Int) (I:AM) (Y:Nat) (U:Value) (E:LV),(C,B,f)=s∧St W0 No T 57 [(0,q),(1,al b),(7,.map (some e)),(8,U),(9,al f)] [om e I Y,ay U E] [aR aa q l,vU I C,an ac E B] a w) c1 ⟨_,_,_,_,_,_,_,rfl,hS.mt [1,0] [2,1,0]⟩ ?_;rintro s a w f1 ⟨C,B,f,I,Y,U,E,rfl,hS⟩ hM hf1;have hM:ij l b C B f=some f1:=hM;unfold ij at hM;refine aD ?_;refine ai hS fun a hS=>?_;rcases cd hM with⟨b1,hM⟩|⟨b1,hM⟩
  ·refine ai hS fun a hS=>?_;refine aK (J:=fun a w=>∃ (Q:LO) (N:LK) (K:AM) (Z:Nat) (V:Value) (F:LV),St W0 No T 57 [(0,q),(1,al b),(7,.map (some e)),(8,V),(9,al f)] [om e K Z,ay V F] [aR aa q l,vU K Q,an ac F N] a w∧lN f Q N=some f1) ?_ ?_
   ·skip;refine ai hS fun a hS=>?_;obtain⟨a1,a5,hM⟩:=bd hM;refine wl rfl (dj (R:=ac) hS kB dR rfl rfl 1 rfl 2 rfl a5 rfl fun c9 da dk ck b3 b4 b5 a hS=>?_);obtain rfl:=b3;refine qy hS (ce (k:=0) hS dR 1 rfl b4 b5 rfl id (us:=(aV a1)) rfl rfl (fun h=>by cases h)) fun a hS=>?_;obtain⟨n,a9,hM⟩:=bd hM;refine kc hS mA (cj _ _ hS.dlt l a1 _ (hS.get 0 rfl) _ a9) fun _ w hR a hk hA=>?_;obtain⟨p,o,he,a3⟩:=hR;obtain rfl:=he.symm;have hS:=qD hA a3;refine ai hS fun a hS=>?_;refine ka hS gV fun ca d4 a w hk hS=>?_;refine go hS fun a w hS=>?_;obtain⟨r2,c2,hMo2⟩:=bd hM;refine bF _ (fun s a w=>∃ (m:LO) (j:LK) (g:Int) (t:AM) (G:Nat) (z:Value) (r:LV),(m,j,g)=s∧St W0 No T 57 [(0,q),(1,al b),(7,.map (some e)),(8,z),(9,al f),(33,p),(34,al (n.1.Reads.length:Int)),(35,al g)] [om e t G,ay z r,ay p o] [aR aa q l,vU t m,an ac r j,an ac o n.1.Reads] a w) c2 ⟨_,_,_,_,_,_,_,rfl,hS.mt [2,3,1] [1,2,3,0]⟩ ?_;rintro s a w f2 ⟨m,j,g,t,G,z,r,rfl,hS⟩ hM hf2;have hM:fU l b n m j g=some f2:=hM;unfold fU at hM;refine ai hS fun a hS=>?_;refine aD ?_;rcases cd hM with⟨b6,hM⟩|⟨b6,hM⟩
    ·refine ai hS fun a hS=>?_;refine aK (J:=fun a w=>∃ (S:LO) (O:LK) (L:AM) (a0:Nat) (W:Value) (H:LV),St W0 No T 57 [(0,q),(1,al b),(7,.map (some e)),(8,W),(9,al f),(33,p),(34,al (n.1.Reads.length:Int)),(35,al g)] [om e L a0,ay W H,ay p o] [aR aa q l,vU L S,an ac H O,an ac o n.1.Reads] a w∧lO g S O=some f2) ?_ ?_
     ·skip;refine ai hS fun a hS=>?_;obtain⟨d,a4,hM⟩:=bd hM;refine wl rfl (dj (R:=ac) hS kB dR rfl rfl 2 rfl 3 rfl a4 rfl fun cb dc dl cl b8 b9 bb a hS=>?_);obtain rfl:=b8;refine qy hS (ce (k:=0) hS dR 2 rfl b9 bb rfl id (us:=(aV d)) rfl rfl (fun h=>by cases h)) fun a hS=>?_;refine ka hS gU fun X d6 a w hk hS=>?_;refine go hS fun a w hS=>?_;refine aK (J:=fun a w=>∃ (M:Bool),St W0 No T 57 [(0,q),(1,al b),(7,.map (some e)),(8,z),(9,al f),(13,pt X 0),(33,p),(34,al (n.1.Reads.length:Int)),(35,al g),(48,.bool M)] [om e t G,ay z r,ay p o,.box X (aV d) 44] [aR aa q l,vU t m,an ac r j,an ac o n.1.Reads] a w∧lP m j g d M=some f2) ?_ ?_
      ·skip;refine ai hS fun a hS=>?_;obtain⟨ds,ab,hM⟩:=bd hM;refine kc hS K8 (xl _ _ hS.dlt l b d _ (hS.get 0 rfl) _ ab) fun _ w hR a hk hA=>?_;obtain rfl:=hR;have hS:=bY hA;refine ai hS fun a hS=>?_;rcases cd hM with⟨a2,hM⟩|⟨a2,hM⟩
       ·refine ai hS fun a hS=>?_;obtain⟨c0,af,hM⟩:=bd hM;obtain⟨co,bi,bl⟩:=fh hS vT cT 1 rfl 1 rfl (c:=(aV d)) (key:=d) rfl Nj (zc:=[.bool false]) rfl rfl af;obtain rfl:=bi;refine wg hS rfl rfl rfl a2 (ky (v:=.bool c0) hS (bl rfl rfl id) rfl rfl fun a hS=>?_);exact fz
       exact fz
      rintro a w ⟨M,hS,hM⟩;unfold lP at hM;rcases cd hM with⟨bs,hM⟩|⟨bs,hM⟩
      ·refine ai hS fun a hS=>?_;refine wl rfl (x5 hS vT cT 0 rfl 1 rfl (c:=(aV d)) (cv:=[.bool true]) (key:=d) (val:=true) rfl rfl rfl rfl rfl fun d1 cs w hk hS=>?_);refine ai hS fun a hS=>?_;refine wl rfl (a8 (ps:=[(0,.tmp 52)]) hS gY gU (zl:=[al 0,aO bI]) (by kernel_rfl) rfl (us:=[(aV d)]) ⟨rfl,trivial⟩ (ws:=(aV d)) rfl rfl rfl rfl fun ch a w hk hS=>?_);replace hS:=(hS.lit (R:=ac) (us:=(aV d)) (xs:=[d]) 0 rfl (by decide) (aA.one_ (R:=ac) (x:=d) rfl) rfl rfl).freeze (R:=ac) 0 rfl 0 rfl;obtain⟨bt,hM⟩:=be hM;refine wl rfl (bM (R:=ac) (xs:=j) (ys:=[d]) hS gY (by decide) (by decide) rfl rfl 1 rfl 5 rfl 0 rfl bt rfl fun e2 d0 a w hk hS=>?_);exact fz
      exact fz
     rintro a w ⟨S,O,L,a0,W,H,hS,hM⟩;unfold lO at hM;exact fz
    refine ai hS fun a hS=>?_;cases hM
    have hr:=hf2 _ rfl;subst hr;have hM:lN f m j=some f1:=hMo2;exact⟨_,_,_,_,_,_,hS.mt [0,1] [0,1,2],hM⟩
   rintro a w ⟨Q,N,K,Z,V,F,hS,hM⟩;unfold lN at hM;exact fz
  exact fz
 rintro a w ⟨P,A,D,hS,hM⟩;unfold oE at hM;refine ai hS fun a hS=>?_;cases hM
 refine aI hS rfl (aq hS rfl aH) ?_;exact⟨e,A,D,rfl,hS.retMap ⟨.inr (a6 (i:=0) rfl),trivial⟩ 0 rfl 0 rfl⟩
def sE (b:LK):Option LK:=(gw b).bind fun c=>some (c)
def qq (b:Int) (c:LK):Option (Fl (LK×Int) (LK)):=some (.go (c,IntKind.i64.wrap (b+1)))
def nW (b:LK) (d:Int) (c:aw) (e:Bool):Option (Fl (LK×Int) (LK)):=cond e (gd (bH (b.length+([c.Key]).length)) <| qq d (b++([c.Key]))) (qq d b)
def nX (g:LR) (e:Int) (f:ah) (h:LO) (d:LK) (c:Int):Option (Fl (LK×Int) (LK)):=cond (decide (c<(g.length:Int))) ((bu g c).bind fun b=>cond (!(b.Key.Kind==f.Kind&&b.Key.Text.toList==f.Text.toList)) ((some ((cK aL b.Key h).getD false)).bind fun i=>cond i ((nY g e b.Key).bind fun j=>(some ((cK aL f j).getD false)).bind fun k=>nW d c b k) (nW d c b false)) (nW d c b false)) (some (.out d))
def mR (d:LR) (b:Int) (c:ah):Option LK:=(pz d b c).bind fun f=>cond (!(f)) (some ([c])) ((nY d b c).bind fun e=>(loop (fun s:LK×Int=>nX d b c e s.1 s.2) ([c],0)).bind fun r=>sE r)
theorem tX (T:Nat→Prop) (W0:World) (hT:TW T W0) (hLv:di T W0) (f:LR) (b:Int) (d:ah) (o:Value) (bb:aE aa T W0 o f) (y:LK) (hM:mR f b d=some y):bj aP No 150 [o,al b,.agg (aV d).toArray] W0 (fun v w'=>∃ (v2:Value) (qE:bv),v=v2∧gg ac T W0 w' [ay v2 qE] 44 v2 qE y):=by
 refine en Tryz.func150 Tryz.ntmps150 hT fun a hS=>?_;replace hS:=(hS.fact bC (di.dn hLv)).fS (aE.dn bb);unfold mR at hM;refine ai hS fun a hS=>?_;refine kb hS fun m c3 a w hk hS=>?_;refine ai hS fun a hS=>?_;refine aD ?_;refine ai hS fun a hS=>?_;obtain⟨cb,a2,hM⟩:=bd hM;refine kc hS K8 (xl _ _ hS.dlt f b d _ (hS.get 0 rfl) _ a2) fun _ w hR a hk hA=>?_;obtain rfl:=hR;have hS:=bY hA;refine ai hS fun a hS=>?_;rcases cd hM with⟨ag,hM⟩|⟨ag,hM⟩
 ·refine ai hS fun a hS=>?_;refine wl rfl (a8 (ps:=[(0,.tmp 16)]) hS gY gU (zl:=[al 0,aO bI]) (by kernel_rfl) rfl (us:=[(aV d)]) ⟨rfl,trivial⟩ (ws:=(aV d)) rfl rfl rfl rfl fun a4 a w hk hS=>?_);refine ai hS fun a hS=>?_;replace hS:=hS.lit (R:=ac) (us:=(aV d)) (xs:=[d]) 0 rfl (by decide) (aA.one_ (R:=ac) (x:=d) rfl) rfl rfl;cases hM
  refine aI hS rfl (aq hS rfl aH) ?_;exact⟨(.slice (some ⟨a4,0,none⟩) 1 1),(aV d),rfl,hS.retOwn ⟨.inr (a6 (i:=0) rfl),trivial⟩ 0 rfl 0 rfl⟩
 refine ai hS fun a hS=>?_;refine wl rfl (a8 (ps:=[(0,.tmp 18)]) hS gY gU (zl:=[al 0,aO bI]) (by kernel_rfl) rfl (us:=[(aV d)]) ⟨rfl,trivial⟩ (ws:=(aV d)) rfl rfl rfl rfl fun bi a w hk hS=>?_);refine ai hS fun a hS=>?_;obtain⟨t,Y,hM⟩:=bd hM;refine kc hS K9 (vY _ _ hS.dlt f b d _ (hS.get 0 rfl) _ Y) fun _ w hR a hk hA=>?_;obtain⟨h,j,q,he,⟨M,I,P⟩⟩:=hR;obtain rfl:=he.symm;have hS:=hA [om h j q] (ei M (tU I)) (sP _);replace hS:=hS.fM (P.keep (au _ _) (iB _));refine ai hS fun a hS=>?_;refine aK (J:=fun a w=>∃ (r:LK) (D:Value) (u:LV),St W0 No T 57 [(7,D)] [ay D u] [an ac u r,bC] a w∧sE r=some y) ?_ ?_
 ·skip;refine ai hS fun a hS=>?_;replace hS:=hS.lit (R:=ac) (us:=(aV d)) (xs:=[d]) 1 rfl (by decide) (aA.one_ (R:=ac) (x:=d) rfl) rfl rfl;obtain⟨r1,b9,hMo1⟩:=bd hM;refine bF _ (fun s a w=>∃ (k:LK) (g:Int) (p:Value) (n:LV),(k,g)=s∧St W0 No T 57 [(0,o),(1,al b),(5,pt m 0),(7,p),(8,.map (some h)),(24,o),(25,al (f.length:Int)),(26,al g)] [ay p n,om h j q,.box m (aV d) 44] [aR aa o f,an ac n k,vU j t,bC] a w) b9 ⟨_,_,_,_,rfl,hS.mt [1,0,2] [2,0,1,3]⟩ ?_;rintro s a w f1 ⟨k,g,p,n,rfl,hS⟩ hM hf1;have hM:nX f b d t k g=some f1:=hM;unfold nX at hM;refine ai hS fun a hS=>?_;refine aD ?_;rcases cd hM with⟨ak,hM⟩|⟨ak,hM⟩
  ·refine ai hS fun a hS=>?_;refine aK (J:=fun a w=>∃ (C:LK) (E:Value) (z:LV),St W0 No T 57 [(0,o),(1,al b),(5,pt m 0),(7,E),(8,.map (some h)),(24,o),(25,al (f.length:Int)),(26,al g)] [ay E z,om h j q,.box m (aV d) 44] [aR aa o f,an ac z C,vU j t,bC] a w∧qq g C=some f1) ?_ ?_
   ·skip;refine ai hS fun a hS=>?_;obtain⟨e,W,hM⟩:=bd hM;refine wl rfl (bm (R:=aa) hS qB m5 rfl rfl 0 rfl W rfl fun bl c5 bt ao a hS=>?_);obtain⟨U,rfl,a3⟩:=ao;replace hS:=hS.fS a3;refine ai hS fun a hS=>?_;refine ka hS gV fun F c4 a w hk hS=>?_;refine go hS fun a w hS=>?_;refine aK (J:=fun a w=>∃ (A:Bool),St W0 No T 57 [(0,o),(1,al b),(5,pt m 0),(7,p),(8,.map (some h)),(10,pt F 0),(24,o),(25,al (f.length:Int)),(26,al g),(48,.bool A)] [ay p n,om h j q,.box m (aV d) 44,.box F (br e U) 84] [aR aa o f,an ac n k,vU j t,aR ac U e.Reads,bC] a w∧nW k g e A=some f1) ?_ ?_
    ·skip;refine dr [] hS fun w hQ hS=>?_;refine gE [0,1,2] hS fun a hS=>?_;refine dy 3 (v:=.bool (!(e.Key.Kind==d.Kind&&e.Key.Text.toList==d.Text.toList))) rfl (by kernel_rfl) (by kernel_rfl) (by kernel_rfl) rfl hQ hS (zM hS rfl rfl) rfl rfl rfl fun a hS=>?_;refine gE [4] hS fun a hS=>?_;rcases cd hM with⟨H,hM⟩|⟨H,hM⟩
     ·refine gE [5,6,7] hS fun a hS=>?_;obtain⟨b5,Z,hM⟩:=bd hM;obtain⟨c0,av,b0⟩:=fh hS vT cT 2 rfl 4 rfl (c:=(aV e.Key)) (key:=e.Key) rfl Nj (zc:=[.bool false]) rfl rfl Z;obtain rfl:=av;refine y7 (l:=[]) 8 (v:=.bool b5) rfl (by kernel_rfl) (by kernel_rfl) (by kernel_rfl) (by kernel_rfl) hQ hS (b0 rfl rfl bP) rfl rfl rfl H rfl rfl fun a hS=>?_;refine gE [9,10] hS fun a hS=>?_;rcases cd hM with⟨B,hM⟩|⟨B,hM⟩
      ·refine gE [11,12,13,14,16] hS fun a hS=>?_;obtain⟨ca,a0,hM⟩:=bd hM;refine cI (i:=15) rfl (by kernel_rfl) hS rfl rfl rfl B (bg hS K9 rfl rfl (vY _ _ hS.dlt f b e.Key _ (hS.get 2 rfl) _ a0) fun _ w hR a hk hA=>⟨gf (hk),?_⟩);obtain⟨a5,ab,a9,he,⟨N,K,Q⟩⟩:=hR;obtain rfl:=he.symm;have hS:=hA [om a5 ab a9] (ei N (tU K)) (sP _);replace hS:=hS.fM (Q.keep (au _ _) (iB _));obtain⟨b6,a1,hM⟩:=bd hM;obtain⟨c1,b1,b2⟩:=fh hS vT cT 0 rfl 0 rfl (c:=(aV d)) (key:=d) rfl Nj (zc:=[.bool false]) rfl rfl a1;obtain rfl:=b1;refine y7 (l:=[]) 17 (v:=.bool b6) rfl (by kernel_rfl) (by kernel_rfl) (by kernel_rfl) (by kernel_rfl) hQ hS (b2 rfl rfl bP) rfl rfl rfl B rfl rfl fun a hS=>?_;refine gE [18] hS fun a hS=>?_;refine eD ?_;exact⟨_,hS.mt [2,3,4,1] [3,4,5,1,6],hM⟩
      refine gE [11,12,13,14,15,16,17,18] hS fun a hS=>?_;refine eD ?_;exact⟨_,hS.mt [1,2,3,0] [2,3,4,0,5],hM⟩
     refine gE [5,6,7,8,9,10,11,12,13,14,15,16,17,18] hS fun a hS=>?_;refine eD ?_;exact⟨_,hS.mt [1,2,3,0] [2,3,4,0,5],hM⟩
    rintro a w ⟨A,hS,hM⟩;unfold nW at hM;rcases cd hM with⟨b3,hM⟩|⟨b3,hM⟩
    ·refine ai hS fun a hS=>?_;refine wl rfl (a8 (ps:=[(0,.tmp 51)]) hS gY gU (zl:=[al 0,aO bI]) (by kernel_rfl) rfl (us:=[(aV e.Key)]) ⟨rfl,trivial⟩ (ws:=(aV e.Key)) rfl rfl rfl rfl fun bs a w hk hS=>?_);replace hS:=(hS.lit (R:=ac) (us:=(aV e.Key)) (xs:=[e.Key]) 0 rfl (by decide) (aA.one_ (R:=ac) (x:=e.Key) rfl) rfl rfl).freeze (R:=ac) 0 rfl 0 rfl;obtain⟨b4,hM⟩:=be hM;refine wl rfl (bM (R:=ac) (xs:=k) (ys:=[e.Key]) hS gY (by decide) (by decide) rfl rfl 0 rfl 3 rfl 0 rfl b4 rfl fun ch c2 a w hk hS=>?_);exact fz
    exact fz
   rintro a w ⟨C,E,z,hS,hM⟩;unfold qq at hM;exact fz
  exact fz
 rintro a w ⟨r,D,u,hS,hM⟩;unfold sE at hM;refine ai hS fun a hS=>?_;have hL:=hS;replace hL:=hL.freeze (R:=ac) 0 rfl 0 rfl;obtain⟨c9,X,hM⟩:=bd hM;refine kc hS LQ (rX _ _ hL.dlt (hL.get 2 rfl) r _ (hL.get 0 rfl) _ X) fun _ w hR a hk hA=>?_;obtain⟨V,G,he,⟨O,L,S⟩⟩:=hR;obtain rfl:=he.symm;have hS:=hA [ay V G] (ei ⟨O,by decide⟩ L) (sP _);replace hS:=hS.fR S;refine ai hS fun a hS=>?_;cases hM
 refine aI hS rfl (aq hS rfl aH) ?_;exact⟨V,G,rfl,hS.retOwn ⟨.inr (a6 (i:=0) rfl),trivial⟩ 0 rfl 0 rfl⟩
end
end
section
open Go.RowKit
section
variable {P:Program}
theorem ri (w:World) (t t' ty e:TypeId) (size bytes:Nat) (E:C5 P t e size bytes) (b o dLen dCap:Nat) (sb soff sLen sCap n:Nat) (cs:bv)
  (hn:n=Nat.min sLen dLen) (hl:cs.length=n*size) (hsrc:∀ j u,cs[j]? = some u→w.cell? ⟨sb,soff+j,none⟩=some u)
  (hc:∀ j,j<cs.length→(w.cell? ⟨b,o+j,none⟩).isSome=true) (hf:∀ j,j<cs.length→w.frozen? ⟨b,o+j,none⟩=false) (h1:∀ u∈cs,u.oneCell'=true) :
  (Builtin.copy_ #[t,t'] ty #[.slice (some ⟨b,o,none⟩) dLen dCap,.slice (some ⟨sb,soff,none⟩) sLen sCap]).run P w = .ok (goInt n) (w.setCells b o cs):=by
 obtain⟨ht,⟨i,z,hi,hz,hsize,hby,hzs⟩,hpos⟩:=E;subst hsize hn;have hfc:=run_firstCells_some (P:=P) w i.size (Nat.min sLen dLen) ⟨sb,soff,none⟩ sLen sCap cs hl (fun j u hu=>by rw [Addr.add_lit]; exact hsrc j u hu);have hst:=run_storeCells_cells (P:=P) b o cs 0 w (by simpa using hc) (by simpa using hf) h1;simp only [sh] at hst;simp [Builtin.copy_,run_underlying ht,Builtin.lenOf,sizeOf,typeInfo,hi,hfc,hst]
theorem yM (w:World) {o:Oper} {a:Act} {K:Act→World→Prop} {Q:Exit→Act→World→Prop} (d s:Operand) (t t':TypeId)
  (ho:o.op = .call { callee:=.builtin .copy,args:=#[d,s],argTypes:=#[t,t'] }) (v u:Value) (hd:a.eval d=v) (hs:a.eval s=u) {v':Value} {w':World}
  (hr:(Builtin.copy_ #[t,t'] o.type #[v,u]).run P w = .ok v' w') (h:K (a.put o.dst v') w'):o.wp P a w K Q:=by
 unfold Oper.wp execOp;simp only [ho,resolve,invoke,builtin,Sem.run_bind,Sem.run_pure,Result.andThen_ok,BZ,tE,yQ,hd,hs,hr];exact h
theorem D6 (w:World) {ops:Array Oper} {rest:List Oper} {o:Oper} {a:Act} {Q:Exit→Act→World→Prop} (hgd:o.guard=none) (d s:Operand) (t t':TypeId)
  (ho:o.op = .call { callee:=.builtin .copy,args:=#[d,s],argTypes:=#[t,t'] }) (v u:Value) (hd:a.eval d=v) (hs:a.eval s=u) {v':Value} {w':World}
  (hr:(Builtin.copy_ #[t,t'] o.type #[v,u]).run P w = .ok v' w') (h:wpList P ops Q rest (a.put o.dst v') w'):wpList P ops Q (o::rest) a w :=
 wpList_plain hgd fun _ hK=>yM w d s t t' ho v u hd hs hr (hK _ _ h)
theorem BS {ops:Array Oper} {o:Oper} {a:Act} {w:World} {K:Act→World→Prop} {Q:Exit→Act→World→Prop} {E:Prop}
  (hg:o.guard=none) (d x:Operand) (dT sT:TypeId) (hop:o.op=Op.call { callee:=Callee.builtin Builtin.copy,args:=#[d,x],argTypes:=#[dT,sT] })
  (v u:Value) (hd:a.eval d=v) (hx:a.eval x=u) {v':Value} {w':World} (hr:(Builtin.copy_ #[dT,sT] o.type #[v,u]).run P w = .ok v' w') (hK:K (a.put o.dst v') w') :
  if Region.wanted o (yielded ops a.tmps)=true then Oper.wp P o a w K Q else E:=by
 rw [if_pos (by simp [Region.wanted,hg])];exact yM w d x dT sT hop v u hd hx hr hK
theorem AD (w:World) {ops:Array Oper} {rest:List Oper} {o:Oper} {a:Act} {Q:Exit→Act→World→Prop} (hgd:o.guard=none) (d s:Operand) (t t':TypeId)
  (ho:o.op = .call { callee:=.builtin .append,args:=#[d,s],argTypes:=#[t,t'] }) (v u:Value) (hd:a.eval d=v) (hs:a.eval s=u) {v':Value} {w':World}
  (hr:(Builtin.append_ #[t,t'] o.type #[v,u]).run P w = .ok v' w') (h:wpList P ops Q rest (a.put o.dst v') w'):wpList P ops Q (o::rest) a w :=
 wpList_plain hgd fun _ hK=>by
  unfold Oper.wp execOp;simp only [ho,resolve,invoke,builtin,Sem.run_bind,Sem.run_pure,Result.andThen_ok,BZ,tE,yQ,hd,hs,hr];exact hK _ _ h
end
theorem E6 {T X D:bv} {cs c1 c2:Array Value} {off:Nat}
  (h0:∀ j u,T[j]? = some u→cs[off+j]? = some u)
  (hd:∀ j u,D[j]? = some u→c1[off+T.length+X.length+j]? = some u) (h1:∀ j,j<off+T.length→c1[j]? = cs[j]?)
  (hx:∀ j u,X[j]? = some u→c2[off+T.length+j]? = some u) (h2:∀ j,(j<off+T.length∨off+T.length+X.length≤j)→c2[j]? = c1[j]?) :
  ∀ j u,(T++X++D)[j]? = some u→c2[off+j]? = some u:=by
 intro j u hu;by_cases hT:j<T.length
 ·rw [AU,m6 hT] at hu;rw [h2 _ (.inl (by omega)),h1 _ (by omega)];exact h0 j u hu
 ·by_cases hX:j<T.length+X.length
  ·rw [m6 (by rw [cS]; exact hX),o5 (by omega)] at hu;have:=hx _ u hu;rwa [show off+T.length+(j-T.length)=off+j by omega] at this
  ·rw [o5 (by rw [cS]; omega),cS] at hu;have:=hd _ u hu;rw [show off+T.length+X.length+(j-(T.length+X.length))=off+j by omega] at this;rw [h2 _ (.inr (by omega))];exact this
theorem DV {T X D:bv} {cs c1 c2:Array Value} {off:Nat}
  (h0:∀ j u,T[j]? = some u→cs[off+j]? = some u)
  (hx:∀ j u,X[j]? = some u→c1[off+T.length+j]? = some u) (h1:∀ j,(j<off+T.length∨off+T.length+X.length≤j)→c1[j]? = cs[j]?)
  (hd:∀ j u,D[j]? = some u→c2[off+T.length+X.length+j]? = some u) (h2:∀ j,j<off+T.length+X.length→c2[j]? = c1[j]?) :
  ∀ j u,(T++X++D)[j]? = some u→c2[off+j]? = some u:=by
 intro j u hu;by_cases hT:j<T.length
 ·rw [AU,m6 hT] at hu;rw [h2 _ (by omega),h1 _ (.inl (by omega))];exact h0 j u hu
 ·by_cases hX:j<T.length+X.length
  ·rw [m6 (by rw [cS]; exact hX),o5 (by omega)] at hu;have:=hx _ u hu;rw [show off+T.length+(j-T.length)=off+j by omega] at this;rw [h2 _ (by omega)];exact this
  ·rw [o5 (by rw [cS]; omega),cS] at hu;have:=hd _ u hu;rwa [show off+T.length+X.length+(j-(T.length+X.length))=off+j by omega] at this
end
section
open Go.RowKit
theorem nC:C5 aP 28 69 4 48:=tP (by kernel_rfl:zJ aP 28=some (69,4,48))
set_option maxHeartbeats 2000000 in
theorem Dv (cl xc:bv) (n:Nat) (v:Value) (w:World) (hown:rj w 0 69 4 v cl) (hcl:cl.length=n*4) (hxl:xc.length=4) (hx1:∀ u∈xc,u.oneCell'=true) (hn:n≤4294967296)
  (vb:Nat) (hv:w.heap[vb]? = some (.cells xc.toArray 69 (0,0))) :
  Calls aP 74 #[v,.int .i64 n,.slice (some ⟨vb,0,none⟩) 1 1] w fun e w' =>
   ∃ v',e = .returned v'∧rj w' 0 69 4 v' (cl++xc)∧w.grownBy w' v.ownBlock∧(∀ k,v'.ownBlock=some k→v.ownBlock=some k∨w.heap.size≤k):=by
 obtain⟨A,m,c,rfl,h1,hnc,hc,hat⟩:=hown.form (by omega);obtain rfl:m=n:=by omega
 unfold maxLen at hc;have hsrc:At w (some ⟨vb,0,none⟩) xc:=.inr ⟨vb,0,rfl,fun j u hu=>by rw [cell_of_row w vb _ _ _ _ hv]; simpa using hu⟩;have Hsrc:=sL hsrc;have Hown:=sL hown;have Hv:=sL hv;have Hx1:=sL hx1;clear hsrc hown hv hat hx1;have hb1:cl.length+xc.length≤35000000000*4:=by omega
 cases A with
 | none =>
  go_enter Tryz.func74,Tryz.ntmps74
  go_wp2_with (at_builtin; refine AC _ rfl _ _ 28 rfl _ 4 48 nC 0 (.slice none m c) cl rfl Hown.out _ 1 1 xc rfl (by rw [hxl]) Hsrc.out Hx1.out (by unfold maxLen; omega) (by omega) (cR _) ?_; intro v1 w1 hown1 hg1 hat1)
  all_goals (go_ret; exact⟨v1,rfl,hown1,hg1,fun k hk=>by rcases hat1 with h | h <;> rw [h] at hk; exact .inl hk; exact .inr (by injection hk with hk; omega)⟩)
 | some a =>
  obtain⟨ab,ao,asp⟩:=a
  go_enter Tryz.func74,Tryz.ntmps74
  go_wp2_with (at_builtin; refine AC _ rfl _ _ 28 rfl _ 4 48 nC 0 (.slice (some ⟨ab,ao,asp⟩) m c) cl rfl Hown.out _ 1 1 xc rfl (by rw [hxl]) Hsrc.out Hx1.out (by unfold maxLen; omega) (by omega) (cR _) ?_; intro v1 w1 hown1 hg1 hat1)
  all_goals (go_ret; exact⟨v1,rfl,hown1,hg1,fun k hk=>by rcases hat1 with h | h <;> rw [h] at hk; exact .inl hk; exact .inr (by injection hk with hk; omega)⟩)
set_option maxHeartbeats 4000000 in
set_option maxRecDepth 100000 in
theorem Cm (cl xc:bv) (n i g off c:Nat) (cs:Array Value) (fz:Nat×Nat) (w:World) (hi:i<n) (hroom:n+1≤c) (hc:c≤maxLen) (hl:n≤4294967296) (hcl:cl.length=n*4) (hxl:xc.length=4) (hx1:∀ u∈xc,u.oneCell'=true) (hc1:∀ u∈cl,u.oneCell'=true)
  (hg:w.heap[g]? = some (.cells cs 69 fz)) (hfz:fz=(0,0)∨cs.size≤fz.1) (hfit:off+c*4≤cs.size) (hcs:∀ j u,cl[j]? = some u→cs[off+j]? = some u)
  (vb:Nat) (hv:w.heap[vb]? = some (.cells xc.toArray 69 (0,0))) (hne:vb≠g) :
  Calls aP 74 #[.slice (some ⟨g,off,none⟩) n c,.int .i64 i,.slice (some ⟨vb,0,none⟩) 1 1] w fun e w' =>
   ∃ v',e = .returned v'∧rj w' 0 69 4 v' (cl.take (i*4)++xc++cl.drop (i*4))∧w.grownBy w' (some g)∧(∀ k,v'.ownBlock=some k→some g=some k∨w.heap.size≤k):=by
 have hc':=hc;unfold maxLen at hc;obtain⟨TT,hT⟩:∃ TT,TT=cl.take (i*4):=⟨_,rfl⟩;obtain⟨DD,hD⟩:∃ DD,DD=cl.drop (i*4):=⟨_,rfl⟩;have hTl:TT.length=i*4:=by rw [hT,fe,hcl]; omega
 have hDl:DD.length=(n-i)*4:=by rw [hD,sm,hcl]; omega
 rw [← hT,← hD];have hD1:∀ u∈DD,u.oneCell'=true:=fun u hu=>hc1 u (by rw [hD] at hu; exact CU hu);have hcell:∀ o,w.cell? ⟨g,o,none⟩=cs[o]?:=fun o=>cell_of_row w g o cs _ _ hg;obtain⟨G1,hG1⟩:∃ G,G=w.drew.setCells g (off+(i+1)*4) DD:=⟨_,rfl⟩;obtain⟨c1,a1,a2,a3,a4⟩:=eb g _ fz DD (off+(i+1)*4) w.drew cs hg;obtain⟨c2,b1,b2,b3,b4⟩:=eb g _ fz xc (off+i*4) G1 c1 (by rw [hG1]; exact a1);have hv1:G1.heap[vb]? = some (.cells xc.toArray 69 (0,0)):=by rw [hG1,oW _ _ _ _ _ hne]; exact hv
 have hcp1:∀ ty dc sc,(Builtin.copy_ #[28,28] ty #[.slice (some ⟨g,off+(i+1)*4,none⟩) (n-i) dc,.slice (some ⟨g,off+i*4,none⟩) (n+1-i) sc]).run aP w.drew = .ok (goInt ((n-i:Nat):Int)) G1:=fun ty dc sc=>by
  rw [hG1];refine ri (P:=aP) w.drew _ _ ty _ 4 48 nC g (off+(i+1)*4) _ dc g (off+i*4) _ sc _ _ (by simp only [Nat.min_def]; split <;> omega) hDl ?_ ?_ ?_ hD1
  ·intro j u hu;show w.cell? _=_;rw [hcell,wc];rw [hD,sj] at hu;exact hcs _ u hu
  ·intro j hj;show (w.cell? _).isSome=true;rw [hcell,n3 (by omega)]; rfl
  ·intro j hj;show w.frozen? _=false;exact AX.free ⟨fz,hg,hfz⟩ (by omega)
 have hcp2:∀ ty dc,(Builtin.copy_ #[28,28] ty #[.slice (some ⟨g,off+i*4,none⟩) (n+1-i) dc,.slice (some ⟨vb,0,none⟩) 1 1]).run aP G1 = .ok (goInt 1) (G1.setCells g (off+i*4) xc):=fun ty dc=>by
  have hg1:G1.heap[g]? = some (.cells c1 69 fz):=by rw [hG1]; exact a1
  refine ri (P:=aP) G1 _ _ ty _ 4 48 nC g (off+i*4) _ dc vb 0 1 1 1 xc (by simp only [Nat.min_def]; split <;> omega) (by rw [hxl]) ?_ ?_ ?_ hx1
  ·intro j u hu;rw [cell_of_row _ vb _ _ _ _ hv1];simpa using hu
  ·intro j hj;rw [cell_of_row _ g _ _ _ _ hg1,n3 (by omega)]; rfl
  ·intro j hj;exact AX.free ⟨fz,hg1,by rw [a2]; exact hfz⟩ (by omega)
 have hov:∀ lb cb,(callFunc 109 #[.slice (some ⟨vb,0,none⟩) 1 1,.slice (some ⟨g,off+(i+1)*4,none⟩) lb cb]).run aP w = .ok (.value (.bool false)) w:=fun lb cb=>by
  rw [run_callFunc_extern Tryz.func109 (by kernel_rfl) (by kernel_rfl) (by kernel_rfl) (e:=Extern.SlicesOverlaps.overlaps #[28,28] #[4]) (by kernel_rfl),
   Lib.run_overlaps_apart w 28 4 69 Tryz.underlying28 4 (fun _=>by kernel_rfl) ⟨vb,0,none⟩ ⟨g,off+(i+1)*4,none⟩ 1 1 lb cb hne 69 69 4 cs.size
    (by simp [World.shape?,hv,hxl]) (by simp [World.shape?,hg]) (by omega) (by simp [World.frozen?,hv]) (by simp [World.frozen?,hv])]
  rfl
 have hz2:¬ ((i:Int)=(n:Int)):=by omega
 have hw1:IntKind.i64.wrap ((i:Int)+1)=(i:Int)+1:=IntWalk.i64_in _ (by omega);have hb1:(0:Int)≤(i:Int)+1:=by omega
 have htn:((i:Int)+1).toNat=i+1:=by omega
 have hb2:¬ (c=i+1):=by omega
 have hb3:(i:Int)≤(n:Int)+1:=by omega
 have hb4:¬ (c=i):=by omega
 have hin:i≤n:=by omega
 have HT:=sL hT;have HD:=sL hD;have Hg:=sL hg;have Hv:=sL hv;have Hv1:=sL hv1;have HTl:=sL hTl;have HDl:=sL hDl;have HG1:=sL hG1;have Ha1:=sL a1;have Hb1:=sL b1;have Hc:=sL hcs;have Ha:=sL a4;have Hb:=sL b4;have Ha3:=sL a3;have Hb3:=sL b3;have Ha2:=sL a2;have Hb2:=sL b2;have Hcl:=sL hcl;have Hxl:=sL hxl;have Hfz:=sL hfz;clear hT hD hg hv hv1 hTl hDl hG1 a1 b1 hcs a4 b4 a3 b3 hcell a2 b2 hcl hxl hfz hx1 hc1 hD1
 go_enter Tryz.func74,Tryz.ntmps74
 go_wp2_with (simp only [hov])
 go_region_law (refine BS rfl _ _ 28 28 rfl _ _ (by simp [Act.eval,Act.put]) (by simp [Act.eval,Act.put]) (hcp1 _ _ _) ?_)
 go_wp2_with (at_builtin; refine D6 _ rfl _ _ 28 28 rfl _ _ rfl rfl (hcp2 _ _) ?_)
 go_ret
 have eT:=HTl.out;have eD:=HDl.out;have eX:=Hxl.out;refine⟨_,rfl,.inr ⟨g,off,n+1,c,c2,rfl,?_,cR _,⟨fz,Hb1.out,by rw [Hb2.out,Ha2.out]; exact Hfz.out⟩,hroom,hc',by rw [Hb2.out,Ha2.out]; exact hfit,?_⟩,?_,fun k hk=>.inl hk⟩
 ·rw [cS,cS,eT,eD,eX]; omega
 ·refine E6 (cs:=cs) (c1:=c1) (fun j u hu=>?_) (fun j u hu=>?_) (fun j hj=>?_) (fun j u hu=>?_) (fun j hj=>?_)
  ·rw [HT.out,qV] at hu;split at hu
   ·exact Hc.out j u hu
   ·cases hu
  ·have:=Ha.out (by omega) j u hu;rwa [show off+(i+1)*4+j=off+TT.length+xc.length+j by rw [eT,eX]; omega] at this
  ·exact Ha3.out j (.inl (by rw [eT] at hj; omega))
  ·have:=Hb.out (by rw [eX,Ha2.out]; omega) j u hu;rwa [← eT] at this
  ·refine Hb3.out j ?_;rw [eT,eX] at hj;rw [eX];omega
 ·have e1:=lY w.drew g (off+(i+1)*4) DD;have e2:=lY G1 g (off+i*4) xc;rw [← HG1.out] at e1;exact World.grownBy.trans (a:=w) (b:=G1) ⟨e1.os,e1.tape,e1.output,e1.size,e1.block⟩ e2
set_option maxHeartbeats 4000000 in
set_option maxRecDepth 100000 in
theorem Ck (cl xc:bv) (n i g off c:Nat) (cs:Array Value) (fz:Nat×Nat) (w:World) (hi:i<n) (hnc:n≤c) (hroom:c<n+1) (hc:c≤maxLen) (hl:n≤4294967296) (hcl:cl.length=n*4) (hxl:xc.length=4) (hx1:∀ u∈xc,u.oneCell'=true) (hc1:∀ u∈cl,u.oneCell'=true)
  (hg:w.heap[g]? = some (.cells cs 69 fz)) (hfit:off+c*4≤cs.size) (hcs:∀ j u,cl[j]? = some u→cs[off+j]? = some u)
  (vb:Nat) (hv:w.heap[vb]? = some (.cells xc.toArray 69 (0,0))) :
  Calls aP 74 #[.slice (some ⟨g,off,none⟩) n c,.int .i64 i,.slice (some ⟨vb,0,none⟩) 1 1] w fun e w' =>
   ∃ v',e = .returned v'∧rj w' 0 69 4 v' (cl.take (i*4)++xc++cl.drop (i*4))∧w.grownBy w' (some g)∧(∀ k,v'.ownBlock=some k→some g=some k∨w.heap.size≤k):=by
 have hc':=hc;unfold maxLen at hc;obtain⟨TT,hT⟩:∃ TT,TT=cl.take (i*4):=⟨_,rfl⟩;obtain⟨DD,hD⟩:∃ DD,DD=cl.drop (i*4):=⟨_,rfl⟩;have hTl:TT.length=i*4:=by rw [hT,fe,hcl]; omega
 have hDl:DD.length=(n-i)*4:=by rw [hD,sm,hcl]; omega
 rw [← hT,← hD];have hD1:∀ u∈DD,u.oneCell'=true:=fun u hu=>hc1 u (by rw [hD] at hu; exact CU hu);have hcell:∀ o,w.cell? ⟨g,o,none⟩=cs[o]?:=fun o=>cell_of_row w g o cs _ _ hg;have hgl:g<w.heap.size:=(si.1 hg).1;have hvl:vb<w.heap.size:=(si.1 hv).1;obtain⟨_,⟨i0,z,hi0,hz0,hsize,hby,hzs⟩,_⟩:=nC;have hold:(Builtin.firstCells i0.size i (.slice (some ⟨g,off,none⟩) i c)).run aP w.drew = .ok TT.toArray w.drew:=by
  rw [hsize];exact run_firstCells_some w.drew 4 i ⟨g,off,none⟩ i c _ hTl (fun j u hu=>by
   rw [Addr.add_lit];show w.cell? _=_;rw [hcell];rw [hT,qV] at hu;split at hu
   ·exact hcs j u hu
   ·cases hu)
 have hk:i+(n+1-i)=n+1:=by omega
 obtain⟨G,hG⟩:∃ G,G=grownCap w (n+1) c 69:=⟨_,rfl⟩;obtain⟨ROW,hROW⟩:∃ ROW:Array Value,ROW=TT.toArray++Builtin.zeroCells z.cells (n+1-i)++Builtin.zeroCells z.cells (G-(n+1)):=⟨_,rfl⟩;have hGn:n+1≤G:=by rw [hG]; exact grownCap_ge w _ _ _
 have hG63:G≤maxLen:=by rw [hG]; exact grownCap_le_maxLen w _ _ _ (by unfold maxLen; omega)
 have hRl:ROW.size=G*4:=by
  rw [hROW];simp only [Array.size_append,Ec,size_zeroCells,hzs,hTl];omega
 have hrz:∀ ty,(Builtin.append_ #[28,3] ty #[.slice (some ⟨g,off,none⟩) i c,.int .i64 ((n:Int)+1-(i:Int))]).run aP w =
   .ok (.slice (some ⟨w.heap.size,0,none⟩) (n+1) G) (w.drew.alloc (.cells ROW 69)):=fun ty=>by
  have h:=Lib.run_append_grow_zeros w 28 3 ty 69 i0 z .i64 .i64 Tryz.underlying28 Tryz.underlying3 hi0 hz0 (some ⟨g,off,none⟩) i c _ hold (n+1-i) (by omega) (by omega) (by omega) (by omega) (by rw [hby]; omega) (by rw [hby,hk]; exact growslice_fits hroom (by omega));rw [hk,← hG,← hROW] at h;rw [show (n:Int)+1-(i:Int)=((n+1-i:Nat):Int) by omega];exact h
 obtain⟨W1,hW1⟩:∃ W1,W1=w.drew.alloc (.cells ROW 69):=⟨_,rfl⟩;have hW1g:W1.heap[w.heap.size]? = some (.cells ROW 69 (0,0)):=by rw [hW1]; exact heap_alloc_new w.drew _
 have hW1o:∀ k,k<w.heap.size→W1.heap[k]? = w.heap[k]?:=fun k hk=>by rw [hW1]; exact Below.heap_alloc w.drew _ k hk
 rw [← hW1] at hrz;have hcpA:∀ ty dc,(Builtin.copy_ #[28,28] ty #[.slice (some ⟨w.heap.size,i*4,none⟩) (n+1-i) dc,.slice (some ⟨vb,0,none⟩) 1 1]).run aP W1 = .ok (goInt 1) (W1.setCells w.heap.size (i*4) xc):=fun ty dc=>by
  refine ri (P:=aP) W1 _ _ ty _ 4 48 nC w.heap.size (i*4) _ dc vb 0 1 1 1 xc (by simp only [Nat.min_def]; split <;> omega) (by rw [hxl]) ?_ ?_ ?_ hx1
  ·intro j u hu;rw [cell_of_row _ vb _ _ _ _ ((hW1o vb hvl).trans hv)];simpa using hu
  ·intro j hj;rw [cell_of_row _ _ _ _ _ _ hW1g,n3 (by omega)]; rfl
  ·intro j hj;simp [World.frozen?,hW1g]
 obtain⟨c1,a1,a2,a3,a4⟩:=eb w.heap.size _ (0,0) xc (i*4) W1 ROW hW1g;obtain⟨W2,hW2⟩:∃ W2,W2=W1.setCells w.heap.size (i*4) xc:=⟨_,rfl⟩;rw [← hW2] at a1 hcpA;have hcpB:∀ ty dc sc,(Builtin.copy_ #[28,28] ty #[.slice (some ⟨w.heap.size,(i+1)*4,none⟩) (n-i) dc,.slice (some ⟨g,off+i*4,none⟩) (n-i) sc]).run aP W2.drew = .ok (goInt ((n-i:Nat):Int)) (W2.drew.setCells w.heap.size ((i+1)*4) DD):=fun ty dc sc=>by
  refine ri (P:=aP) W2.drew _ _ ty _ 4 48 nC w.heap.size ((i+1)*4) _ dc g (off+i*4) _ sc _ _ (by simp only [Nat.min_def]; split <;> omega) hDl ?_ ?_ ?_ hD1
  ·intro j u hu;show W2.cell? _=_;rw [hW2,World.cell?_of_block (a:=⟨g,_,none⟩) (oW _ _ _ W1 g (by omega)),World.cell?_of_block (a:=⟨g,_,none⟩) (hW1o g hgl),hcell,wc];rw [hD,sj] at hu;exact hcs _ u hu
  ·intro j hj;show (W2.cell? _).isSome=true;rw [cell_of_row _ _ _ _ _ _ a1,n3 (by omega)]; rfl
  ·intro j hj;show W2.frozen? _=false;simp [World.frozen?,a1]
 obtain⟨c2,b1,b2,b3,b4⟩:=eb w.heap.size _ (0,0) DD ((i+1)*4) W2.drew c1 a1;have hz2:¬ ((i:Int)=(n:Int)):=by omega
 have hz3:(c:Int)<(n:Int)+1:=by omega
 have hw1:IntKind.i64.wrap ((i:Int)+1)=(i:Int)+1:=IntWalk.i64_in _ (by omega);have hb1:(0:Int)≤(i:Int)+1:=by omega
 have htn:((i:Int)+1).toNat=i+1:=by omega
 have hb3:(i:Int)≤(n:Int)+1:=by omega
 have hb4:¬ (c=i):=by omega
 have hin:i≤n:=by omega
 have hGi:¬ (G=i):=by omega
 have hGim:¬ (G=i+1):=by omega
 have hG63':=hG63;unfold maxLen at hG63;have HT:=sL hT;have HD:=sL hD;have HTl:=sL hTl;have HDl:=sL hDl;have Hb1:=sL b1;have Hc:=sL hcs;have Ha:=sL a4;have Hb:=sL b4;have Ha3:=sL a3;have Hb3:=sL b3;have Ha2:=sL a2;have Hb2:=sL b2;have HR:=sL hRl;have HROW:=sL hROW;have HW1:=sL hW1;have HW2:=sL hW2;have Hxl:=sL hxl;clear hT hD hg hv hTl hDl a1 b1 hcs a4 b4 a3 b3 hcell a2 b2 hRl hROW hW1 hW2 hG hold hk hW1g hW1o hi0 hz0 hsize hby hzs hcl hxl hx1 hc1 hD1
 go_enter Tryz.func74,Tryz.ntmps74
 go_wp2_with (first
  | (at_builtin; refine AD _ rfl _ _ _ _ rfl _ _ rfl rfl (hrz _) ?_)
  | (at_builtin; refine D6 _ rfl _ _ 28 28 rfl _ _ rfl rfl (hcpA _ _) ?_))
 go_region_law (refine BS rfl _ _ 28 28 rfl _ _ (by simp [Act.eval,Act.put]) (by simp [Act.eval,Act.put]) (hcpB _ _ _) ?_)
 go_wp2
 go_ret
 have eT:=HTl.out;have eD:=HDl.out;have eX:=Hxl.out;refine⟨.slice (some ⟨w.heap.size,0,none⟩) (n+1) G,rfl,.inr ⟨w.heap.size,0,n+1,G,c2,rfl,?_,cR _,AX.of Hb1.out,hGn,hG63',by rw [Hb2.out,Ha2.out,HR.out]; omega,?_⟩,?_,fun k hk=>.inr (xF (fq hk))⟩
 ·rw [cS,cS,eT,eD,eX]; omega
 ·refine DV (cs:=ROW) (c1:=c1) (fun j u hu=>?_) (fun j u hu=>?_) (fun j hj=>?_) (fun j u hu=>?_) (fun j hj=>?_)
  ·have hj:=(bN.1 hu).1;rw [HROW.out,tC,Array.append_assoc,Fe (by simpa using hj)];simpa using hu
  ·have:=Ha.out (by rw [eX,HR.out]; omega) j u hu;rwa [tC,eT]
  ·refine Ha3.out j ?_;rw [eT,eX] at hj;rw [eX];omega
  ·have:=Hb.out (by rw [eD,Ha2.out,HR.out]; omega) j u hu;rwa [show (i+1)*4+j=0+TT.length+xc.length+j by rw [eT,eX]; omega] at this
  ·exact Hb3.out j (.inl (by rw [eT,eX] at hj; omega))
 ·have e0:w.grownBy W1 (some g):=by rw [HW1.out]; exact⟨rfl,rfl,rfl,by simp,fun k hk _=>Below.heap_alloc w.drew _ k hk⟩
  have e1:=lY W1 w.heap.size (i*4) xc;have e2:=lY W2.drew w.heap.size ((i+1)*4) DD;rw [← HW2.out] at e1;refine⟨?_,?_,?_,?_,?_⟩
  ·exact e2.os.trans (e1.os.trans e0.os)
  ·exact e2.tape.trans (e1.tape.trans e0.tape)
  ·exact e2.output.trans (e1.output.trans e0.output)
  ·exact fB e0.size (fB e1.size e2.size)
  ·intro k hk hne;have hk1:=xG hk e0.size;have hk2:=xG hk1 e1.size;have hne':some k≠some w.heap.size:=fun e=>by injection e; omega
   exact (e2.block k hk2 hne').trans ((e1.block k hk1 hne').trans (e0.block k hk hne))
theorem Du (cl xc:bv) (n:Nat) (v:Value) (i:Nat) (w:World) (hown:rj w 0 69 4 v cl) (hcl:cl.length=n*4) (hxl:xc.length=4) (hx1:∀ u∈xc,u.oneCell'=true) (hc1:∀ u∈cl,u.oneCell'=true) (hi:i≤n) (hl:n≤4294967296)
  (vb:Nat) (hv:w.heap[vb]? = some (.cells xc.toArray 69 (0,0))) (hne:v.ownBlock≠some vb) :
  Calls aP 74 #[v,.int .i64 i,.slice (some ⟨vb,0,none⟩) 1 1] w fun e w' =>
   ∃ v',e = .returned v'∧rj w' 0 69 4 v' (cl.take (i*4)++xc++cl.drop (i*4))∧w.grownBy w' v.ownBlock∧(∀ k,v'.ownBlock=some k→v.ownBlock=some k∨w.heap.size≤k):=by
 rcases kP i n with h | h
 ·have ho:=hown;rcases hown with⟨rfl,h0⟩|⟨g,off,m,cap,cs,rfl,h1,hb,hg,hnc,hc,hsz,hcs⟩
  ·rw [h0] at hcl;simp at hcl;omega
  ·obtain rfl:m=n:=by omega
   obtain⟨fz,hg,hfz⟩:=hg;have hne':vb≠g:=fun e=>hne (by simp [Value.ownBlock,e]);rcases kP cap (m+1) with h2 | h2
   ·exact Ck cl xc m i g off cap cs fz w h hnc h2 hc hl hcl hxl hx1 hc1 hg hsz hcs vb hv
   ·exact Cm cl xc m i g off cap cs fz w h h2 hc hl hcl hxl hx1 hc1 hg hfz hsz hcs vb hv hne'
 ·obtain rfl:i=n:=by omega
  have e1:cl.take (i*4)++xc++cl.drop (i*4)=cl++xc:=by
   rw [← hcl,i6,AH,uo]
  rw [e1];exact Dv cl xc i v w hown hcl hxl hx1 hl vb hv
theorem EI {α:Type} {R:aY α} (hR:R.size=4) (T:Nat→Prop) (W0:World) (v:Value) (cl:bv) (vb:Nat) (xc:bv) (xs:List α) (x:α) (i:Int) (hD:ze T W0 [.own v 69 R.size cl,.box vb xc 69]) (hv:aA R (dT T [.own v 69 R.size cl,.box vb xc 69]) W0 cl xs) (hx:R.rel (dT T [.own v 69 R.size cl,.box vb xc 69]) W0 xc x)
  (h0:decide (0≤i)=true) (h1:decide (i≤xs.length)=true) (hr:bH (xs.length+1)=true):bj aP (MD [.own v 69 R.size cl,.box vb xc 69]) 74 [v,.int .i64 i,.slice (some ⟨vb,0,none⟩) 1 1] W0 (fun v' w'=>∃ cl',aA R (dT T [.own v' 69 R.size cl']) w' cl' (xs.take i.toNat++x::xs.drop i.toNat)∧qG W0 w' [.own v 69 R.size cl,.box vb xc 69] [.own v' 69 R.size cl']):=by
 have h0:=of_decide_eq_true h0;have h1:=of_decide_eq_true h1;have hr:=u4 hr;obtain⟨k,rfl⟩:∃ k:Nat,i=k:=⟨i.toNat,by omega⟩;have hown:=(hD.own _ kh).1;have hbox:W0.heap[vb]? = some (.cells xc.toArray 69 (0,0)):=hD.own (.box vb xc 69) (by simp);have hap:=(o6.1 hD.apart).1 (.box vb xc 69) (by simp);have hne:v.ownBlock≠some vb:=fun e=>hap vb e rfl;have hpos:0<R.size:=by rw [hR]; omega
 have hx1:=hv.cell hpos;have hcl:=hv.1;rw [hR] at hown hcl;refine (Du cl xc xs.length v k W0 hown hcl (by rw [R.len hx,hR]) (fun u hu=>R.one hx u hu) hx1 (by omega) (by omega) vb hbox hne).mono ?_;rintro e w' ⟨v',rfl,g1,g2,g3⟩;have hk:=Kt.grown g2;have hkM:Kt (MD [.own v 69 R.size cl,.box vb xc 69]) W0 w':=hk.mono fun j hj=>⟨_,kh,hj⟩;have hN:qG W0 w' [.own v 69 R.size cl,.box vb xc 69] [.own v' 69 R.size (cl.take (k*4)++xc++cl.drop (k*4))]:=by
  refine⟨fun r hr=>?_,fun r hr j hj=>?_,sP _⟩
  ·simp only [cz,gn,or_false] at hr;subst hr;refine⟨?_,hpos⟩;rw [hR]; exact g1
  ·simp only [cz,gn,or_false] at hr;subst hr;rcases g3 j hj with h | h
   ·exact .inl ⟨_,kh,h⟩
   ·exact .inr h
 refine⟨v',rfl,hkM,_,?_,hN⟩;have hlo:=hv.cut (cR k) (by omega:k≤xs.length);have hhi:=hv.cut (by omega:k≤xs.length) (cX _);have e8:k*R.size=k*4:=by rw [hR]
 rw [Nat.zero_mul,B4,B4,e8] at hlo;rw [i6,Gc (by rw [hv.1]; exact cX _),e8] at hhi;have h3:=(hlo.append (aA.one_ hx)).append hhi;rw [show ((k:Int)).toNat=k by omega,show xs.take k++x::xs.drop k=xs.take k++[x]++xs.drop k by simp];refine h3.keep (hkM.mono fun j hj=>.inr hj) fun j hj=>?_;rcases hj with hj | ⟨r,hr,hj⟩
 ·exact .inl (.inl hj)
 ·rcases hN.from_ r hr j hj with h | h
  ·exact .inl (.inr h)
  ·exact .inr h
end
section
set_option maxRecDepth 100000
set_option maxHeartbeats 4000000
open Go.RowKit
noncomputable section
def lB (b:LN):Option Bool:=some (decide ((b.length:Int)≤400))
theorem xb (T:Nat→Prop) (W0:World) (hT:TW T W0) (b:LN) (d:Value) (c:aE (aY.int .i64) T W0 d b) (y:Bool) (hM:lB b=some y):bj aP No 5 [d] W0 (fun v w'=>v = .bool y):=by
 refine en Tryz.func5 Tryz.ntmps5 hT fun a hS=>?_;replace hS:=hS.fS (aE.dn c);unfold lB at hM;exact fz
def dE:Option Int:=some ((-1))
def a7 (c:LI) (f:aN→Option Bool) (b:Int):Option (Fl (Int) (Fl (Unit) Int)):=cond (decide (b<(c.length:Int))) ((bu c b).bind fun d=>(f d).bind fun e=>cond e (some (.out (.out b))) (some (.go (IntKind.i64.wrap (b+1))))) (some (.out (.go ())))
def cy (b:aN→Option Bool) (c:LI):Option Int:=(loop (fun s:Int=>a7 c b s) 0).bind fun r=>Fl.el r (fun s=>dE) (fun y=>some (y))
theorem lZ (T:Nat→Prop) (W0:World) (hT:TW T W0) (hLv:di T W0) (f_1g:Nat) (f:aT aP f_1g=true) (f_1k:bv) (f_1P:cA) (d:aN→Option Bool) (m:∀ (T:Nat→Prop) (W0:World) (hT:TW T W0) (hLv:di T W0) (hP:f_1P.p T W0) (q:aN) (y:Bool) (hM:d q=some y),bj aP No f_1g ([.agg (pg q).toArray]++f_1k) W0 (fun v w'=>v = .bool y)) (e:f_1P.p T W0) (c:LI) (i:Value) (o:aE ae T W0 i c) (y:Int) (hM:cy d c=some y):bj aP No 138 [i,.func (.func f_1g) #[] f_1k.toArray] W0 (fun v w'=>v=al y):=by
 refine en Tryz.func138 Tryz.ntmps138 hT fun a hS=>?_;replace hS:=((hS.fact f_1P (cA.dn _ e)).fact bC (di.dn hLv)).fS (aE.dn o);unfold cy at hM;refine ai hS fun a hS=>?_;refine aK (J:=fun a w=>St W0 No T 19 [] [] [bC,f_1P] a w∧dE=some y) ?_ ?_
 ·skip;refine ai hS fun a hS=>?_;obtain⟨A,n,hMo1⟩:=bd hM;refine bF _ (fun s a w=>∃ (b:Int),b=s∧St W0 No T 19 [(0,i),(1,.func (.func f_1g) #[] f_1k.toArray),(7,al (c.length:Int)),(8,al b)] [] [aR ae i c,bC,f_1P] a w) n ⟨_,rfl,hS.mt [] [0,1,2]⟩ ?_;rintro s a w u ⟨b,rfl,hS⟩ hM hf1;have hM:a7 c d b=some u:=hM;unfold a7 at hM;refine ai hS fun a hS=>?_;refine aD ?_;rcases cd hM with⟨k,hM⟩|⟨k,hM⟩
  ·refine ai hS fun a hS=>?_;refine aD ?_;refine ai hS fun a hS=>?_;obtain⟨j,g,hM⟩:=bd hM;refine wl rfl (bm (R:=ae) hS u5 uz rfl rfl 0 rfl g rfl fun r x t l a hS=>?_);obtain rfl:=l;refine ai hS fun a hS=>?_;obtain⟨z,h,hM⟩:=bd hM;refine wl rfl (tQ (cap:=f_1k) hS rfl f rfl rfl (m _ _ hS.dlt (hS.get 2 rfl) (hS.get 3 rfl) j _ h) fun _ w hR a hk hA=>?_);obtain rfl:=hR;have hS:=bY hA;exact fz
  exact fz
 rintro a w ⟨hS,hM⟩;unfold dE at hM;exact fz
def dL (c:aN) (b:ah):Option Bool:=some (c.Key.Kind==b.Kind&&c.Key.Text.toList==b.Text.toList)
theorem xu (T:Nat→Prop) (W0:World) (hT:TW T W0) (d:aN) (b:ah) (c:Nat) (e:(ln c 0 (aV b)).p T W0) (y:Bool) (hM:dL d b=some y):bj aP No 139 [.agg (pg d).toArray,pt c 0] W0 (fun v w'=>v = .bool y):=by
 refine en Tryz.func139 Tryz.ntmps139 hT fun a hS=>?_;replace hS:=hS.fact (ln c 0 (aV b)) (cA.dn _ e);unfold dL at hM;refine ai hS fun a hS=>?_;refine kb hS fun f g a w hk hS=>?_;refine ai hS fun a hS=>?_;refine wl rfl (ky (v:=.bool (d.Key.Kind==b.Kind&&d.Key.Text.toList==b.Text.toList)) hS (zL hS rfl rfl) rfl rfl fun a hS=>?_);exact fz
def mY (c:aj) (e:ah):Option aN:=(cy (fun f=>dL f e) c.Inputs).bind fun b=>cond (decide (b<0)) (some ((aN.mk (ah.mk 0 bI) bI 0))) ((bu c.Inputs b).bind fun d=>some (d))
theorem yX (T:Nat→Prop) (W0:World) (hT:TW T W0) (hLv:di T W0) (c:aj) (d:ah) (l:Value) (m:Value) (j:aE ae T W0 l c.Inputs) (k:aE aa T W0 m c.Records) (y:aN) (hM:mY c d=some y):bj aP No 108 [.agg (bf c l m).toArray,.agg (aV d).toArray] W0 (fun v w'=>v = .agg (pg y).toArray):=by
 refine en Tryz.func108 Tryz.ntmps108 hT fun a hS=>?_;replace hS:=((hS.fact bC (di.dn hLv)).fS (aE.dn j)).fS (aE.dn k);unfold mY at hM;refine ai hS fun a hS=>?_;refine kb hS fun n s a w hk hS=>?_;refine kb hS fun b t a w hk hS=>?_;refine ka hS ug fun o u a w hk hS=>?_;refine ai hS fun a hS=>?_;replace hS:=hS.freezeBox 1 rfl;refine qy hS (AG (vs:=[pt b 0]) hS rfl) fun a hS=>?_;obtain⟨z,f,hM⟩:=bd hM;refine kc hS NQ (lZ _ _ hS.dlt (hS.get 3 rfl) 139 NR [pt b 0] (Gf (ln b 0 (aV d)) zg) (fun i=>dL i d) (fun T W0 hT hLv hP i y hM=>xu T W0 hT i d b hP.1 y hM) ⟨(hS.get 0 rfl),trivial⟩ c.Inputs _ (hS.get 2 rfl) _ f) fun _ w hR a hk hA=>?_;obtain rfl:=hR;have hS:=bY hA;refine ai hS fun a hS=>?_;refine aD ?_;refine ai hS fun a hS=>?_;rcases cd hM with⟨g,hM⟩|⟨g,hM⟩
 ·refine ai hS fun a hS=>?_;refine qy hS (bq (ps:=[]) hS Iv ug rfl (us:=[]) trivial (ws:=[al 0,aO bI,aO bI,al 0]) rfl) fun a hS=>?_;refine go hS fun a w hS=>?_;cases hM
  refine aI hS rfl (rC 0 hS) ?_;exact rfl
 refine ai hS fun a hS=>?_;obtain⟨r,e,hM⟩:=bd hM;refine wl rfl (bm (R:=ae) hS u5 uz rfl rfl 2 rfl e rfl fun p x q h a hS=>?_);obtain rfl:=h;refine go hS fun a w hS=>?_;cases hM
 refine aI hS rfl (rC 0 hS) ?_;exact rfl
def oV (c:aj) (d:ah):Option ByteArray:=(mY c d).bind fun b=>some (b.Value)
theorem An (T:Nat→Prop) (W0:World) (hT:TW T W0) (hLv:di T W0) (b:aj) (c:ah) (g:Value) (h:Value) (e:aE ae T W0 g b.Inputs) (f:aE aa T W0 h b.Records) (y:ByteArray) (hM:oV b c=some y):bj aP No 71 [.agg (bf b g h).toArray,.agg (aV c).toArray] W0 (fun v w'=>v=aO y):=by
 refine en Tryz.func71 Tryz.ntmps71 hT fun a hS=>?_;replace hS:=((hS.fact bC (di.dn hLv)).fS (aE.dn e)).fS (aE.dn f);unfold oV at hM;refine ai hS fun a hS=>?_;refine kb hS fun i k a w hk hS=>?_;refine kb hS fun j l a w hk hS=>?_;refine ai hS fun a hS=>?_;obtain⟨m,d,hM⟩:=bd hM;refine kc hS Nz (yX _ _ hS.dlt (hS.get 2 rfl) b c _ _ (hS.get 1 rfl) (hS.get 0 rfl) _ d) fun _ w hR a hk hA=>?_;obtain rfl:=hR;have hS:=bY hA;refine qy hS (AF hS rfl Tryz.underlying69 rfl rfl Ji rfl rfl (fun _=>rfl)) fun a hS=>?_;exact fz
def xT:Option Int:=some (0)
def ti (c:LN) (b:Int):Option (Fl (Int) (Fl (Unit) Int)):=cond (decide (b<(c.length:Int))) ((bu c b).bind fun d=>cond (d != 0) (some (.out (.out d))) (some (.go (IntKind.i64.wrap (b+1))))) (some (.out (.go ())))
def zw (b:LN):Option Int:=(loop (fun s:Int=>ti b s) 0).bind fun r=>Fl.el r (fun s=>xT) (fun y=>some (y))
theorem HH (T:Nat→Prop) (W0:World) (hT:TW T W0) (b:LN) (e:Value) (i:aE (aY.int .i64) T W0 e b) (y:Int) (hM:zw b=some y):bj aP No 97 [e] W0 (fun v w'=>v=al y):=by
 refine en Tryz.func97 Tryz.ntmps97 hT fun a hS=>?_;replace hS:=hS.fS (aE.dn i);unfold zw at hM;refine ai hS fun a hS=>?_;refine aK (J:=fun a w=>St W0 No T 18 [(3,al 0)] [] [] a w∧xT=some y) ?_ ?_
 ·skip;refine ai hS fun a hS=>?_;obtain⟨o,h,hMo1⟩:=bd hM;refine bF _ (fun s a w=>∃ (c:Int),c=s∧St W0 No T 18 [(3,al 0),(6,e),(7,al (b.length:Int)),(8,al c)] [] [aR (aY.int .i64) e b] a w) h ⟨_,rfl,hS.mt [] [0]⟩ ?_;rintro s a w m ⟨c,rfl,hS⟩ hM hf1;have hM:ti b c=some m:=hM;unfold ti at hM;refine ai hS fun a hS=>?_;refine aD ?_;rcases cd hM with⟨f,hM⟩|⟨f,hM⟩
  ·refine ai hS fun a hS=>?_;refine aD ?_;refine ai hS fun a hS=>?_;obtain⟨l,d,hM⟩:=bd hM;refine wl rfl (bm (R:=(aY.int .i64)) hS G5 CM rfl rfl 0 rfl d rfl fun j n k g a hS=>?_);obtain rfl:=g;exact fz
  exact fz
 rintro a w ⟨hS,hM⟩;unfold xT at hM;exact fz
def mB (b:Int):Option Bool:=some (b != b)
theorem uj (T:Nat→Prop) (W0:World) (hT:TW T W0) (b:Int) (y:Bool) (hM:mB b=some y):bj aP No 135 [al b] W0 (fun v w'=>v = .bool y):=by
 refine en Tryz.func135 Tryz.ntmps135 hT fun a hS=>?_;unfold mB at hM;exact fz
def p9 (c:Int) (d:Int):Option Int:=(mB c).bind fun e=>(mB d).bind fun b=>cond e (cond b (some (0)) (some ((-1)))) (cond b (some (1)) (cond (decide (c<d)) (some ((-1))) (cond (decide (d<c)) (some (1)) (some (0)))))
theorem A0 (T:Nat→Prop) (W0:World) (hT:TW T W0) (b:Int) (c:Int) (y:Int) (hM:p9 b c=some y):bj aP No 98 [al b,al c] W0 (fun v w'=>v=al y):=by
 refine en Tryz.func98 Tryz.ntmps98 hT fun a hS=>?_;unfold p9 at hM;refine ai hS fun a hS=>?_;obtain⟨i,d,hM⟩:=bd hM;refine kc hS K0 (uj _ _ hS.dlt b _ d) fun _ w hR a hk hA=>?_;obtain rfl:=hR;have hS:=bY hA;refine ai hS fun a hS=>?_;obtain⟨j,e,hM⟩:=bd hM;refine kc hS K0 (uj _ _ hS.dlt c _ e) fun _ w hR a hk hA=>?_;obtain rfl:=hR;have hS:=bY hA;refine ai hS fun a hS=>?_;refine aD ?_;refine ai hS fun a hS=>?_;rcases cd hM with⟨f,hM⟩|⟨f,hM⟩
 ·refine ai hS fun a hS=>?_;refine aD ?_;exact fz
 refine ai hS fun a hS=>?_;refine aD ?_;refine ai hS fun a hS=>?_;rcases cd hM with⟨g,hM⟩|⟨g,hM⟩
 ·exact fz
 refine ai hS fun a hS=>?_;refine aD ?_;refine ai hS fun a hS=>?_;rcases cd hM with⟨h,hM⟩|⟨h,hM⟩
 ·exact fz
 refine ai hS fun a hS=>?_;refine aD ?_;exact fz
def sB (b:ah) (c:ah):Option Int:=(p9 b.Kind c.Kind).bind fun d=>(tj b.Text c.Text).bind fun e=>(zw ([d,e])).bind fun f=>some (f)
theorem vt (T:Nat→Prop) (W0:World) (hT:TW T W0) (hLv:di T W0) (d:ah) (e:ah) (y:Int) (hM:sB d e=some y):bj aP No 63 [.agg (aV d).toArray,.agg (aV e).toArray] W0 (fun v w'=>v=al y):=by
 refine en Tryz.func63 Tryz.ntmps63 hT fun a hS=>?_;replace hS:=hS.fact bC (di.dn hLv);unfold sB at hM;refine ai hS fun a hS=>?_;refine kb hS fun i l a w hk hS=>?_;refine kb hS fun j m a w hk hS=>?_;refine ai hS fun a hS=>?_;refine aD ?_;refine dr [] hS fun w hQ hS=>?_;refine gE [0,1,2,3,5,6,7,8] hS fun a hS=>?_;obtain⟨b,f,hM⟩:=bd hM;refine ec 4 hS PI (A0 _ _ hS.dlt d.Kind e.Kind _ f) fun _ w hR a hk hA=>?_;obtain rfl:=hR;have hS:=bY hA;obtain⟨c,g,hM⟩:=bd hM;refine ec 9 hS Oe (yE _ _ hS.dlt (hS.get 0 rfl) d.Text e.Text _ g) fun _ w hR a hk hA=>?_;obtain rfl:=hR;have hS:=bY hA;refine e1 10 (a8 (ps:=[(0,.tmp 9),(1,.tmp 14)]) hS JO O1 (zl:=[al 0,al 0]) (by kernel_rfl) rfl (us:=[[al b],[al c]]) ⟨rfl,⟨rfl,trivial⟩⟩ (ws:=[al b,al c]) rfl rfl rfl rfl fun k a w hk hS=>⟨gf (hk),?_⟩);replace hS:=hS.lit (R:=(aY.int .i64)) (us:=[al b,al c]) (xs:=[b,c]) 0 rfl (by decide) ((aA.one_ (R:=(aY.int .i64)) (x:=b) rfl).append (aA.one_ (R:=(aY.int .i64)) (x:=c) rfl)) rfl rfl;have hL:=hS;replace hL:=hL.freeze (R:=(aY.int .i64)) 0 rfl 0 rfl;obtain⟨n,h,hM⟩:=bd hM;refine ec 11 hS PH (HH _ _ hL.dlt ([b,c]) _ (hL.get 0 rfl) _ h) fun _ w hR a hk hA=>?_;obtain rfl:=hR;have hS:=bY hA;refine gE [12] hS fun a hS=>?_;refine eD ?_;exact fz
def rQ (b:Bool):Option Bool:=some (b)
def m9 (b:Int):Option Bool:=cond (decide ((30:Int)≤b)) (rQ (decide (b≤32))) (rQ false)
theorem BB (T:Nat→Prop) (W0:World) (hT:TW T W0) (c:Int) (y:Bool) (hM:m9 c=some y):bj aP No 102 [al c] W0 (fun v w'=>v = .bool y):=by
 refine en Tryz.func102 Tryz.ntmps102 hT fun a hS=>?_;unfold m9 at hM;refine ai hS fun a hS=>?_;refine aK (J:=fun a w=>∃ (b:Bool),St W0 No T 9 [(2,.bool b)] [] [] a w∧rQ b=some y) ?_ ?_
 ·exact fz
 rintro a w ⟨b,hS,hM⟩;unfold rQ at hM;exact fz
def ko (c:ah):Option Int:=(m9 c.Kind).bind fun d=>cond (!(d)) (some ((-1))) ((wS c.Text).bind fun b=>cond b.2 (some ((-1))) (cond (decide (b.1<0)) (some ((-1))) (cond (decide ((99:Int)<b.1)) (some ((-1))) ((w6 b.1).bind fun e=>cond (!(e.toList==c.Text.toList)) (some ((-1))) (some (b.1))))))
theorem Cq (T:Nat→Prop) (W0:World) (hT:TW T W0) (hLv:di T W0) (b:ah) (y:Int) (hM:ko b=some y):bj aP No 103 [.agg (aV b).toArray] W0 (fun v w'=>v=al y):=by
 refine en Tryz.func103 Tryz.ntmps103 hT fun a hS=>?_;replace hS:=hS.fact bC (di.dn hLv);unfold ko at hM;refine ai hS fun a hS=>?_;refine kb hS fun m n a w hk hS=>?_;refine ai hS fun a hS=>?_;refine aD ?_;refine ai hS fun a hS=>?_;obtain⟨o,f,hM⟩:=bd hM;refine kc hS KS (BB _ _ hS.dlt b.Kind _ f) fun _ w hR a hk hA=>?_;obtain rfl:=hR;have hS:=bY hA;refine ai hS fun a hS=>?_;rcases cd hM with⟨j,hM⟩|⟨j,hM⟩
 ·exact fz
 refine ai hS fun a hS=>?_;obtain⟨e,g,hM⟩:=bd hM;refine kc hS NO (Jv _ _ hS.dlt (hS.get 0 rfl) b.Text _ g) fun _ w hR a hk hA=>?_;obtain⟨q,he,d⟩:=hR;obtain rfl:=he.symm;have hS:=hA [] (fun r hr=>by cases hr) tD;refine ai hS fun a hS=>?_;refine aD ?_;refine aD ?_;refine dr [] hS fun w hQ hS=>?_;refine gE [0] hS fun a hS=>?_;refine dy 1 (v:=.bool e.2) rfl (by kernel_rfl) (by kernel_rfl) (by kernel_rfl) rfl hQ hS (KC hS rfl d Om) rfl rfl rfl fun a hS=>?_;refine gE [2] hS fun a hS=>?_;rcases cd hM with⟨k,hM⟩|⟨k,hM⟩
 ·refine gE [3,4,5,6,7,8,9,10,11,12,13,14,15,16] hS fun a hS=>?_;refine eD ?_;exact fz
 refine gE [3,4,5,6] hS fun a hS=>?_;rcases cd hM with⟨l,hM⟩|⟨l,hM⟩
 ·refine gE [7,8,9,10,11,12,13,14,15,16] hS fun a hS=>?_;refine eD ?_;exact fz
 refine gE [7,8,9,10] hS fun a hS=>?_;rcases cd hM with⟨c,hM⟩|⟨c,hM⟩
 ·refine gE [11,12,13,14,15,16] hS fun a hS=>?_;refine eD ?_;exact fz
 refine gE [11,13,14] hS fun a hS=>?_;obtain⟨p,h,hM⟩:=bd hM;refine cI (i:=12) rfl (by kernel_rfl) hS rfl rfl rfl c (bg hS JF rfl rfl (y8 _ _ hS.dlt (hS.get 0 rfl) e.1 _ h) fun _ w hR a hk hA=>⟨gf (hk),?_⟩);obtain rfl:=hR;have hS:=bY hA;refine gE [15,16] hS fun a hS=>?_;refine eD ?_;exact fz
def iF (b:Bool):Option Bool:=some (b)
def l6 (b:Int):Option Bool:=cond (decide ((1:Int)≤b)) (iF (decide (b≤22))) (iF false)
theorem uL (T:Nat→Prop) (W0:World) (hT:TW T W0) (c:Int) (y:Bool) (hM:l6 c=some y):bj aP No 104 [al c] W0 (fun v w'=>v = .bool y):=by
 refine en Tryz.func104 Tryz.ntmps104 hT fun a hS=>?_;unfold l6 at hM;refine ai hS fun a hS=>?_;refine aK (J:=fun a w=>∃ (b:Bool),St W0 No T 9 [(2,.bool b)] [] [] a w∧iF b=some y) ?_ ?_
 ·exact fz
 rintro a w ⟨b,hS,hM⟩;unfold iF at hM;exact fz
def kp (b:Bool):Option Bool:=some (b)
def oq (b:ah) (c:Bool):Option Bool:=(l6 b.Kind).bind fun d=>cond d (cond (decide (((b.Text.size:Int):Int)≤1073741824)) (cond (!(c)) (kp true) (kp (b.Text.toList==bI.toList))) (kp false)) (kp false)
def dv (b:ah):Option Bool:=(m9 b.Kind).bind fun c=>cond c ((ko b).bind fun d=>some (decide ((0:Int)≤d))) (cond (b.Kind==1) (oq b true) (oq b (b.Kind==21)))
theorem sC (T:Nat→Prop) (W0:World) (hT:TW T W0) (hLv:di T W0) (b:ah) (y:Bool) (hM:dv b=some y):bj aP No 68 [.agg (aV b).toArray] W0 (fun v w'=>v = .bool y):=by
 refine en Tryz.func68 Tryz.ntmps68 hT fun a hS=>?_;replace hS:=hS.fact bC (di.dn hLv);unfold dv at hM;refine ai hS fun a hS=>?_;refine kb hS fun e j a w hk hS=>?_;refine ai hS fun a hS=>?_;refine aD ?_;refine ai hS fun a hS=>?_;obtain⟨l,g,hM⟩:=bd hM;refine kc hS KS (BB _ _ hS.dlt b.Kind _ g) fun _ w hR a hk hA=>?_;obtain rfl:=hR;have hS:=bY hA;refine ai hS fun a hS=>?_;rcases cd hM with⟨i,hM⟩|⟨i,hM⟩
 ·refine ai hS fun a hS=>?_;obtain⟨m,h,hM⟩:=bd hM;refine kc hS Nv (Cq _ _ hS.dlt (hS.get 0 rfl) b _ h) fun _ w hR a hk hA=>?_;obtain rfl:=hR;have hS:=bY hA;exact fz
 refine ai hS fun a hS=>?_;refine aK (J:=fun a w=>∃ (c:Bool),St W0 No T 36 [(1,pt e 0),(3,.bool c)] [.box e (aV b) 44] [bC] a w∧oq b c=some y) ?_ ?_
 ·exact fz
 rintro a w ⟨c,hS,hM⟩;unfold oq at hM;refine aK (J:=fun a w=>∃ (d:Bool),St W0 No T 36 [(2,.bool d)] [] [bC] a w∧kp d=some y) ?_ ?_
 ·skip;refine ai hS fun a hS=>?_;obtain⟨k,f,hM⟩:=bd hM;refine kc hS KT (uL _ _ hS.dlt b.Kind _ f) fun _ w hR a hk hA=>?_;obtain rfl:=hR;have hS:=bY hA;exact fz
 rintro a w ⟨d,hS,hM⟩;unfold kp at hM;exact fz
def l5 (b:Bool):Option Bool:=some (b)
def l4 (b:ah):Option Bool:=cond (b.Kind==1) (l5 true) (cond (b.Kind==2) (l5 true) (l5 (b.Kind==30)))
theorem uK (T:Nat→Prop) (W0:World) (hT:TW T W0) (c:ah) (y:Bool) (hM:l4 c=some y):bj aP No 69 [.agg (aV c).toArray] W0 (fun v w'=>v = .bool y):=by
 refine en Tryz.func69 Tryz.ntmps69 hT fun a hS=>?_;unfold l4 at hM;refine ai hS fun a hS=>?_;refine kb hS fun d e a w hk hS=>?_;refine ai hS fun a hS=>?_;refine aK (J:=fun a w=>∃ (b:Bool),St W0 No T 16 [(2,.bool b)] [] [] a w∧l5 b=some y) ?_ ?_
 ·exact fz
 rintro a w ⟨b,hS,hM⟩;unfold l5 at hM;exact fz
def li:Option Bool:=some (false)
def eI (b:Bool):Option Bool:=cond b (some (true)) (li)
def ov (b:Int):Option Bool:=cond (b==7) (eI (b==7)) (cond (b==14) (eI (b==14)) (cond (b==17) (eI (b==17)) (eI (b==18))))
theorem yg (T:Nat→Prop) (W0:World) (hT:TW T W0) (c:Int) (y:Bool) (hM:ov c=some y):bj aP No 161 [al c] W0 (fun v w'=>v = .bool y):=by
 refine en Tryz.func161 Tryz.ntmps161 hT fun a hS=>?_;unfold ov at hM;refine ai hS fun a hS=>?_;refine aK (J:=fun a w=>St W0 No T 9 [] [] [] a w∧li=some y) ?_ ?_
 ·skip;refine ai hS fun a hS=>?_;refine aK (J:=fun a w=>∃ (b:Bool),St W0 No T 9 [(4,.bool b)] [] [] a w∧eI b=some y) ?_ ?_
  ·exact fz
  rintro a w ⟨b,hS,hM⟩;unfold eI at hM;exact fz
 rintro a w ⟨hS,hM⟩;unfold li at hM;exact fz
def kS (b:Bool):Option Bool:=some (b)
def rP (b:ah):Option Bool:=cond (b.Kind==32) (kS true) ((l6 b.Kind).bind fun c=>cond c ((ov b.Kind).bind fun d=>kS d) (kS false))
theorem Cp (T:Nat→Prop) (W0:World) (hT:TW T W0) (c:ah) (y:Bool) (hM:rP c=some y):bj aP No 132 [.agg (aV c).toArray] W0 (fun v w'=>v = .bool y):=by
 refine en Tryz.func132 Tryz.ntmps132 hT fun a hS=>?_;unfold rP at hM;refine ai hS fun a hS=>?_;refine kb hS fun h i a w hk hS=>?_;refine ai hS fun a hS=>?_;refine aK (J:=fun a w=>∃ (b:Bool),St W0 No T 16 [(2,.bool b)] [] [] a w∧kS b=some y) ?_ ?_
 ·skip;refine ai hS fun a hS=>?_;rcases cd hM with⟨d,hM⟩|⟨d,hM⟩
  ·exact fz
  refine ai hS fun a hS=>?_;obtain⟨j,f,hM⟩:=bd hM;refine wg hS rfl rfl rfl d (bg hS KT rfl rfl (uL _ _ hS.dlt c.Kind _ f) fun _ w hR a hk hA=>?_);obtain rfl:=hR;have hS:=bY hA;refine ai hS fun a hS=>?_;rcases cd hM with⟨e,hM⟩|⟨e,hM⟩
  ·refine ai hS fun a hS=>?_;obtain⟨k,g,hM⟩:=bd hM;refine wg hS rfl rfl rfl e (bg hS NV rfl rfl (yg _ _ hS.dlt c.Kind _ g) fun _ w hR a hk hA=>?_);obtain rfl:=hR;have hS:=bY hA;exact fz
  exact fz
 rintro a w ⟨b,hS,hM⟩;unfold kS at hM;exact fz
def lE (c:ah):Option Bool:=(dv c).bind fun b=>some (!(b))
theorem yh (T:Nat→Prop) (W0:World) (hT:TW T W0) (hLv:di T W0) (b:ah) (y:Bool) (hM:lE b=some y):bj aP No 133 [.agg (aV b).toArray] W0 (fun v w'=>v = .bool y):=by
 refine en Tryz.func133 Tryz.ntmps133 hT fun a hS=>?_;replace hS:=hS.fact bC (di.dn hLv);unfold lE at hM;refine ai hS fun a hS=>?_;refine kb hS fun d e a w hk hS=>?_;refine ai hS fun a hS=>?_;obtain⟨f,c,hM⟩:=bd hM;refine kc hS JH (sC _ _ hS.dlt (hS.get 0 rfl) b _ c) fun _ w hR a hk hA=>?_;obtain rfl:=hR;have hS:=bY hA;exact fz
def sM:Option Int:=some ((-1))
def mF (c:LK) (f:ah→Option Bool) (b:Int):Option (Fl (Int) (Fl (Unit) Int)):=cond (decide (b<(c.length:Int))) ((bu c b).bind fun d=>(f d).bind fun e=>cond e (some (.out (.out b))) (some (.go (IntKind.i64.wrap (b+1))))) (some (.out (.go ())))
def rM (b:ah→Option Bool) (c:LK):Option Int:=(loop (fun s:Int=>mF c b s) 0).bind fun r=>Fl.el r (fun s=>sM) (fun y=>some (y))
theorem Cj (T:Nat→Prop) (W0:World) (hT:TW T W0) (hLv:di T W0) (f_1g:Nat) (f:aT aP f_1g=true) (f_1k:bv) (f_1P:cA) (d:ah→Option Bool) (m:∀ (T:Nat→Prop) (W0:World) (hT:TW T W0) (hLv:di T W0) (hP:f_1P.p T W0) (q:ah) (y:Bool) (hM:d q=some y),bj aP No f_1g ([.agg (aV q).toArray]++f_1k) W0 (fun v w'=>v = .bool y)) (e:f_1P.p T W0) (c:LK) (i:Value) (o:aE ac T W0 i c) (y:Int) (hM:rM d c=some y):bj aP No 162 [i,.func (.func f_1g) #[] f_1k.toArray] W0 (fun v w'=>v=al y):=by
 refine en Tryz.func162 Tryz.ntmps162 hT fun a hS=>?_;replace hS:=((hS.fact f_1P (cA.dn _ e)).fact bC (di.dn hLv)).fS (aE.dn o);unfold rM at hM;refine ai hS fun a hS=>?_;refine aK (J:=fun a w=>St W0 No T 19 [] [] [bC,f_1P] a w∧sM=some y) ?_ ?_
 ·skip;refine ai hS fun a hS=>?_;obtain⟨A,n,hMo1⟩:=bd hM;refine bF _ (fun s a w=>∃ (b:Int),b=s∧St W0 No T 19 [(0,i),(1,.func (.func f_1g) #[] f_1k.toArray),(7,al (c.length:Int)),(8,al b)] [] [aR ac i c,bC,f_1P] a w) n ⟨_,rfl,hS.mt [] [0,1,2]⟩ ?_;rintro s a w u ⟨b,rfl,hS⟩ hM hf1;have hM:mF c d b=some u:=hM;unfold mF at hM;refine ai hS fun a hS=>?_;refine aD ?_;rcases cd hM with⟨k,hM⟩|⟨k,hM⟩
  ·refine ai hS fun a hS=>?_;refine aD ?_;refine ai hS fun a hS=>?_;obtain⟨j,g,hM⟩:=bd hM;refine wl rfl (bm (R:=ac) hS kB dR rfl rfl 0 rfl g rfl fun r x t l a hS=>?_);obtain rfl:=l;refine ai hS fun a hS=>?_;obtain⟨z,h,hM⟩:=bd hM;refine wl rfl (tQ (cap:=f_1k) hS rfl f rfl rfl (m _ _ hS.dlt (hS.get 2 rfl) (hS.get 3 rfl) j _ h) fun _ w hR a hk hA=>?_);obtain rfl:=hR;have hS:=bY hA;exact fz
  exact fz
 rintro a w ⟨hS,hM⟩;unfold sM at hM;exact fz
def mC (c:ah→Option Bool) (d:LK):Option Bool:=(rM c d).bind fun b=>some (decide ((0:Int)≤b))
theorem yT (T:Nat→Prop) (W0:World) (hT:TW T W0) (hLv:di T W0) (f_1g:Nat) (e:aT aP f_1g=true) (f_1k:bv) (f_1P:cA) (b:ah→Option Bool) (g:∀ (T:Nat→Prop) (W0:World) (hT:TW T W0) (hLv:di T W0) (hP:f_1P.p T W0) (j:ah) (y:Bool) (hM:b j=some y),bj aP No f_1g ([.agg (aV j).toArray]++f_1k) W0 (fun v w'=>v = .bool y)) (d:f_1P.p T W0) (c:LK) (i:Value) (h:aE ac T W0 i c) (y:Bool) (hM:mC b c=some y):bj aP No 134 [i,.func (.func f_1g) #[] f_1k.toArray] W0 (fun v w'=>v = .bool y):=by
 refine en Tryz.func134 Tryz.ntmps134 hT fun a hS=>?_;replace hS:=((hS.fact f_1P (cA.dn _ d)).fact bC (di.dn hLv)).fS (aE.dn h);unfold mC at hM;refine ai hS fun a hS=>?_;obtain⟨k,f,hM⟩:=bd hM;refine kc hS NW (Cj _ _ hS.dlt (hS.get 1 rfl) f_1g e f_1k f_1P b g (hS.get 2 rfl) c _ (hS.get 0 rfl) _ f) fun _ w hR a hk hA=>?_;obtain rfl:=hR;have hS:=bY hA;exact fz
def e7 (b:Bool):Option Bool:=some (b)
def dI (b:aw) (c:Bool):Option Bool:=cond c (some (false)) (cond (decide ((0:Int)≤b.Changed)) (cond (decide (b.Changed≤b.Verified)) (cond (decide (b.Verified≤1073741824)) (cond (decide ((1:Int)≤b.Cost)) (cond (decide (b.Cost≤1073741824)) ((mC lE b.Reads).bind fun d=>e7 (!(d))) (e7 false)) (e7 false)) (e7 false)) (e7 false)) (e7 false))
def ow (b:aw):Option Bool:=(dv b.Key).bind fun c=>cond (!(c)) (dI b true) ((l4 b.Key).bind fun d=>cond d (dI b true) (cond (decide ((1073741824:Int)<(b.Value.size:Int))) (dI b true) (cond (decide ((4000:Int)<(b.Reads.length:Int))) (dI b true) (cond b.Dirty ((rP b.Key).bind fun e=>dI b (!(e))) (dI b false)))))
theorem Af (T:Nat→Prop) (W0:World) (hT:TW T W0) (hLv:di T W0) (b:aw) (m:Value) (x:aE ac T W0 m b.Reads) (y:Bool) (hM:ow b=some y):bj aP No 96 [.agg (br b m).toArray] W0 (fun v w'=>v = .bool y):=by
 refine en Tryz.func96 Tryz.ntmps96 hT fun a hS=>?_;replace hS:=(hS.fact bC (di.dn hLv)).fS (aE.dn x);unfold ow at hM;refine ai hS fun a hS=>?_;refine kb hS fun e z a w hk hS=>?_;refine ai hS fun a hS=>?_;refine aD ?_;refine aK (J:=fun a w=>∃ (d:Bool),St W0 No T 67 [(1,pt e 0),(34,.bool d)] [.box e (br b m) 84] [aR ac m b.Reads,bC] a w∧dI b d=some y) ?_ ?_
 ·skip;refine ai hS fun a hS=>?_;obtain⟨B,j,hM⟩:=bd hM;refine kc hS JH (sC _ _ hS.dlt (hS.get 1 rfl) b.Key _ j) fun _ w hR a hk hA=>?_;obtain rfl:=hR;have hS:=bY hA;refine ai hS fun a hS=>?_;rcases cd hM with⟨f,hM⟩|⟨f,hM⟩
  ·exact fz
  refine ai hS fun a hS=>?_;obtain⟨C,k,hM⟩:=bd hM;refine wg hS rfl rfl rfl f (bg hS LP rfl rfl (uK _ _ hS.dlt b.Key _ k) fun _ w hR a hk hA=>?_);obtain rfl:=hR;have hS:=bY hA;refine ai hS fun a hS=>?_;rcases cd hM with⟨n,hM⟩|⟨n,hM⟩
  ·exact fz
  refine ai hS fun a hS=>?_;rcases cd hM with⟨o,hM⟩|⟨o,hM⟩
  ·exact fz
  refine ai hS fun a hS=>?_;rcases cd hM with⟨p,hM⟩|⟨p,hM⟩
  ·exact fz
  refine ai hS fun a hS=>?_;rcases cd hM with⟨g,hM⟩|⟨g,hM⟩
  ·refine ai hS fun a hS=>?_;obtain⟨D,l,hM⟩:=bd hM;refine wg hS rfl rfl rfl g (bg hS NL rfl rfl (Cp _ _ hS.dlt b.Key _ l) fun _ w hR a hk hA=>?_);obtain rfl:=hR;have hS:=bY hA;exact fz
  exact fz
 rintro a w ⟨d,hS,hM⟩;unfold dI at hM;rcases cd hM with⟨q,hM⟩|⟨q,hM⟩
 ·exact fz
 refine ai hS fun a hS=>?_;refine aK (J:=fun a w=>∃ (c:Bool),St W0 No T 67 [(2,.bool c)] [] [bC] a w∧e7 c=some y) ?_ ?_
 ·skip;refine ai hS fun a hS=>?_;rcases cd hM with⟨r,hM⟩|⟨r,hM⟩
  ·refine ai hS fun a hS=>?_;rcases cd hM with⟨s,hM⟩|⟨s,hM⟩
   ·refine ai hS fun a hS=>?_;rcases cd hM with⟨t,hM⟩|⟨t,hM⟩
    ·refine ai hS fun a hS=>?_;rcases cd hM with⟨u,hM⟩|⟨u,hM⟩
     ·refine ai hS fun a hS=>?_;rcases cd hM with⟨h,hM⟩|⟨h,hM⟩
      ·refine ai hS fun a hS=>?_;obtain⟨A,i,hM⟩:=bd hM;refine wg hS rfl rfl rfl h (bg hS NN rfl rfl (yT _ _ hS.dlt (hS.get 1 rfl) 133 NM [] zg lE (fun T W0 hT hLv _ E y hM=>yh T W0 hT hLv E y hM) trivial b.Reads _ (hS.get 0 rfl) _ i) fun _ w hR a hk hA=>?_);obtain rfl:=hR;have hS:=bY hA;exact fz
      exact fz
     exact fz
    exact fz
   exact fz
  exact fz
 rintro a w ⟨c,hS,hM⟩;unfold e7 at hM;exact fz
def mq (b:LR):Option Bool:=some (decide ((b.length:Int)≤4000))
def dU (b:Int) (c:Bool):Option (Fl (Int) (Fl (Unit) Bool)):=cond c (some (.out (.out false))) (some (.go (IntKind.i64.wrap (b+1))))
def gj (d:LR) (b:Int):Option (Fl (Int) (Fl (Unit) Bool)):=cond (decide (b<(d.length:Int))) ((bu d b).bind fun c=>(ow c).bind fun f=>cond (!(f)) (dU b true) (cond (decide ((0:Int)<b)) ((bu d (IntKind.i64.wrap (b-1))).bind fun e=>(sB e.Key c.Key).bind fun g=>dU b (decide ((0:Int)≤g))) (dU b false))) (some (.out (.go ())))
def jJ (b:LR):Option Bool:=(loop (fun s:Int=>gj b s) 0).bind fun r=>Fl.el r (fun s=>mq b) (fun y=>some (y))
theorem wC (T:Nat→Prop) (W0:World) (hT:TW T W0) (hLv:di T W0) (b:LR) (d:Value) (C:aE aa T W0 d b) (y:Bool) (hM:jJ b=some y):bj aP No 61 [d] W0 (fun v w'=>v = .bool y):=by
 refine en Tryz.func61 Tryz.ntmps61 hT fun a hS=>?_;replace hS:=(hS.fact bC (di.dn hLv)).fS (aE.dn C);unfold jJ at hM;refine ai hS fun a hS=>?_;refine aK (J:=fun a w=>St W0 No T 35 [(0,d)] [] [aR aa d b,bC] a w∧mq b=some y) ?_ ?_
 ·skip;refine ai hS fun a hS=>?_;obtain⟨O,k,hMo1⟩:=bd hM;refine bF _ (fun s a w=>∃ (c:Int),c=s∧St W0 No T 35 [(0,d),(5,d),(6,al (b.length:Int)),(7,al c)] [] [aR aa d b,bC] a w) k ⟨_,rfl,hS.mt [] [0,1]⟩ ?_;rintro s a w B ⟨c,rfl,hS⟩ hM hf1;have hM:gj b c=some B:=hM;unfold gj at hM;refine ai hS fun a hS=>?_;refine aD ?_;rcases cd hM with⟨r,hM⟩|⟨r,hM⟩
  ·refine ai hS fun a hS=>?_;refine aD ?_;refine ai hS fun a hS=>?_;obtain⟨g,h,hM⟩:=bd hM;refine wl rfl (bm (R:=aa) hS qB m5 rfl rfl 0 rfl h rfl fun D I F t a hS=>?_);obtain⟨M,rfl,n⟩:=t;replace hS:=hS.fS n;refine ai hS fun a hS=>?_;refine ka hS gV fun E H a w hk hS=>?_;refine go hS fun a w hS=>?_;refine aK (J:=fun a w=>∃ (e:Bool),St W0 No T 35 [(0,d),(5,d),(6,al (b.length:Int)),(7,al c),(30,.bool e)] [] [aR aa d b,bC] a w∧dU c e=some B) ?_ ?_
   ·skip;refine dr [] hS fun w hQ hS=>?_;refine gE [0] hS fun a hS=>?_;obtain⟨K,l,hM⟩:=bd hM;refine ec 1 hS PG (Af _ _ hS.dlt (hS.get 3 rfl) g _ (hS.get 0 rfl) _ l) fun _ w hR a hk hA=>?_;obtain rfl:=hR;have hS:=bY hA;refine gE [2,3] hS fun a hS=>?_;rcases cd hM with⟨u,hM⟩|⟨u,hM⟩
    ·refine gE [4,5,6,7,8,9,10,11,12,13,14,15,16,17,18] hS fun a hS=>?_;refine eD ?_;exact⟨_,hS.mt [] [2,3],hM⟩
    refine gE [4,5,6] hS fun a hS=>?_;rcases cd hM with⟨f,hM⟩|⟨f,hM⟩
    ·refine gE [7,8,9] hS fun a hS=>?_;obtain⟨q,j,hM⟩:=bd hM;obtain⟨p,A,G,x,z,hS⟩:=jj (R:=aa) hS qB m5 2 rfl j;obtain⟨N,rfl,o⟩:=x;replace hS:=hS.fS o;refine y7 10 (v:=pt p A) rfl (by kernel_rfl) (by kernel_rfl) (by kernel_rfl) rfl hQ hS (z rfl rfl) rfl rfl rfl f rfl rfl fun a hS=>?_;refine gE [11,12,13,14] hS fun a hS=>?_;obtain⟨L,m,hM⟩:=bd hM;refine cI (i:=15) rfl (by kernel_rfl) hS rfl rfl rfl f (bg hS JG rfl rfl (vt _ _ hS.dlt (hS.get 5 rfl) q.Key g.Key _ m) fun _ w hR a hk hA=>⟨gf (hk),?_⟩);obtain rfl:=hR;have hS:=bY hA;refine gE [16,17,18] hS fun a hS=>?_;refine eD ?_;exact⟨_,hS.mt [] [4,5],hM⟩
    refine gE [7,8,9,10,11,12,13,14,15,16,17,18] hS fun a hS=>?_;refine eD ?_;exact⟨_,hS.mt [] [2,3],hM⟩
   rintro a w ⟨e,hS,hM⟩;unfold dU at hM;exact fz
  exact fz
 rintro a w ⟨hS,hM⟩;unfold mq at hM;exact fz
def lj (b:Bool):Option Bool:=some (b)
def iq (b:ah):Option Bool:=(dv b).bind fun c=>cond c ((l4 b).bind fun d=>lj d) (lj false)
theorem tz (T:Nat→Prop) (W0:World) (hT:TW T W0) (hLv:di T W0) (c:ah) (y:Bool) (hM:iq c=some y):bj aP No 62 [.agg (aV c).toArray] W0 (fun v w'=>v = .bool y):=by
 refine en Tryz.func62 Tryz.ntmps62 hT fun a hS=>?_;replace hS:=hS.fact bC (di.dn hLv);unfold iq at hM;refine ai hS fun a hS=>?_;refine kb hS fun g h a w hk hS=>?_;refine ai hS fun a hS=>?_;refine aK (J:=fun a w=>∃ (b:Bool),St W0 No T 9 [(2,.bool b)] [] [bC] a w∧lj b=some y) ?_ ?_
 ·skip;refine ai hS fun a hS=>?_;obtain⟨i,e,hM⟩:=bd hM;refine kc hS JH (sC _ _ hS.dlt (hS.get 0 rfl) c _ e) fun _ w hR a hk hA=>?_;obtain rfl:=hR;have hS:=bY hA;refine ai hS fun a hS=>?_;rcases cd hM with⟨d,hM⟩|⟨d,hM⟩
  ·refine ai hS fun a hS=>?_;obtain⟨j,f,hM⟩:=bd hM;refine wg hS rfl rfl rfl d (bg hS LP rfl rfl (uK _ _ hS.dlt c _ f) fun _ w hR a hk hA=>?_);obtain rfl:=hR;have hS:=bY hA;exact fz
  exact fz
 rintro a w ⟨b,hS,hM⟩;unfold lj at hM;exact fz
def pi:Option Int:=some ((-1))
def fu (c:LR) (f:aw→Option Bool) (b:Int):Option (Fl (Int) (Fl (Unit) Int)):=cond (decide (b<(c.length:Int))) ((bu c b).bind fun d=>(f d).bind fun e=>cond e (some (.out (.out b))) (some (.go (IntKind.i64.wrap (b+1))))) (some (.out (.go ())))
def pH (b:aw→Option Bool) (c:LR):Option Int:=(loop (fun s:Int=>fu c b s) 0).bind fun r=>Fl.el r (fun s=>pi) (fun y=>some (y))
theorem yU (T:Nat→Prop) (W0:World) (hT:TW T W0) (hLv:di T W0) (f_1g:Nat) (f:aT aP f_1g=true) (f_1k:bv) (f_1P:cA) (d:aw→Option Bool) (o:∀ (T:Nat→Prop) (W0:World) (hT:TW T W0) (hLv:di T W0) (hP:f_1P.p T W0) (q:aw) (k:Value) (A:aE ac T W0 k q.Reads) (y:Bool) (hM:d q=some y),bj aP No f_1g ([.agg (br q k).toArray]++f_1k) W0 (fun v w'=>v = .bool y)) (e:f_1P.p T W0) (c:LR) (j:Value) (t:aE aa T W0 j c) (y:Int) (hM:pH d c=some y):bj aP No 99 [j,.func (.func f_1g) #[] f_1k.toArray] W0 (fun v w'=>v=al y):=by
 refine en Tryz.func99 Tryz.ntmps99 hT fun a hS=>?_;replace hS:=((hS.fact f_1P (cA.dn _ e)).fact bC (di.dn hLv)).fS (aE.dn t);unfold pH at hM;refine ai hS fun a hS=>?_;refine aK (J:=fun a w=>St W0 No T 19 [] [] [bC,f_1P] a w∧pi=some y) ?_ ?_
 ·skip;refine ai hS fun a hS=>?_;obtain⟨E,r,hMo1⟩:=bd hM;refine bF _ (fun s a w=>∃ (b:Int),b=s∧St W0 No T 19 [(0,j),(1,.func (.func f_1g) #[] f_1k.toArray),(7,al (c.length:Int)),(8,al b)] [] [aR aa j c,bC,f_1P] a w) r ⟨_,rfl,hS.mt [] [0,1,2]⟩ ?_;rintro s a w z ⟨b,rfl,hS⟩ hM hf1;have hM:fu c d b=some z:=hM;unfold fu at hM;refine ai hS fun a hS=>?_;refine aD ?_;rcases cd hM with⟨m,hM⟩|⟨m,hM⟩
  ·refine ai hS fun a hS=>?_;refine aD ?_;refine ai hS fun a hS=>?_;obtain⟨l,g,hM⟩:=bd hM;refine wl rfl (bm (R:=aa) hS qB m5 rfl rfl 0 rfl g rfl fun u B x n a hS=>?_);obtain⟨D,rfl,i⟩:=n;replace hS:=hS.fS i;refine ai hS fun a hS=>?_;obtain⟨C,h,hM⟩:=bd hM;refine wl rfl (tQ (cap:=f_1k) hS rfl f rfl rfl (o _ _ hS.dlt (hS.get 3 rfl) (hS.get 4 rfl) l _ (hS.get 0 rfl) _ h) fun _ w hR a hk hA=>?_);obtain rfl:=hR;have hS:=bY hA;exact fz
  exact fz
 rintro a w ⟨hS,hM⟩;unfold pi at hM;exact fz
def bL (c:aw→Option Bool) (d:LR):Option Bool:=(pH c d).bind fun b=>some (decide ((0:Int)≤b))
theorem jX (T:Nat→Prop) (W0:World) (hT:TW T W0) (hLv:di T W0) (f_1g:Nat) (e:aT aP f_1g=true) (f_1k:bv) (f_1P:cA) (b:aw→Option Bool) (h:∀ (T:Nat→Prop) (W0:World) (hT:TW T W0) (hLv:di T W0) (hP:f_1P.p T W0) (i:aw) (g:Value) (l:aE ac T W0 g i.Reads) (y:Bool) (hM:b i=some y),bj aP No f_1g ([.agg (br i g).toArray]++f_1k) W0 (fun v w'=>v = .bool y)) (d:f_1P.p T W0) (c:LR) (k:Value) (j:aE aa T W0 k c) (y:Bool) (hM:bL b c=some y):bj aP No 64 [k,.func (.func f_1g) #[] f_1k.toArray] W0 (fun v w'=>v = .bool y):=by
 refine en Tryz.func64 Tryz.ntmps64 hT fun a hS=>?_;replace hS:=((hS.fact f_1P (cA.dn _ d)).fact bC (di.dn hLv)).fS (aE.dn j);unfold bL at hM;refine ai hS fun a hS=>?_;obtain⟨m,f,hM⟩:=bd hM;refine kc hS PJ (yU _ _ hS.dlt (hS.get 1 rfl) f_1g e f_1k f_1P b h (hS.get 2 rfl) c _ (hS.get 0 rfl) _ f) fun _ w hR a hk hA=>?_;obtain rfl:=hR;have hS:=bY hA;exact fz
def jS (c:aw) (b:aj):Option Bool:=some (decide (b.Revision<c.Verified))
theorem wJ (T:Nat→Prop) (W0:World) (hT:TW T W0) (d:aw) (c:aj) (k:Value) (f:Value) (g:Value) (b:Nat) (h:aE ac T W0 k d.Reads) (i:aE ae T W0 f c.Inputs) (j:aE aa T W0 g c.Records) (e:(ln b 0 (bf c f g)).p T W0) (y:Bool) (hM:jS d c=some y):bj aP No 65 [.agg (br d k).toArray,pt b 0] W0 (fun v w'=>v = .bool y):=by
 refine en Tryz.func65 Tryz.ntmps65 hT fun a hS=>?_;replace hS:=(((hS.fact (ln b 0 (bf c f g)) (cA.dn _ e)).fS (aE.dn h)).fS (aE.dn i)).fS (aE.dn j);unfold jS at hM;refine ai hS fun a hS=>?_;refine kb hS fun b l a w hk hS=>?_;exact fz
def iX (b:aj):Option Bool:=(bL (fun d=>jS d b) b.Records).bind fun c=>some (!(c))
def cF (b:Int) (c:Bool):Option (Fl (Int) (Fl (Unit) Bool)):=cond c (some (.out (.out false))) (some (.go (IntKind.i64.wrap (b+1))))
def eS (d:aj) (b:Int):Option (Fl (Int) (Fl (Unit) Bool)):=cond (decide (b<(d.Inputs.length:Int))) ((bu d.Inputs b).bind fun c=>(iq c.Key).bind fun f=>cond (!(f)) (cF b true) (cond (decide ((0:Int)<b)) ((bu d.Inputs (IntKind.i64.wrap (b-1))).bind fun e=>(sB e.Key c.Key).bind fun g=>cond (decide ((0:Int)≤g)) (cF b true) (cond (decide ((1073741824:Int)<(c.Value.size:Int))) (cF b true) (cond (decide (c.Changed<0)) (cF b true) (cF b (decide (d.Revision<c.Changed)))))) (cond (decide ((1073741824:Int)<(c.Value.size:Int))) (cF b true) (cond (decide (c.Changed<0)) (cF b true) (cF b (decide (d.Revision<c.Changed))))))) (some (.out (.go ())))
def ip (b:aj):Option Bool:=cond (decide (b.Revision<0)) (some (false)) (cond (decide ((1073741824:Int)<b.Revision)) (some (false)) (cond (decide ((64:Int)<(b.Inputs.length:Int))) (some (false)) ((jJ b.Records).bind fun c=>cond (!(c)) (some (false)) ((loop (fun s:Int=>eS b s) 0).bind fun r=>Fl.el r (fun s=>iX b) (fun y=>some (y))))))
theorem tx (T:Nat→Prop) (W0:World) (hT:TW T W0) (hLv:di T W0) (b:aj) (e:Value) (f:Value) (Q:aE ae T W0 e b.Inputs) (S:aE aa T W0 f b.Records) (y:Bool) (hM:ip b=some y):bj aP No 35 [.agg (bf b e f).toArray] W0 (fun v w'=>v = .bool y):=by
 refine en Tryz.func35 Tryz.ntmps35 hT fun a hS=>?_;replace hS:=((hS.fact bC (di.dn hLv)).fS (aE.dn Q)).fS (aE.dn S);unfold ip at hM;refine ai hS fun a hS=>?_;refine kb hS fun c Z a w hk hS=>?_;refine ai hS fun a hS=>?_;refine aD ?_;refine iY ?_;refine ai hS fun a hS=>?_;rcases cd hM with⟨u,hM⟩|⟨u,hM⟩
 ·exact fz
 refine ai hS fun a hS=>?_;rcases cd hM with⟨x,hM⟩|⟨x,hM⟩
 ·exact fz
 refine ai hS fun a hS=>?_;rcases cd hM with⟨k,hM⟩|⟨k,hM⟩
 ·exact fz
 refine ai hS fun a hS=>?_;obtain⟨a5,q,hM⟩:=bd hM;refine wg hS rfl rfl rfl k (bg hS Pm rfl rfl (wC _ _ hS.dlt (hS.get 2 rfl) b.Records _ (hS.get 0 rfl) _ q) fun _ w hR a hk hA=>?_);obtain rfl:=hR;have hS:=bY hA;refine ai hS fun a hS=>?_;rcases cd hM with⟨z,hM⟩|⟨z,hM⟩
 ·exact fz
 refine ai hS fun a hS=>?_;refine aK (J:=fun a w=>St W0 No T 78 [(1,pt c 0)] [.box c (bf b e f) 31] [aR ae e b.Inputs,aR aa f b.Records,bC] a w∧iX b=some y) ?_ ?_
 ·skip;refine ai hS fun a hS=>?_;obtain⟨r1,P,hMo1⟩:=bd hM;refine bF _ (fun s a w=>∃ (d:Int),d=s∧St W0 No T 78 [(1,pt c 0),(26,e),(27,al (b.Inputs.length:Int)),(28,al d)] [.box c (bf b e f) 31] [aR ae e b.Inputs,aR aa f b.Records,bC] a w) P ⟨_,rfl,hS.mt [0] [1,0,2]⟩ ?_;rintro s a w O ⟨d,rfl,hS⟩ hM hf1;have hM:eS b d=some O:=hM;unfold eS at hM;refine ai hS fun a hS=>?_;refine aD ?_;rcases cd hM with⟨A,hM⟩|⟨A,hM⟩
  ·refine ai hS fun a hS=>?_;refine aD ?_;refine ai hS fun a hS=>?_;obtain⟨j,l,hM⟩:=bd hM;refine wl rfl (bm (R:=ae) hS u5 uz rfl rfl 0 rfl l rfl fun V a1 X B a hS=>?_);obtain rfl:=B;refine ai hS fun a hS=>?_;refine ka hS ug fun W a0 a w hk hS=>?_;refine go hS fun a w hS=>?_;refine aK (J:=fun a w=>∃ (g:Bool),St W0 No T 78 [(1,pt c 0),(26,e),(27,al (b.Inputs.length:Int)),(28,al d),(71,.bool g)] [.box c (bf b e f) 31] [aR ae e b.Inputs,aR aa f b.Records,bC] a w∧cF d g=some O) ?_ ?_
   ·skip;refine dr [] hS fun w hQ hS=>?_;refine gE [0,1] hS fun a hS=>?_;obtain⟨a3,o,hM⟩:=bd hM;refine ec 2 hS Od (tz _ _ hS.dlt (hS.get 3 rfl) j.Key _ o) fun _ w hR a hk hA=>?_;obtain rfl:=hR;have hS:=bY hA;refine gE [3,4] hS fun a hS=>?_;rcases cd hM with⟨C,hM⟩|⟨C,hM⟩
    ·refine gE [5,6,7,8,9,10,11,12,13,14,15,16,17,18,19,20,21,22,23,24,25,26,27,28,29,30,31,32,33,34,35,36,37,38] hS fun a hS=>?_;refine eD ?_;exact⟨_,hS.mt [1] [1,2,3],hM⟩
    refine gE [5,6,7] hS fun a hS=>?_;rcases cd hM with⟨h,hM⟩|⟨h,hM⟩
    ·refine gE [8,9,10,11] hS fun a hS=>?_;obtain⟨t,m,hM⟩:=bd hM;obtain⟨r,M,Y,D,E,hS⟩:=jj (R:=ae) hS u5 uz 1 rfl m;obtain rfl:=D;refine y7 12 (v:=pt r M) rfl (by kernel_rfl) (by kernel_rfl) (by kernel_rfl) rfl hQ hS (E rfl rfl) rfl rfl rfl h rfl rfl fun a hS=>?_;refine gE [13,14,15,16] hS fun a hS=>?_;obtain⟨a4,p,hM⟩:=bd hM;refine cI (i:=17) rfl (by kernel_rfl) hS rfl rfl rfl h (bg hS JG rfl rfl (vt _ _ hS.dlt (hS.get 4 rfl) t.Key j.Key _ p) fun _ w hR a hk hA=>⟨gf (hk),?_⟩);obtain rfl:=hR;have hS:=bY hA;refine gE [18,19,20,21] hS fun a hS=>?_;rcases cd hM with⟨F,hM⟩|⟨F,hM⟩
     ·refine gE [22,23,24,25,26,27,28,29,30,31,32,33,34,35,36,37,38] hS fun a hS=>?_;refine eD ?_;exact⟨_,hS.mt [1] [2,3,4],hM⟩
     refine gE [22,23,24,25,26,27] hS fun a hS=>?_;rcases cd hM with⟨G,hM⟩|⟨G,hM⟩
     ·refine gE [28,29,30,31,32,33,34,35,36,37,38] hS fun a hS=>?_;refine eD ?_;exact⟨_,hS.mt [1] [2,3,4],hM⟩
     refine gE [28,29,30,31,32] hS fun a hS=>?_;rcases cd hM with⟨H,hM⟩|⟨H,hM⟩
     ·refine gE [33,34,35,36,37,38] hS fun a hS=>?_;refine eD ?_;exact⟨_,hS.mt [1] [2,3,4],hM⟩
     refine gE [33,34,35,36,37,38] hS fun a hS=>?_;refine eD ?_;exact⟨_,hS.mt [1] [2,3,4],hM⟩
    refine gE [8,9,10,11,12,13,14,15,16,17,18,19,20,21,22,23,24,25,26,27] hS fun a hS=>?_;rcases cd hM with⟨I,hM⟩|⟨I,hM⟩
    ·refine gE [28,29,30,31,32,33,34,35,36,37,38] hS fun a hS=>?_;refine eD ?_;exact⟨_,hS.mt [1] [1,2,3],hM⟩
    refine gE [28,29,30,31,32] hS fun a hS=>?_;rcases cd hM with⟨K,hM⟩|⟨K,hM⟩
    ·refine gE [33,34,35,36,37,38] hS fun a hS=>?_;refine eD ?_;exact⟨_,hS.mt [1] [1,2,3],hM⟩
    refine gE [33,34,35,36,37,38] hS fun a hS=>?_;refine eD ?_;exact⟨_,hS.mt [1] [1,2,3],hM⟩
   rintro a w ⟨g,hS,hM⟩;unfold cF at hM;exact fz
  exact fz
 rintro a w ⟨hS,hM⟩;unfold iX at hM;refine ai hS fun a hS=>?_;replace hS:=hS.freezeBox 0 rfl;refine qy hS (AG (vs:=[pt c 0]) hS rfl) fun a hS=>?_;obtain⟨a2,n,hM⟩:=bd hM;refine kc hS Pn (jX _ _ hS.dlt (hS.get 3 rfl) 65 Po [pt c 0] (Gf (ln c 0 (bf b e f)) (Gf (aR ae e b.Inputs) (Gf (aR aa f b.Records) zg))) (fun N=>jS N b) (fun T W0 hT hLv hP N U L y hM=>wJ T W0 hT N b U e f c L hP.2.1 hP.2.2.1 hP.1 y hM) ⟨(hS.get 0 rfl),(hS.get 1 rfl),(hS.get 2 rfl),trivial⟩ b.Records _ (hS.get 2 rfl) _ n) fun _ w hR a hk hA=>?_;obtain rfl:=hR;have hS:=bY hA;exact fz
def dq:Option Int:=some ((-1))
def bZ (c:LC) (f:am→Option Bool) (b:Int):Option (Fl (Int) (Fl (Unit) Int)):=cond (decide (b<(c.length:Int))) ((bu c b).bind fun d=>(f d).bind fun e=>cond e (some (.out (.out b))) (some (.go (IntKind.i64.wrap (b+1))))) (some (.out (.go ())))
def cn (b:am→Option Bool) (c:LC):Option Int:=(loop (fun s:Int=>bZ c b s) 0).bind fun r=>Fl.el r (fun s=>dq) (fun y=>some (y))
theorem lg (T:Nat→Prop) (W0:World) (hT:TW T W0) (hLv:di T W0) (f_1g:Nat) (f:aT aP f_1g=true) (f_1k:bv) (f_1P:cA) (d:am→Option Bool) (m:∀ (T:Nat→Prop) (W0:World) (hT:TW T W0) (hLv:di T W0) (hP:f_1P.p T W0) (q:am) (y:Bool) (hM:d q=some y),bj aP No f_1g ([.agg (gt q).toArray]++f_1k) W0 (fun v w'=>v = .bool y)) (e:f_1P.p T W0) (c:LC) (i:Value) (o:aE ad T W0 i c) (y:Int) (hM:cn d c=some y):bj aP No 137 [i,.func (.func f_1g) #[] f_1k.toArray] W0 (fun v w'=>v=al y):=by
 refine en Tryz.func137 Tryz.ntmps137 hT fun a hS=>?_;replace hS:=((hS.fact f_1P (cA.dn _ e)).fact bC (di.dn hLv)).fS (aE.dn o);unfold cn at hM;refine ai hS fun a hS=>?_;refine aK (J:=fun a w=>St W0 No T 19 [] [] [bC,f_1P] a w∧dq=some y) ?_ ?_
 ·skip;refine ai hS fun a hS=>?_;obtain⟨A,n,hMo1⟩:=bd hM;refine bF _ (fun s a w=>∃ (b:Int),b=s∧St W0 No T 19 [(0,i),(1,.func (.func f_1g) #[] f_1k.toArray),(7,al (c.length:Int)),(8,al b)] [] [aR ad i c,bC,f_1P] a w) n ⟨_,rfl,hS.mt [] [0,1,2]⟩ ?_;rintro s a w u ⟨b,rfl,hS⟩ hM hf1;have hM:bZ c d b=some u:=hM;unfold bZ at hM;refine ai hS fun a hS=>?_;refine aD ?_;rcases cd hM with⟨k,hM⟩|⟨k,hM⟩
  ·refine ai hS fun a hS=>?_;refine aD ?_;refine ai hS fun a hS=>?_;obtain⟨j,g,hM⟩:=bd hM;refine wl rfl (bm (R:=ad) hS tA s9 rfl rfl 0 rfl g rfl fun r x t l a hS=>?_);obtain rfl:=l;refine ai hS fun a hS=>?_;obtain⟨z,h,hM⟩:=bd hM;refine wl rfl (tQ (cap:=f_1k) hS rfl f rfl rfl (m _ _ hS.dlt (hS.get 2 rfl) (hS.get 3 rfl) j _ h) fun _ w hR a hk hA=>?_);obtain rfl:=hR;have hS:=bY hA;exact fz
  exact fz
 rintro a w ⟨hS,hM⟩;unfold dq at hM;exact fz
def bK (c:am→Option Bool) (d:LC):Option Bool:=(cn c d).bind fun b=>some (decide ((0:Int)≤b))
theorem eF (T:Nat→Prop) (W0:World) (hT:TW T W0) (hLv:di T W0) (f_1g:Nat) (e:aT aP f_1g=true) (f_1k:bv) (f_1P:cA) (b:am→Option Bool) (g:∀ (T:Nat→Prop) (W0:World) (hT:TW T W0) (hLv:di T W0) (hP:f_1P.p T W0) (j:am) (y:Bool) (hM:b j=some y),bj aP No f_1g ([.agg (gt j).toArray]++f_1k) W0 (fun v w'=>v = .bool y)) (d:f_1P.p T W0) (c:LC) (i:Value) (h:aE ad T W0 i c) (y:Bool) (hM:bK b c=some y):bj aP No 105 [i,.func (.func f_1g) #[] f_1k.toArray] W0 (fun v w'=>v = .bool y):=by
 refine en Tryz.func105 Tryz.ntmps105 hT fun a hS=>?_;replace hS:=((hS.fact f_1P (cA.dn _ d)).fact bC (di.dn hLv)).fS (aE.dn h);unfold bK at hM;refine ai hS fun a hS=>?_;obtain⟨k,f,hM⟩:=bd hM;refine kc hS NP (lg _ _ hS.dlt (hS.get 1 rfl) f_1g e f_1k f_1P b g (hS.get 2 rfl) c _ (hS.get 0 rfl) _ f) fun _ w hR a hk hA=>?_;obtain rfl:=hR;have hS:=bY hA;exact fz
def jT (c:am):Option Bool:=(iq c.Key).bind fun b=>some (!(b))
theorem wK (T:Nat→Prop) (W0:World) (hT:TW T W0) (hLv:di T W0) (b:am) (y:Bool) (hM:jT b=some y):bj aP No 106 [.agg (gt b).toArray] W0 (fun v w'=>v = .bool y):=by
 refine en Tryz.func106 Tryz.ntmps106 hT fun a hS=>?_;replace hS:=hS.fact bC (di.dn hLv);unfold jT at hM;refine ai hS fun a hS=>?_;refine kb hS fun d e a w hk hS=>?_;refine ai hS fun a hS=>?_;obtain⟨f,c,hM⟩:=bd hM;refine kc hS Od (tz _ _ hS.dlt (hS.get 0 rfl) b.Key _ c) fun _ w hR a hk hA=>?_;obtain rfl:=hR;have hS:=bY hA;exact fz
def jU (b:am):Option Bool:=some (decide ((1073741824:Int)<(b.Value.size:Int)))
theorem wL (T:Nat→Prop) (W0:World) (hT:TW T W0) (b:am) (y:Bool) (hM:jU b=some y):bj aP No 107 [.agg (gt b).toArray] W0 (fun v w'=>v = .bool y):=by
 refine en Tryz.func107 Tryz.ntmps107 hT fun a hS=>?_;unfold jU at hM;refine ai hS fun a hS=>?_;refine kb hS fun c d a w hk hS=>?_;exact fz
def lX (f:aj) (b:LC):Option Int:=(ip f).bind fun c=>cond (!(c)) (some (42)) (cond (decide ((32:Int)<(b.length:Int))) (some (3)) ((bK jT b).bind fun d=>cond d (some (40)) ((bK jU b).bind fun e=>cond e (some (3)) (some (0)))))
theorem yj (T:Nat→Prop) (W0:World) (hT:TW T W0) (hLv:di T W0) (b:aj) (c:LC) (n:Value) (o:Value) (p:Value) (k:aE ae T W0 n b.Inputs) (l:aE aa T W0 o b.Records) (m:aE ad T W0 p c) (y:Int) (hM:lX b c=some y):bj aP No 70 [.agg (bf b n o).toArray,p] W0 (fun v w'=>v=al y):=by
 refine en Tryz.func70 Tryz.ntmps70 hT fun a hS=>?_;replace hS:=(((hS.fact bC (di.dn hLv)).fS (aE.dn k)).fS (aE.dn l)).fS (aE.dn m);unfold lX at hM;refine ai hS fun a hS=>?_;refine kb hS fun q r a w hk hS=>?_;refine ai hS fun a hS=>?_;refine aD ?_;refine ai hS fun a hS=>?_;obtain⟨s,d,hM⟩:=bd hM;refine kc hS N8 (tx _ _ hS.dlt (hS.get 3 rfl) b _ _ (hS.get 2 rfl) (hS.get 1 rfl) _ d) fun _ w hR a hk hA=>?_;obtain rfl:=hR;have hS:=bY hA;refine ai hS fun a hS=>?_;rcases cd hM with⟨g,hM⟩|⟨g,hM⟩
 ·exact fz
 refine ai hS fun a hS=>?_;rcases cd hM with⟨h,hM⟩|⟨h,hM⟩
 ·exact fz
 refine ai hS fun a hS=>?_;obtain⟨t,e,hM⟩:=bd hM;refine kc hS KU (eF _ _ hS.dlt (hS.get 3 rfl) 106 Nx [] zg jT (fun T W0 hT hLv _ j y hM=>wK T W0 hT hLv j y hM) trivial c _ (hS.get 0 rfl) _ e) fun _ w hR a hk hA=>?_;obtain rfl:=hR;have hS:=bY hA;refine ai hS fun a hS=>?_;rcases cd hM with⟨i,hM⟩|⟨i,hM⟩
 ·exact fz
 refine ai hS fun a hS=>?_;obtain⟨u,f,hM⟩:=bd hM;refine kc hS KU (eF _ _ hS.dlt (hS.get 3 rfl) 107 Ny [] zg jU (fun T W0 hT hLv _ j y hM=>wL T W0 hT j y hM) trivial c _ (hS.get 0 rfl) _ f) fun _ w hR a hk hA=>?_;obtain rfl:=hR;have hS:=bY hA;exact fz
def dD (b:LI):Option LI:=gd (bH (([]:List aN).length+b.length)) <| some ((([]:List aN)++b))
theorem nK (T:Nat→Prop) (W0:World) (hT:TW T W0) (d:LI) (m:Value) (l:aE ae T W0 m d) (y:LI) (hM:dD d=some y):bj aP No 66 [m] W0 (fun v w'=>∃ (k:Value) (qE:bv),v=k∧gg ae T W0 w' [bh k qE] 69 k qE y):=by
 refine en Tryz.func66 Tryz.ntmps66 hT fun a hS=>?_;replace hS:=hS.fS (aE.dn l);unfold dD at hM;refine ai hS fun a hS=>?_;refine aD ?_;refine ai hS fun a hS=>?_;obtain⟨b,f,g,n⟩:=CT (R:=ae) hS u5 0 rfl;refine wl rfl (ky (v:=.bool b) hS (g rfl) rfl rfl fun a hS=>?_);refine ai hS fun a hS=>?_;rcases Ho (b) with c | c
 ·rw [f c] at hM;have hM:some ([])=some y:=hM;refine ai hS fun a hS=>?_;cases hM
  refine aI hS rfl (aq hS rfl aH) ?_;exact⟨.slice none 0 0,[],rfl,eE _ _ _ _ _ _⟩
 refine ai hS fun a hS=>?_;refine wl rfl (xZ ae hS A4 rfl fun o a w hk hS=>?_);refine ai hS fun a hS=>?_;obtain⟨h,hM⟩:=be hM;refine wl rfl (bM (R:=ae) (xs:=([]:List aN)) (ys:=d) hS A4 (by decide) (by decide) rfl rfl 0 rfl 0 rfl 1 rfl h rfl fun j e a w hk hS=>?_);refine ai hS fun a hS=>?_;cases hM
 refine aI hS rfl (aq hS rfl aH) ?_;exact⟨j,e,rfl,hS.retOwn ⟨.inr (a6 (i:=0) rfl),trivial⟩ 0 rfl 0 rfl⟩
def ob (b:LR):Option LR:=gd (bH (([]:List aw).length+b.length)) <| some ((([]:List aw)++b))
theorem zv (T:Nat→Prop) (W0:World) (hT:TW T W0) (d:LR) (m:Value) (l:aE aa T W0 m d) (y:LR) (hM:ob d=some y):bj aP No 100 [m] W0 (fun v w'=>∃ (k:Value) (qE:bv),v=k∧gg aa T W0 w' [aS k qE] 84 k qE y):=by
 refine en Tryz.func100 Tryz.ntmps100 hT fun a hS=>?_;replace hS:=hS.fS (aE.dn l);unfold ob at hM;refine ai hS fun a hS=>?_;refine aD ?_;refine ai hS fun a hS=>?_;obtain⟨b,f,g,n⟩:=CT (R:=aa) hS qB 0 rfl;refine wl rfl (ky (v:=.bool b) hS (g rfl) rfl rfl fun a hS=>?_);refine ai hS fun a hS=>?_;rcases Ho (b) with c | c
 ·rw [f c] at hM;have hM:some ([])=some y:=hM;refine ai hS fun a hS=>?_;cases hM
  refine aI hS rfl (aq hS rfl aH) ?_;exact⟨.slice none 0 0,[],rfl,eE _ _ _ _ _ _⟩
 refine ai hS fun a hS=>?_;refine wl rfl (xZ aa hS tp rfl fun o a w hk hS=>?_);refine ai hS fun a hS=>?_;obtain⟨h,hM⟩:=be hM;refine wl rfl (bM (R:=aa) (xs:=([]:List aw)) (ys:=d) hS tp (by decide) (by decide) rfl rfl 0 rfl 0 rfl 1 rfl h rfl fun j e a w hk hS=>?_);refine ai hS fun a hS=>?_;cases hM
 refine aI hS rfl (aq hS rfl aH) ?_;exact⟨j,e,rfl,hS.retOwn ⟨.inr (a6 (i:=0) rfl),trivial⟩ 0 rfl 0 rfl⟩
def nP (b:LK):Option LK:=gd (bH (([]:List ah).length+b.length)) <| some ((([]:List ah)++b))
theorem yC (T:Nat→Prop) (W0:World) (hT:TW T W0) (d:LK) (m:Value) (l:aE ac T W0 m d) (y:LK) (hM:nP d=some y):bj aP No 111 [m] W0 (fun v w'=>∃ (k:Value) (qE:bv),v=k∧gg ac T W0 w' [ay k qE] 44 k qE y):=by
 refine en Tryz.func111 Tryz.ntmps111 hT fun a hS=>?_;replace hS:=hS.fS (aE.dn l);unfold nP at hM;refine ai hS fun a hS=>?_;refine aD ?_;refine ai hS fun a hS=>?_;obtain⟨b,f,g,n⟩:=CT (R:=ac) hS kB 0 rfl;refine wl rfl (ky (v:=.bool b) hS (g rfl) rfl rfl fun a hS=>?_);refine ai hS fun a hS=>?_;rcases Ho (b) with c | c
 ·rw [f c] at hM;have hM:some ([])=some y:=hM;refine ai hS fun a hS=>?_;cases hM
  refine aI hS rfl (aq hS rfl aH) ?_;exact⟨.slice none 0 0,[],rfl,eE _ _ _ _ _ _⟩
 refine ai hS fun a hS=>?_;refine wl rfl (xZ ac hS gY rfl fun o a w hk hS=>?_);refine ai hS fun a hS=>?_;obtain⟨h,hM⟩:=be hM;refine wl rfl (bM (R:=ac) (xs:=([]:List ah)) (ys:=d) hS gY (by decide) (by decide) rfl rfl 0 rfl 0 rfl 1 rfl h rfl fun j e a w hk hS=>?_);refine ai hS fun a hS=>?_;cases hM
 refine aI hS rfl (aq hS rfl aH) ?_;exact⟨j,e,rfl,hS.retOwn ⟨.inr (a6 (i:=0) rfl),trivial⟩ 0 rfl 0 rfl⟩
def rW (b:aw):Option aw:=(nP b.Reads).bind fun c=>some ((aw.mk b.Key b.Value c b.Changed b.Verified b.Cost b.Dirty))
theorem CB (T:Nat→Prop) (W0:World) (hT:TW T W0) (b:aw) (j:Value) (h:aE ac T W0 j b.Reads) (y:aw) (hM:rW b=some y):bj aP No 101 [.agg (br b j).toArray] W0 (fun v w'=>∃ (g:Value) (qE:bv),v = .agg (br y g).toArray∧gg ac T W0 w' [ay g qE] 44 g qE y.Reads):=by
 refine en Tryz.func101 Tryz.ntmps101 hT fun a hS=>?_;replace hS:=hS.fS (aE.dn h);unfold rW at hM;refine ai hS fun a hS=>?_;refine kb hS fun k m a w hk hS=>?_;refine ka hS gV fun l n a w hk hS=>?_;refine ai hS fun a hS=>?_;obtain⟨o,d,hM⟩:=bd hM;refine kc hS KV (yC _ _ hS.dlt b.Reads _ (hS.get 0 rfl) _ d) fun _ w hR a hk hA=>?_;obtain⟨f,e,he,c⟩:=hR;obtain rfl:=he.symm;have hS:=qD hA c;refine go hS fun a w hS=>?_;cases hM
 refine aI hS rfl (rC 1 hS) ?_;exact⟨f,e,rfl,hS.retOwn ⟨.inr (a6 (i:=0) rfl),trivial⟩ 0 rfl 0 rfl⟩
def rV (b:LR):Option LR:=some (b)
def lD (e:LR) (c:LR) (b:Int):Option (Fl (LR×Int) (LR)):=cond (decide (b<(e.length:Int))) ((bu c b).bind fun d=>(rW d).bind fun f=>(bu c b).bind fun g=>some (.go ((c.set (Int.toNat b) f),IntKind.i64.wrap (b+1)))) (some (.out c))
def qj (c:LR):Option LR:=(ob c).bind fun b=>(loop (fun s:LR×Int=>lD b s.1 s.2) (b,0)).bind fun r=>rV r
theorem A8 (T:Nat→Prop) (W0:World) (hT:TW T W0) (o:LR) (P:Value) (O:aE aa T W0 P o) (y:LR) (hM:qj o=some y):bj aP No 67 [P] W0 (fun v w'=>∃ (M:Value) (qE:bv),v=M∧gg aa T W0 w' [aS M qE] 84 M qE y):=by
 refine en Tryz.func67 Tryz.ntmps67 hT fun a hS=>?_;replace hS:=hS.fS (aE.dn O);unfold qj at hM;refine ai hS fun a hS=>?_;obtain⟨p,t,hM⟩:=bd hM;refine kc hS Nt (zv _ _ hS.dlt o _ (hS.get 0 rfl) _ t) fun _ w hR a hk hA=>?_;obtain⟨b,V,he,m⟩:=hR;obtain rfl:=he.symm;have hS:=qD hA m;refine ai hS fun a hS=>?_;refine aK (J:=fun a w=>∃ (g:LR) (c:LV),St W0 No T 22 [(3,b)] [aS b c] [an aa c g] a w∧rV g=some y) ?_ ?_
 ·skip;refine ai hS fun a hS=>?_;obtain⟨r1,N,hMo1⟩:=bd hM;refine bF _ (fun s a w=>∃ (e:LR) (d:Int) (f:LV),(e,d)=s∧St W0 No T 22 [(3,b),(8,b),(9,al (p.length:Int)),(10,al d)] [aS b f] [an aa f e] a w) N ⟨_,_,_,rfl,hS.mt [0] [0]⟩ ?_;rintro s a w f1 ⟨e,d,f,rfl,hS⟩ hM hf1;have hM:lD p e d=some f1:=hM;unfold lD at hM;refine ai hS fun a hS=>?_;refine aD ?_;rcases cd hM with⟨B,hM⟩|⟨B,hM⟩
  ·refine ai hS fun a hS=>?_;refine aD ?_;refine ai hS fun a hS=>?_;obtain⟨l,r,hM⟩:=bd hM;refine wl rfl (dj (R:=aa) hS qB m5 rfl rfl 0 rfl 0 rfl r rfl fun Q a2 a4 W C D E a hS=>?_);obtain⟨I,rfl,x⟩:=C;replace hS:=hS.fS x;refine qy hS (ce (k:=0) hS m5 0 rfl D E rfl id (us:=(br l I)) rfl rfl (fun h=>by cases h)) fun a hS=>?_;refine ka hS gV fun S a1 a w hk hS=>?_;refine go hS fun a w hS=>?_;obtain⟨q,u,hM⟩:=bd hM;refine kc hS Nu (CB _ _ hS.dlt l _ (hS.get 0 rfl) _ u) fun _ w hR a hk hA=>?_;obtain⟨K,X,he,n⟩:=hR;obtain rfl:=he.symm;have hS:=qD hA n;obtain⟨A,j,hM⟩:=bd hM;refine wl rfl (dj (R:=aa) hS qB m5 rfl rfl 2 rfl 2 rfl j rfl fun U a3 a5 Y F G H a hS=>?_);obtain⟨L,rfl,z⟩:=F;replace hS:=(hS.fS z).freeze (R:=ac) 0 rfl 1 rfl;refine wl rfl (qe (R:=aa) (k:=0) (cs:=(br A L)) (us:=(br q K)) (x':=q) hS rfl rfl rfl m5 1 rfl 4 rfl G H j (⟨_,rfl,(hS.get 1 rfl)⟩) rfl rfl (⟨_,rfl,(hS.get 0 rfl)⟩) fun Z w hk hS=>?_);exact fz
  exact fz
 rintro a w ⟨g,c,hS,hM⟩;unfold rV at hM;refine ai hS fun a hS=>?_;cases hM
 refine aI hS rfl (aq hS rfl aH) ?_;exact⟨b,c,rfl,hS.retOwn ⟨.inr (a6 (i:=0) rfl),trivial⟩ 0 rfl 0 rfl⟩
def dK (b:aj):Option aj:=(dD b.Inputs).bind fun c=>(qj b.Records).bind fun d=>some ((aj.mk b.Revision c d))
theorem ge (T:Nat→Prop) (W0:World) (hT:TW T W0) (b:aj) (r:Value) (s:Value) (p:aE ae T W0 r b.Inputs) (q:aE aa T W0 s b.Records) (y:aj) (hM:dK b=some y):bj aP No 36 [.agg (bf b r s).toArray] W0 (fun v w'=>∃ (f:Value) (sI:bv) (g:Value) (C1:bv),v = .agg (bf y f g).toArray∧gg ae T W0 w' [bh f sI,aS g C1] 69 f sI y.Inputs∧gg aa T W0 w' [bh f sI,aS g C1] 84 g C1 y.Records∧(∀ k,f.ownBlock=some k→g.ownBlock≠some k)):=by
 refine en Tryz.func36 Tryz.ntmps36 hT fun a hS=>?_;replace hS:=(hS.fS (aE.dn p)).fS (aE.dn q);unfold dK at hM;refine ai hS fun a hS=>?_;refine kb hS fun c u a w hk hS=>?_;refine ka hS mo fun t x a w hk hS=>?_;refine ai hS fun a hS=>?_;refine aD ?_;refine dr [(7,.blk (some c)),(9,.blk (some c))] hS fun w hQ hS=>?_;refine gE [0,1,3,4] hS fun a hS=>?_;obtain⟨z,h,hM⟩:=bd hM;refine ec 2 hS Pp (nK _ _ hS.dlt b.Inputs _ (hS.get 1 rfl) _ h) fun _ w hR a hk hA=>?_;obtain⟨n,l,he,d⟩:=hR;obtain rfl:=he.symm;have hS:=qD hA d;refine gE [6] hS fun a hS=>?_;obtain⟨A,j,hM⟩:=bd hM;refine ec 5 hS Pq (A8 _ _ hS.dlt b.Records _ (hS.get 1 rfl) _ j) fun _ w hR a hk hA=>?_;obtain⟨o,m,he,e⟩:=hR;obtain rfl:=he.symm;have hS:=qD hA e;refine es 7 hS fun w hS=>?_;refine gE [8] hS fun a hS=>?_;refine es 9 hS fun w hS=>?_;refine eD ?_;refine go hS fun a w hS=>?_;cases hM
 refine aI hS rfl (rC 2 hS) ?_;exact⟨n,l,o,m,rfl,hS.retOwn ⟨.inr (a6 (i:=1) rfl),⟨.inr (a6 (i:=0) rfl),trivial⟩⟩ 1 rfl 1 rfl,hS.retOwn ⟨.inr (a6 (i:=1) rfl),⟨.inr (a6 (i:=0) rfl),trivial⟩⟩ 0 rfl 0 rfl,(hS.apart2 1 rfl 0 rfl (by decide))⟩
def bw (c:Int) (b:Bool):Option (Int×Bool):=some ((c,b))
def bQ (d:LI) (c:ah) (e:aN→ah→Option Int) (b:Int):Option (Int×Bool):=cond (decide (b<(d.length:Int))) ((bu d b).bind fun f=>(e f c).bind fun g=>bw b (g==0)) (bw b false)
def bR (h:LI) (d:ah) (e:aN→ah→Option Int) (b:Int) (c:Int):Option (Fl (Int×Int) (Int)):=cond (decide (b<c)) ((bu h (IntKind.i64.wrap (DT .u64 (IntKind.u64.wrap (IntKind.i64.wrap (b+c))) 1))).bind fun f=>(e f d).bind fun g=>cond (decide (g<0)) (some (.go (IntKind.i64.wrap ((IntKind.i64.wrap (DT .u64 (IntKind.u64.wrap (IntKind.i64.wrap (b+c))) 1))+1),c))) (some (.go (b,IntKind.i64.wrap (DT .u64 (IntKind.u64.wrap (IntKind.i64.wrap (b+c))) 1))))) (some (.out b))
def bo (c:aN→ah→Option Int) (d:LI) (b:ah):Option (Int×Bool):=(loop (fun s:Int×Int=>bR d b c s.1 s.2) (0,(d.length:Int))).bind fun r=>bQ d b c r
theorem gm (T:Nat→Prop) (W0:World) (hT:TW T W0) (hLv:di T W0) (cmp_g:Nat) (j:aT aP cmp_g=true) (cmp_k:bv) (cmp_P:cA) (f:aN→ah→Option Int) (m:∀ (T:Nat→Prop) (W0:World) (hT:TW T W0) (hLv:di T W0) (hP:cmp_P.p T W0) (L:aN) (M:ah) (y:Int) (hM:f L M=some y),bj aP No cmp_g ([.agg (pg L).toArray,.agg (aV M).toArray]++cmp_k) W0 (fun v w'=>v=al y)) (hPcmp_:cmp_P.p T W0) (c:LI) (b:ah) (n:Value) (K:aE ae T W0 n c) (y:Int×Bool) (hM:bo f c b=some y):bj aP No 72 [n,.agg (aV b).toArray,.func (.func cmp_g) #[] cmp_k.toArray] W0 (fun v w'=>v = .tuple #[al y.1,.bool y.2]):=by
 refine en Tryz.func72 Tryz.ntmps72 hT fun a hS=>?_;replace hS:=((hS.fact cmp_P (cA.dn _ hPcmp_)).fact bC (di.dn hLv)).fS (aE.dn K);unfold bo at hM;refine ai hS fun a hS=>?_;refine kb hS fun e Q a w hk hS=>?_;refine ai hS fun a hS=>?_;refine aK (J:=fun a w=>∃ (d:Int),St W0 No T 49 [(0,n),(2,.func (.func cmp_g) #[] cmp_k.toArray),(4,pt e 0),(8,al (c.length:Int)),(9,al d)] [.box e (aV b) 44] [aR ae n c,bC,cmp_P] a w∧bQ c b f d=some y) ?_ ?_
 ·skip;refine ai hS fun a hS=>?_;obtain⟨V,I,hMo1⟩:=bd hM;refine bF _ (fun s a w=>∃ (g:Int) (h:Int),(g,h)=s∧St W0 No T 49 [(0,n),(2,.func (.func cmp_g) #[] cmp_k.toArray),(4,pt e 0),(8,al (c.length:Int)),(9,al g),(10,al h)] [.box e (aV b) 44] [aR ae n c,bC,cmp_P] a w) I ⟨_,_,rfl,hS.mt [0] [0,1,2]⟩ ?_;rintro s a w P ⟨g,h,rfl,hS⟩ hM hf1;have hM:bR c b f g h=some P:=hM;unfold bR at hM;refine aD ?_;refine ai hS fun a hS=>?_;rcases cd hM with⟨B,hM⟩|⟨B,hM⟩
  ·refine ai hS fun a hS=>?_;refine qy hS (OV hS rfl rfl rfl) fun a hS=>?_;refine ai hS fun a hS=>?_;refine aD ?_;refine dr [] hS fun w hQ hS=>?_;refine gE [0,1,2] hS fun a hS=>?_;obtain⟨A,q,hM⟩:=bd hM;obtain⟨u,G,N,C,D,hS⟩:=jj (R:=ae) hS u5 uz 0 rfl q;obtain rfl:=C;refine dy 3 (v:=pt u G) rfl (by kernel_rfl) (by kernel_rfl) (by kernel_rfl) rfl hQ hS (D rfl rfl) rfl rfl rfl fun a hS=>?_;refine gE [4,5] hS fun a hS=>?_;obtain⟨U,t,hM⟩:=bd hM;refine e1 6 (tQ (cap:=cmp_k) hS rfl j rfl rfl (m _ _ hS.dlt (hS.get 2 rfl) (hS.get 3 rfl) A b _ t) fun _ w hR a hk hA=>⟨gf (hk),?_⟩);obtain rfl:=hR;have hS:=bY hA;refine gE [7] hS fun a hS=>?_;refine eD ?_;exact fz
  exact fz
 rintro a w ⟨d,hS,hM⟩;unfold bQ at hM;refine aK (J:=fun a w=>∃ (k:Bool),St W0 No T 49 [(6,al d),(7,.bool k)] [] [bC,cmp_P] a w∧bw d k=some y) ?_ ?_
 ·skip;refine dr [] hS fun w hQ hS=>?_;refine gE [0,1,2,3,4] hS fun a hS=>?_;rcases cd hM with⟨l,hM⟩|⟨l,hM⟩
  ·refine gE [5,6,7] hS fun a hS=>?_;obtain⟨z,o,hM⟩:=bd hM;obtain⟨x,H,O,E,F,hS⟩:=jj (R:=ae) hS u5 uz 0 rfl o;obtain rfl:=E;refine y7 8 (v:=pt x H) rfl (by kernel_rfl) (by kernel_rfl) (by kernel_rfl) rfl hQ hS (F rfl rfl) rfl rfl rfl l rfl rfl fun a hS=>?_;refine gE [9,10] hS fun a hS=>?_;obtain⟨S,r,hM⟩:=bd hM;refine cI (i:=11) rfl (by kernel_rfl) hS rfl rfl rfl l (tQ (cap:=cmp_k) hS rfl j rfl rfl (m _ _ hS.dlt (hS.get 2 rfl) (hS.get 3 rfl) z b _ r) fun _ w hR a hk hA=>⟨gf (hk),?_⟩);obtain rfl:=hR;have hS:=bY hA;refine gE [12,13,14,15] hS fun a hS=>?_;refine eD ?_;exact⟨_,hS.mt [] [2,3],hM⟩
  refine gE [5,6,7,8,9,10,11,12,13,14,15] hS fun a hS=>?_;refine eD ?_;exact⟨_,hS.mt [] [1,2],hM⟩
 rintro a w ⟨k,hS,hM⟩;unfold bw at hM;refine ai hS fun a hS=>?_;cases hM
 refine aI hS Tryz.results72 (aq hS rfl (aq hS rfl aH)) ?_;exact rfl
def eC (d:aN) (c:ah):Option Int:=(sB d.Key c).bind fun b=>some (b)
theorem wI (T:Nat→Prop) (W0:World) (hT:TW T W0) (hLv:di T W0) (c:aN) (b:ah) (y:Int) (hM:eC c b=some y):bj aP No 73 [.agg (pg c).toArray,.agg (aV b).toArray] W0 (fun v w'=>v=al y):=by
 refine en Tryz.func73 Tryz.ntmps73 hT fun a hS=>?_;replace hS:=hS.fact bC (di.dn hLv);unfold eC at hM;refine ai hS fun a hS=>?_;refine kb hS fun e g a w hk hS=>?_;refine kb hS fun f h a w hk hS=>?_;refine ai hS fun a hS=>?_;obtain⟨i,d,hM⟩:=bd hM;refine kc hS JG (vt _ _ hS.dlt (hS.get 0 rfl) c.Key b _ d) fun _ w hR a hk hA=>?_;obtain rfl:=hR;have hS:=bY hA;exact fz
def dW (d:aj) (b:aj) (e:Bool) (c:LI):Option (aj×Int):=cond (!(e)) (some (((aj.mk b.Revision c b.Records),0))) (cond (decide ((64:Int)<(c.length:Int))) ((dK d).bind fun f=>some ((f,45))) (cond (d.Revision==1073741824) ((dK d).bind fun g=>some ((g,3))) (some (((aj.mk (IntKind.i64.wrap (b.Revision+1)) c b.Records),0)))))
def cP (f:aj) (g:Bool) (b:LI) (d:ah) (e:ByteArray):Option (Bool×LI):=(oV f d).bind fun h=>cond (h.toList==e.toList) (some (g,b)) ((bo eC b d).bind fun c=>cond c.2 ((bu b c.1).bind fun i=>some (true,(b.set (Int.toNat c.1) (aN.mk d e (IntKind.i64.wrap (f.Revision+1)))))) (gd (decide (0≤c.1)) <| gd (decide (c.1≤b.length)) <| gd (bH (b.length+1)) <| some (true,(List.take (Int.toNat c.1) b++(aN.mk d e (IntKind.i64.wrap (f.Revision+1)))::List.drop (Int.toNat c.1) b))))
def fY (b:aj) (d:LB):Option (aj×Int):=(dK b).bind fun c=>(wB (fun (s:Bool×LI) (k:ah) (v:ByteArray)=>cP b s.1 s.2 k v) d (false,c.Inputs)).bind fun r=>dW b c r.1 r.2
def dC (e:LC) (d:LB) (b:Int):Option (Fl (LB×Int) (LB)):=cond (decide (b<(e.length:Int))) ((bu e b).bind fun c=>some (.go ((eH aL c.Key c.Value d),IntKind.i64.wrap (b+1)))) (some (.out d))
def dm (b:aj) (d:LC):Option (aj×Int):=(lX b d).bind fun c=>cond (c != 0) ((dK b).bind fun e=>some ((e,c))) ((loop (fun s:LB×Int=>dC d s.1 s.2) (([]:LB),0)).bind fun r=>fY b r)
theorem mn (T:Nat→Prop) (W0:World) (hT:TW T W0) (hLv:di T W0) (b:aj) (G:LC) (D:Value) (F:Value) (v3:Value) (ed:aE ae T W0 D b.Inputs) (eg:aE aa T W0 F b.Records) (ek:aE ad T W0 v3 G) (y:aj×Int) (hM:dm b G=some y):bj aP No 38 [.agg (bf b D F).toArray,v3] W0 (fun v w'=>∃ (v4:Value) (wq:bv) (v6:Value) (xR:bv),v = .tuple #[.agg (bf y.1 v4 v6).toArray,al y.2]∧gg ae T W0 w' [bh v4 wq,aS v6 xR] 69 v4 wq y.1.Inputs∧gg aa T W0 w' [bh v4 wq,aS v6 xR] 84 v6 xR y.1.Records∧(∀ k,v4.ownBlock=some k→v6.ownBlock≠some k)):=by
 refine en Tryz.func38 Tryz.ntmps38 hT fun a hS=>?_;replace hS:=(((hS.fact bC (di.dn hLv)).fS (aE.dn ed)).fS (aE.dn eg)).fS (aE.dn ek);unfold dm at hM;refine ai hS fun a hS=>?_;refine kb hS fun j f4 a w hk hS=>?_;refine ka hS mo fun l f6 a w hk hS=>?_;refine ai hS fun a hS=>?_;refine aD ?_;refine ai hS fun a hS=>?_;obtain⟨g8,b0,hM⟩:=bd hM;refine kc hS Pr (yj _ _ hS.dlt (hS.get 3 rfl) b G _ _ _ (hS.get 2 rfl) (hS.get 1 rfl) (hS.get 0 rfl) _ b0) fun _ w hR a hk hA=>?_;obtain rfl:=hR;have hS:=bY hA;refine ai hS fun a hS=>?_;rcases cd hM with⟨c2,hM⟩|⟨c2,hM⟩
 ·refine ai hS fun a hS=>?_;obtain⟨gb,b1,hM⟩:=bd hM;refine kc hS EC (ge _ _ hS.dlt b _ _ (hS.get 2 rfl) (hS.get 1 rfl) _ b1) fun _ w hR a hk hA=>?_;obtain⟨dl,b6,ds,b8,he,W,X,B⟩:=hR;obtain rfl:=he.symm;have hS:=uw hA W X B;refine go hS fun a w hS=>?_;cases hM
  refine aI hS Tryz.results38 (bn hS rfl 2 rfl fy rfl (fun h=>by cases h) (aq hS rfl aH)) ?_;exact⟨dl,b6,ds,b8,rfl,hS.retOwn ⟨.inr (a6 (i:=0) rfl),⟨.inr (a6 (i:=1) rfl),trivial⟩⟩ 0 rfl 1 rfl,hS.retOwn ⟨.inr (a6 (i:=0) rfl),⟨.inr (a6 (i:=1) rfl),trivial⟩⟩ 1 rfl 0 rfl,(hS.apart2 0 rfl 1 rfl (by decide))⟩
 refine ai hS fun a hS=>?_;refine wl rfl (zY ac true aY.str false hS rfl fun n fd a w hk hS=>?_);refine ai hS fun a hS=>?_;refine aK (J:=fun a w=>∃ (C:LB) (m:AM) (g:Nat),St W0 No T 100 [(2,pt j 0),(4,pt l 0),(7,.map (some n))] [om n m g,.box j (bf b D F) 31,.box l [al 0,.slice none 0 0,.slice none 0 0] 31] [kC m C,yz m g,aR ae D b.Inputs,aR aa F b.Records,bC] a w∧fY b C=some y) ?_ ?_
 ·skip;refine ai hS fun a hS=>?_;obtain⟨r1,a4,hMo1⟩:=bd hM;refine bF _ (fun s a w=>∃ (M:LB) (K:Int) (I:AM) (Q:Nat),(M,K)=s∧St W0 No T 100 [(2,pt j 0),(4,pt l 0),(7,.map (some n)),(26,v3),(27,al (G.length:Int)),(28,al K)] [om n I Q,.box j (bf b D F) 31,.box l [al 0,.slice none 0 0,.slice none 0 0] 31] [kC I M,yz I Q,aR ad v3 G,aR ae D b.Inputs,aR aa F b.Records,bC] a w) a4 ⟨_,_,_,_,rfl,hS.mt [0,2,1] [1,0,2,4,3,5]⟩ ?_;rintro s a w f1 ⟨M,K,I,Q,rfl,hS⟩ hM hf1;have hM:dC G M K=some f1:=hM;unfold dC at hM;refine ai hS fun a hS=>?_;refine aD ?_;rcases cd hM with⟨c3,hM⟩|⟨c3,hM⟩
  ·refine ai hS fun a hS=>?_;refine aD ?_;refine ai hS fun a hS=>?_;obtain⟨H,ab,hM⟩:=bd hM;refine wl rfl (bm (R:=ad) hS tA s9 rfl rfl 2 rfl ab rfl fun el g0 er c4 a hS=>?_);obtain rfl:=c4;refine ai hS fun a hS=>?_;refine ka hS ir fun em fl a w hk hS=>?_;refine go hS fun a w hS=>?_;refine wl rfl (Co hS qJ cT 1 rfl 1 rfl 2 rfl (c:=(aV H.Key)) (cv:=[aO H.Value]) (key:=H.Key) (val:=H.Value) rfl rfl rfl rfl rfl fun f2 et w hk hS=>?_);exact fz
  exact fz
 rintro a w ⟨C,m,g,hS,hM⟩;unfold fY at hM;refine ai hS fun a hS=>?_;obtain⟨o,af,hM⟩:=bd hM;refine kc hS EC (ge _ _ hS.dlt b _ _ (hS.get 2 rfl) (hS.get 3 rfl) _ af) fun _ w hR a hk hA=>?_;obtain⟨e2,b9,p,r,he,Y,Z,B⟩:=hR;obtain rfl:=he.symm;have hS:=uw hA Y Z B;refine ka hS mo fun x fn a w hk hS=>?_;refine go hS fun a w hS=>?_;refine aK (J:=fun a w=>∃ (P:Bool) (S:LI) (E:Value) (z:LV),St W0 No T 100 [(2,pt j 0),(4,pt l 0),(10,pt x 0),(11,.bool P)] [.box j (bf b D F) 31,.box l [al 0,.slice none 0 0,.slice none 0 0] 31,bh E z,aS p r,.box x (bf o E p) 31] [aR ae D b.Inputs,aR aa F b.Records,an ae z S,an aa r o.Records,bC] a w∧dW b o P S=some y) ?_ ?_
 ·skip;refine ai hS fun a hS=>?_;refine wl rfl (Ke hS rfl qJ 3 rfl rfl fun O fr a w hk hS=>?_);refine ai hS fun a hS=>?_;obtain⟨r1,a4,hMo1⟩:=bd hM;refine M7 (fun (s:Bool×LI) (k:ah) (v:ByteArray)=>cP b s.1 s.2 k v) (fun s rest a w=>∃ (q:Bool) (f:LI) (U:(Array Nat)) (t:Value) (A:LV),(q,f)=s∧se m U C=rest∧St W0 No T 100 [(2,pt j 0),(4,pt l 0),(10,pt x 0),(11,.bool q),(41,pt O 0)] [om n m g,.obj O (.mapIter (some n) g U g),.box j (bf b D F) 31,.box l [al 0,.slice none 0 0,.slice none 0 0] 31,bh t A,aS p r,.box x (bf o t p) 31] [kC m C,yz m g,aR ae D b.Inputs,aR aa F b.Records,an ae A f,an aa r o.Records,bC] a w) (ES a4) ⟨false,o.Inputs,(#[]),e2,b9,rfl,EV (hS.mapOk 2 rfl).1,(hS.meet [4,0,5,6,2,3,1] (by decide) ⟨rfl,rfl,rfl,rfl,rfl,trivial⟩ ⟨rfl,rfl,rfl,rfl,rfl,rfl,rfl,trivial⟩ ⟨⟨2,rfl⟩,⟨3,rfl⟩,⟨4,rfl⟩,⟨5,rfl⟩,⟨1,rfl⟩,⟨0,rfl⟩,⟨6,rfl⟩,trivial⟩)⟩ ?_;rintro s rest a w ⟨q,f,U,t,A,rfl,rfl,hS⟩ hrest;refine ai hS fun a hS=>?_;refine wl rfl (MM hS rfl rfl 0 rfl 1 rfl (by decide) 0 rfl 1 rfl (fun c5 a hS=>?_) (fun d e ex eT N a w hk c9 ca L hS=>?_))
  ·have hr:=Kq c5 hrest;subst hr;refine ai hS fun a hS=>?_;refine aD ?_;refine ai hS fun a hS=>?_;have hM:dW b o q f=some y:=hMo1;exact⟨_,_,_,_,hS.mt [2,3,4,5,6] [2,3,4,5,6],hM⟩
  obtain rfl:=c9;obtain rfl:=ca;obtain⟨s1,hM,hrest⟩:=GE L hrest;have hM:cP b q f d e=some s1:=hM;unfold cP at hM;refine ai hS fun a hS=>?_;refine aD ?_;refine ai hS fun a hS=>?_;refine qy hS (KB hS rfl 0 rfl 1 rfl 2 rfl 0 rfl) fun a hS=>?_;refine ai hS fun a hS=>?_;refine ka hS gU fun b3 fs a w hk hS=>?_;refine go hS fun a w hS=>?_;refine aD ?_;refine ai hS fun a hS=>?_;obtain⟨g7,ao,hM⟩:=bd hM;refine kc hS Ps (An _ _ hS.dlt (hS.get 7 rfl) b d _ _ (hS.get 3 rfl) (hS.get 4 rfl) _ ao) fun _ w hR a hk hA=>?_;obtain rfl:=hR;have hS:=bY hA;refine ai hS fun a hS=>?_;rcases cd hM with⟨cb,hM⟩|⟨cb,hM⟩
  ·refine ai hS fun a hS=>?_;cases hM
   exact⟨(q,f),_,CI L,hrest,q,f,N,t,A,rfl,rfl,(hS.meet [1,2,3,4,5,6,7] (by decide) ⟨rfl,rfl,rfl,rfl,rfl,trivial⟩ ⟨rfl,rfl,rfl,rfl,rfl,rfl,rfl,trivial⟩ ⟨⟨1,rfl⟩,⟨2,rfl⟩,⟨3,rfl⟩,⟨4,rfl⟩,⟨5,rfl⟩,⟨6,rfl⟩,⟨7,rfl⟩,trivial⟩)⟩
  refine ai hS fun a hS=>?_;refine qy hS (bq (ps:=[(0,.tmp 52),(1,.tmp 53),(2,.tmp 56)]) hS Iv ug rfl (us:=[(aV d),[aO e],[al (IntKind.i64.wrap (b.Revision+1))]]) ⟨rfl,⟨rfl,⟨rfl,trivial⟩⟩⟩ (ws:=[al d.Kind,aO d.Text,aO e,al (IntKind.i64.wrap (b.Revision+1))]) rfl) fun a hS=>?_;refine ka hS ug fun b4 fM a w hk hS=>?_;refine go hS fun a w hS=>?_;have hL:=hS;replace hL:=hL.freeze (R:=ae) 6 rfl 5 rfl;obtain⟨u,av,hM⟩:=bd hM;refine kc hS Pt (gm _ _ hL.dlt (hL.get 8 rfl) 73 Pu [] zg eC (fun T W0 hT hLv _ x0 x1 y hM=>wI T W0 hT hLv x0 x1 y hM) trivial f d _ (hL.get 0 rfl) _ av) fun _ w hR a hk hA=>?_;obtain rfl:=hR;have hS:=bY hA;refine ai hS fun a hS=>?_;rcases cd hM with⟨ch,hM⟩|⟨ch,hM⟩
  ·refine ai hS fun a hS=>?_;obtain⟨c1,V,hM⟩:=bd hM;refine wl rfl (dj (R:=ae) hS u5 uz rfl rfl 6 rfl 5 rfl V rfl fun eq g1 g2 eX ck cl co a hS=>?_);obtain rfl:=ck;refine wl rfl (qe (R:=ae) (k:=0) (cs:=(pg c1)) (us:=[al d.Kind,aO d.Text,aO e,al (IntKind.i64.wrap (b.Revision+1))]) (x':=(aN.mk d e (IntKind.i64.wrap (b.Revision+1)))) hS rfl rfl rfl uz 6 rfl 5 rfl cl co V rfl rfl rfl rfl fun bb w hk hS=>?_);refine ai hS fun a hS=>?_;cases hM
   exact⟨(true,(f.set (Int.toNat u.1) (aN.mk d e (IntKind.i64.wrap (b.Revision+1))))),_,CI L,hrest,true,(f.set (Int.toNat u.1) (aN.mk d e (IntKind.i64.wrap (b.Revision+1)))),N,t,bb,rfl,rfl,(hS.meet [2,3,4,5,6,7,8] (by decide) ⟨rfl,rfl,rfl,rfl,rfl,trivial⟩ ⟨rfl,rfl,rfl,rfl,rfl,rfl,rfl,trivial⟩ ⟨⟨2,rfl⟩,⟨3,rfl⟩,⟨4,rfl⟩,⟨5,rfl⟩,⟨0,rfl⟩,⟨7,rfl⟩,⟨8,rfl⟩,trivial⟩)⟩
  refine ai hS fun a hS=>?_;refine wl rfl (a8 (ps:=[(0,.tmp 74)]) hS A4 ug (zl:=[al 0,aO bI,aO bI,al 0]) (by kernel_rfl) rfl (us:=[[al d.Kind,aO d.Text,aO e,al (IntKind.i64.wrap (b.Revision+1))]]) ⟨rfl,trivial⟩ (ws:=[al d.Kind,aO d.Text,aO e,al (IntKind.i64.wrap (b.Revision+1))]) rfl rfl rfl rfl fun b5 a w hk hS=>?_);obtain⟨d0,hM⟩:=be hM;obtain⟨d1,hM⟩:=be hM;obtain⟨d2,hM⟩:=be hM;replace hS:=hS.re [7,0] [1,2,3,4,5,6,8,9];have d3:ae.rel (dT T ([bh t A,.box b5 [al d.Kind,aO d.Text,aO e,al (IntKind.i64.wrap (b.Revision+1))] 69]++[.box b4 [al d.Kind,aO d.Text,aO e,al (IntKind.i64.wrap (b.Revision+1))] 69,.box b3 (aV d) 44,om n m g,.obj O (.mapIter (some n) g N g),.box j (bf b D F) 31,.box l [al 0,.slice none 0 0,.slice none 0 0] 31,aS p r,.box x (bf o t p) 31])) w [al d.Kind,aO d.Text,aO e,al (IntKind.i64.wrap (b.Revision+1))] (aN.mk d e (IntKind.i64.wrap (b.Revision+1))):=rfl;refine wl rfl (de hS Pv rfl rfl (EI (R:=ae) rfl _ _ _ _ _ _ _ _ _ hS.dok (hS.getD 5 rfl) (ae.keep d3 (au _ _) (fun k hk=>.inl ((zD k).1 hk))) d0 d1 d2) fun e3 w hR a hk hA=>?_);obtain⟨bi,d4,d6⟩:=hR;have hS:=hA _ d6;replace hS:=hS.fR (d4.keep (au _ _) (aB _));refine go hS fun a w hS=>?_;cases hM
  exact⟨(true,(List.take (Int.toNat u.1) f++(aN.mk d e (IntKind.i64.wrap (b.Revision+1)))::List.drop (Int.toNat u.1) f)),_,CI L,hrest,true,(List.take (Int.toNat u.1) f++(aN.mk d e (IntKind.i64.wrap (b.Revision+1)))::List.drop (Int.toNat u.1) f),N,e3,bi,rfl,rfl,(hS.meet [3,4,5,6,0,7,8] (by decide) ⟨rfl,rfl,rfl,rfl,rfl,trivial⟩ ⟨rfl,rfl,rfl,rfl,rfl,rfl,rfl,trivial⟩ ⟨⟨2,rfl⟩,⟨3,rfl⟩,⟨4,rfl⟩,⟨5,rfl⟩,⟨0,rfl⟩,⟨7,rfl⟩,⟨8,rfl⟩,trivial⟩)⟩
 rintro a w ⟨P,S,E,z,hS,hM⟩;unfold dW at hM;refine aD ?_;refine ai hS fun a hS=>?_;rcases cd hM with⟨da,hM⟩|⟨da,hM⟩
 ·refine go hS fun a w hS=>?_;cases hM
  refine aI hS Tryz.results38 (bn hS rfl 1 rfl fy rfl (fun h=>by cases h) (aq hS rfl aH)) ?_;exact⟨E,z,p,r,rfl,hS.retOwn ⟨.inr (a6 (i:=2) rfl),⟨.inr (a6 (i:=3) rfl),trivial⟩⟩ 2 rfl 2 rfl,hS.retOwn ⟨.inr (a6 (i:=2) rfl),⟨.inr (a6 (i:=3) rfl),trivial⟩⟩ 3 rfl 3 rfl,(hS.apart2 2 rfl 3 rfl (by decide))⟩
 refine ai hS fun a hS=>?_;rcases cd hM with⟨dc,hM⟩|⟨dc,hM⟩
 ·refine ai hS fun a hS=>?_;obtain⟨g5,ag,hM⟩:=bd hM;refine kc hS EC (ge _ _ hS.dlt b _ _ (hS.get 0 rfl) (hS.get 1 rfl) _ ag) fun _ w hR a hk hA=>?_;obtain⟨e4,bl,e5,bs,he,a0,a1,B⟩:=hR;obtain rfl:=he.symm;have hS:=uw hA a0 a1 B;refine go hS fun a w hS=>?_;cases hM
  refine aI hS Tryz.results38 (bn hS rfl 3 rfl fy rfl (fun h=>by cases h) (aq hS rfl aH)) ?_;exact⟨e4,bl,e5,bs,rfl,hS.retOwn ⟨.inr (a6 (i:=0) rfl),⟨.inr (a6 (i:=1) rfl),trivial⟩⟩ 0 rfl 1 rfl,hS.retOwn ⟨.inr (a6 (i:=0) rfl),⟨.inr (a6 (i:=1) rfl),trivial⟩⟩ 1 rfl 0 rfl,(hS.apart2 0 rfl 1 rfl (by decide))⟩
 refine ai hS fun a hS=>?_;rcases cd hM with⟨dk,hM⟩|⟨dk,hM⟩
 ·refine ai hS fun a hS=>?_;obtain⟨g6,ak,hM⟩:=bd hM;refine kc hS EC (ge _ _ hS.dlt b _ _ (hS.get 0 rfl) (hS.get 1 rfl) _ ak) fun _ w hR a hk hA=>?_;obtain⟨e8,bt,ea,c0,he,a2,a3,B⟩:=hR;obtain rfl:=he.symm;have hS:=uw hA a2 a3 B;refine go hS fun a w hS=>?_;cases hM
  refine aI hS Tryz.results38 (bn hS rfl 3 rfl fy rfl (fun h=>by cases h) (aq hS rfl aH)) ?_;exact⟨e8,bt,ea,c0,rfl,hS.retOwn ⟨.inr (a6 (i:=0) rfl),⟨.inr (a6 (i:=1) rfl),trivial⟩⟩ 0 rfl 1 rfl,hS.retOwn ⟨.inr (a6 (i:=0) rfl),⟨.inr (a6 (i:=1) rfl),trivial⟩⟩ 1 rfl 0 rfl,(hS.apart2 0 rfl 1 rfl (by decide))⟩
 refine go hS fun a w hS=>?_;cases hM
 refine aI hS Tryz.results38 (bn hS rfl 1 rfl fy rfl (fun h=>by cases h) (aq hS rfl aH)) ?_;exact⟨E,z,p,r,rfl,hS.retOwn ⟨.inr (a6 (i:=2) rfl),⟨.inr (a6 (i:=3) rfl),trivial⟩⟩ 2 rfl 2 rfl,hS.retOwn ⟨.inr (a6 (i:=2) rfl),⟨.inr (a6 (i:=3) rfl),trivial⟩⟩ 3 rfl 3 rfl,(hS.apart2 2 rfl 3 rfl (by decide))⟩
end
end
end Go.Proofs.YtmfcloapbgfhaaaGreatDoor
