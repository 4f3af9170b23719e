/- Texts of the proof, joined (2). -/
import Derived.Test.YtmfcloapbgfhaaaGreatDoorA1
import Derived.Lib.SliceRun
import Derived.Lib.AppendZerosOnto
import Derived.Lib.Overlaps
import Derived.Laws.Externs
import Derived.Test.YtmfcloapbgfhaaaGreatDoorProg
set_option linter.unusedVariables false
set_option linter.unusedSimpArgs false
set_option linter.unusedSectionVars false
namespace Go.Proofs.YtmfcloapbgfhaaaGreatDoor
section
set_option maxRecDepth 100000
set_option maxHeartbeats 4000000
open Go.RowKit
noncomputable section
def fa (b:an):Option an:=gd (br (([]:List ae).length + b.Reads.length)) <| some ((an.mk b.Key b.Value (([]:List ae) ++ b.Reads) b.Changed b.Verified b.Cost b.Dirty))
theorem lh (T:Nat→Prop) (W0:World) (hT:TW T W0) (b:an) (h:Value) (g:aA ac T W0 h b.Reads) (y:an) (hM:fa b=some y):aW Tryz.prog No 117 [.agg (a6 b h).toArray] W0 (fun v w'=>∃ (f:Value) (oh:List Value),v = .agg (a6 y f).toArray∧fu ac T W0 w' [au f oh] 44 f oh y.Reads):=by
 refine en Tryz.func117 Tryz.ntmps117 hT fun a hS=>?_;replace hS:=hS.fS (aA.dn g);unfold fa at hM;refine ah hS fun a hS=>?_;refine kb hS fun j l a w hk hS=>?_;refine ka hS ft fun k m a w hk hS=>?_;refine ah hS fun a hS=>?_;replace hS:=hS.nilRow ac 44 (by decide);obtain⟨d,hM⟩:=aS hM;refine wl rfl (bw (R:=ac) (xs:=([]:List ae)) (ys:=b.Reads) hS gm (by decide) (by decide) rfl rfl 0 rfl 0 rfl 1 rfl d rfl fun e c a w hk hS=>?_);refine go hS fun a w hS=>?_;cases hM
 refine aE hS rfl (rC 1 hS) ?_;exact⟨e,c,rfl,hS.retOwn ⟨.inr (List.mem_of_getElem? (i:=0) rfl),trivial⟩ 0 rfl 0 rfl⟩
def nz (b:LR):Option LR:=some (b)
def kP (e:LR) (c:LR) (b:Int):Option (Fl (LR×Int) (LR)):=cond (decide ((b:Int) < (e.length:Int))) ((be e b).bind fun f=>(fa f).bind fun d=>gd (br (c.length + ([d]).length)) <| some (.go ((c ++ ([d])),IntKind.i64.wrap (b + 1)))) (some (.out c))
def o7 (b:LR):Option LR:=(loop (fun s:LR×Int=>kP b s.1 s.2) (([]:List an),0)).bind fun r=>nz r
theorem yi (T:Nat→Prop) (W0:World) (hT:TW T W0) (g:LR) (r:Value) (C:aA aa T W0 r g) (y:LR) (hM:o7 g=some y):aW Tryz.prog No 83 [r] W0 (fun v w'=>∃ (k:Value) (oh:List Value),v=k∧fu aa T W0 w' [aH k oh] 84 k oh y):=by
 refine en Tryz.func83 Tryz.ntmps83 hT fun a hS=>?_;replace hS:=hS.fS (aA.dn C);unfold o7 at hM;refine ah hS fun a hS=>?_;refine aG (J:=fun a w=>∃ (j:LR) (f:Value) (d:LV),St W0 No T 19 [(3,f)] [aH f d] [am aa d j] a w∧nz j=some y) ?_ ?_
 ·skip;refine ah hS fun a hS=>?_;replace hS:=hS.nilRow aa 84 (by decide);obtain⟨P,B,hMo1⟩:=bd hM;refine bu _ (fun s a w=>∃ (c:LR) (e:Int) (l:Value) (h:LV),(c,e)=s∧St W0 No T 19 [(3,l),(6,r),(7,.int .i64 (g.length:Int)),(8,.int .i64 e)] [aH l h] [am aa h c,aJ aa r g] a w) B ⟨_,_,_,_,rfl,hS.mt [0] [0,1]⟩ ?_;rintro s a w K ⟨c,e,l,h,rfl,hS⟩ hM hf1;have hM:kP g c e=some K:=hM;unfold kP at hM;refine ah hS fun a hS=>?_;refine az ?_;rcases cd hM with⟨u,hM⟩|⟨u,hM⟩
  ·refine ah hS fun a hS=>?_;refine az ?_;refine ah hS fun a hS=>?_;obtain⟨t,o,hM⟩:=bd hM;refine wl rfl (bc (R:=aa) hS n4 k8 rfl rfl 1 rfl o rfl fun D M G z a hS=>?_);obtain⟨N,rfl,q⟩:=z;replace hS:=hS.fS q;refine ah hS fun a hS=>?_;refine ka hS ft fun E L a w hk hS=>?_;refine go hS fun a w hS=>?_;obtain⟨b,p,hM⟩:=bd hM;refine kc hS AY (lh _ _ hS.dlt t _ (hS.get 0 rfl) _ p) fun _ w hR a hk hA=>?_;obtain⟨m,H,he,n⟩:=hR;obtain rfl:=he.symm;have hS:=oI hA n;refine wl rfl (aT (ps:=[(0,.tmp 14)]) hS pZ ft (zl:=[.int .i64 0,.string (ByteArray.mk #[]),.string (ByteArray.mk #[]),.slice none 0 0,.int .i64 0,.int .i64 0,.int .i64 0,.bool false]) (by kernel_rfl) rfl (us:=[(a6 b m)]) ⟨rfl,trivial⟩ (ws:=(a6 b m)) rfl rfl rfl rfl fun F a w hk hS=>?_);replace hS:=hS.freeze (R:=ac) 1 rfl 0 rfl;replace hS:=(hS.lit (R:=aa) (us:=(a6 b m)) (xs:=[b]) 0 rfl (by decide) (aB.one_ (R:=aa) (x:=b) (⟨_,rfl,(hS.get 0 rfl)⟩)) rfl rfl).freeze (R:=aa) 0 rfl 0 rfl;obtain⟨A,hM⟩:=aS hM;refine wl rfl (bw (R:=aa) (xs:=c) (ys:=[b]) hS pZ (by decide) (by decide) rfl rfl 1 rfl 6 rfl 0 rfl A rfl fun O I a w hk hS=>?_);exact fz
  exact fz
 rintro a w ⟨j,f,d,hS,hM⟩;unfold nz at hM;refine ah hS fun a hS=>?_;cases hM
 refine aE hS rfl (ap hS rfl aD) ?_;exact⟨f,d,rfl,hS.retOwn ⟨.inr (List.mem_of_getElem? (i:=0) rfl),trivial⟩ 0 rfl 0 rfl⟩
def dX (b:ai):Option ai:=gd (br (([]:List aI).length + b.Inputs.length)) <| (o7 b.Records).bind fun c=>some ((ai.mk b.Revision (([]:List aI) ++ b.Inputs) c))
theorem dD (T:Nat→Prop) (W0:World) (hT:TW T W0) (b:ai) (p:Value) (q:Value) (n:aA ad T W0 p b.Inputs) (o:aA aa T W0 q b.Records) (y:ai) (hM:dX b=some y):aW Tryz.prog No 52 [.agg (aQ b p q).toArray] W0 (fun v w'=>∃ (d:Value) (qT:List Value) (e:Value) (yF:List Value),v = .agg (aQ y d e).toArray∧fu ad T W0 w' [aR d qT,aH e yF] 69 d qT y.Inputs∧fu aa T W0 w' [aR d qT,aH e yF] 84 e yF y.Records∧(∀ k,d.ownBlock=some k→e.ownBlock ≠ some k)):=by
 refine en Tryz.func52 Tryz.ntmps52 hT fun a hS=>?_;replace hS:=(hS.fS (aA.dn n)).fS (aA.dn o);unfold dX at hM;refine ah hS fun a hS=>?_;refine kb hS fun r t a w hk hS=>?_;refine ka hS l4 fun s u a w hk hS=>?_;refine ah hS fun a hS=>?_;replace hS:=hS.nilRow ad 69 (by decide);obtain⟨j,hM⟩:=aS hM;refine wl rfl (bw (R:=ad) (xs:=([]:List aI)) (ys:=b.Inputs) hS wO (by decide) (by decide) rfl rfl 0 rfl 0 rfl 2 rfl j rfl fun l g a w hk hS=>?_);refine go hS fun a w hS=>?_;obtain⟨x,f,hM⟩:=bd hM;refine kc hS Kg (yi _ _ hS.dlt b.Records _ (hS.get 2 rfl) _ f) fun _ w hR a hk hA=>?_;obtain⟨m,h,he,c⟩:=hR;obtain rfl:=he.symm;have hS:=oI hA c;refine go hS fun a w hS=>?_;cases hM
 refine aE hS rfl (rC 2 hS) ?_;exact⟨l,g,m,h,rfl,hS.retOwn ⟨.inr (List.mem_of_getElem? (i:=1) rfl),⟨.inr (List.mem_of_getElem? (i:=0) rfl),trivial⟩⟩ 1 rfl 1 rfl,hS.retOwn ⟨.inr (List.mem_of_getElem? (i:=1) rfl),⟨.inr (List.mem_of_getElem? (i:=0) rfl),trivial⟩⟩ 0 rfl 0 rfl,(hS.apart2 1 rfl 0 rfl (by decide))⟩
def fj (b:Int):Option Int:=some (b)
def fk (c:ByteArray) (d:Int) (b:Int):Option (Fl (Int×Int) (Fl (Int) Int)):=cond (decide ((b:Int) < (c.size:Int))) ((be c.toList b).bind fun e=>cond (decide (((e.toNat:Int):Int) < 48)) (some (.out (.out (-1)))) ((be c.toList b).bind fun f=>cond (decide ((57:Int) < (f.toNat:Int))) (some (.out (.out (-1)))) ((be c.toList b).bind fun g=>some (.go (IntKind.i64.wrap ((IntKind.i64.wrap (10 * d)) + (IntKind.i64.wrap (IntKind.u8.wrap ((g.toNat:Int) - 48)))),IntKind.i64.wrap (b + 1)))))) (some (.out (.go d)))
def cD (c:ByteArray) (b:Bool):Option Int:=cond b (some ((-1))) ((loop (fun s:Int×Int=>fk c s.1 s.2) (0,0)).bind fun r=>Fl.el r (fun s=>fj s) (fun y=>some (y)))
def iW (b:ByteArray):Option Int:=cond (b.toList == (ByteArray.mk #[]).toList) (cD b true) (cond (decide ((9:Int) < (b.size:Int))) (cD b true) ((be b.toList 0).bind fun c=>cond (((c.toNat:Int):Int) == 48) (cD b (!(b.toList == (ByteArray.mk #[48]).toList))) (cD b false)))
theorem qO (T:Nat→Prop) (W0:World) (hT:TW T W0) (b:ByteArray) (y:Int) (hM:iW b=some y):aW Tryz.prog No 115 [.string b] W0 (fun v w'=>v = .int .i64 y):=by
 refine en Tryz.func115 Tryz.ntmps115 hT fun a hS=>?_;unfold iW at hM;refine ah hS fun a hS=>?_;refine az ?_;refine aG (J:=fun a w=>∃ (e:Bool),St W0 No T 46 [(0,.string b),(20,.bool e)] [] [] a w∧cD b e=some y) ?_ ?_
 ·skip;refine ah hS fun a hS=>?_;rcases cd hM with⟨m,hM⟩|⟨m,hM⟩
  ·exact fz
  refine ah hS fun a hS=>?_;rcases cd hM with⟨g,hM⟩|⟨g,hM⟩
  ·exact fz
  refine ah hS fun a hS=>?_;obtain⟨x,l,hM⟩:=bd hM;refine qg hS g (yB hS Tryz.underlying9 rfl rfl l) fun a hS=>?_;exact fz
 rintro a w ⟨e,hS,hM⟩;unfold cD at hM;rcases cd hM with⟨n,hM⟩|⟨n,hM⟩
 ·exact fz
 refine ah hS fun a hS=>?_;refine aG (J:=fun a w=>∃ (f:Int),St W0 No T 46 [(3,.int .i64 f)] [] [] a w∧fj f=some y) ?_ ?_
 ·skip;refine ah hS fun a hS=>?_;obtain⟨A,q,hMo1⟩:=bd hM;refine bu _ (fun s a w=>∃ (d:Int) (c:Int),(d,c)=s∧St W0 No T 46 [(0,.string b),(3,.int .i64 d),(4,.int .i64 c)] [] [] a w) q ⟨_,_,rfl,hS.mt [] []⟩ ?_;rintro s a w z ⟨d,c,rfl,hS⟩ hM hf1;have hM:fk b d c=some z:=hM;unfold fk at hM;refine az ?_;refine ah hS fun a hS=>?_;rcases cd hM with⟨o,hM⟩|⟨o,hM⟩
  ·refine ah hS fun a hS=>?_;refine az ?_;refine ah hS fun a hS=>?_;refine az ?_;refine jV ?_;refine ah hS fun a hS=>?_;obtain⟨r,i,hM⟩:=bd hM;refine qy hS (yB hS Tryz.underlying9 rfl rfl i) fun a hS=>?_;refine ah hS fun a hS=>?_;rcases cd hM with⟨h,hM⟩|⟨h,hM⟩
   ·exact fz
   refine ah hS fun a hS=>?_;obtain⟨t,j,hM⟩:=bd hM;refine qg hS h (yB hS Tryz.underlying9 rfl rfl j) fun a hS=>?_;refine ah hS fun a hS=>?_;rcases cd hM with⟨p,hM⟩|⟨p,hM⟩
   ·exact fz
   refine ah hS fun a hS=>?_;obtain⟨u,k,hM⟩:=bd hM;refine qy hS (yB hS Tryz.underlying9 rfl rfl k) fun a hS=>?_;refine ah hS fun a hS=>?_;exact⟨_,(Option.some.inj hM).symm,_,_,rfl,hS.mt [] []⟩
  exact fz
 rintro a w ⟨f,hS,hM⟩;unfold fj at hM;exact fz
def fW (c:Int) (b:Bool):Option Int:=cond b (some (c)) (some ((-1)))
def f7 (c:ae):Option Int:=(iW c.Text).bind fun b=>cond (decide ((30:Int)≤c.Kind)) (cond (decide ((c.Kind:Int)≤32)) (fW b (decide ((b:Int)≤99))) (fW b false)) (fW b false)
theorem mp (T:Nat→Prop) (W0:World) (hT:TW T W0) (c:ae) (y:Int) (hM:f7 c=some y):aW Tryz.prog No 79 [.agg (aM c).toArray] W0 (fun v w'=>v = .int .i64 y):=by
 refine en Tryz.func79 Tryz.ntmps79 hT fun a hS=>?_;unfold f7 at hM;refine ah hS fun a hS=>?_;refine kb hS fun f g a w hk hS=>?_;refine ah hS fun a hS=>?_;refine az ?_;refine ah hS fun a hS=>?_;obtain⟨d,e,hM⟩:=bd hM;refine kc hS FM (qO _ _ hS.dlt c.Text _ e) fun _ w hR a hk hA=>?_;obtain rfl:=hR;have hS:=bV hA;refine ah hS fun a hS=>?_;refine aG (J:=fun a w=>∃ (b:Bool),St W0 No T 20 [(3,.int .i64 d),(18,.bool b)] [] [] a w∧fW d b=some y) ?_ ?_
 ·exact fz
 rintro a w ⟨b,hS,hM⟩;unfold fW at hM;exact fz
def ee (b:Bool):Option Bool:=some (b)
def jz (b:ae) (c:Bool):Option Bool:=cond c ((f7 b).bind fun d=>some (decide ((0:Int)≤d))) (cond (decide ((1:Int)≤b.Kind)) (cond (decide ((b.Kind:Int)≤22)) (cond (decide (((b.Text.size:Int):Int)≤1073741824)) (cond (b.Text.toList == (ByteArray.mk #[]).toList) (ee true) (cond ((b.Kind:Int) != 1) (ee ((b.Kind:Int) != 21)) (ee false))) (ee false)) (ee false)) (ee false))
def dM (b:ae):Option Bool:=cond (decide ((30:Int)≤b.Kind)) (jz b (decide ((b.Kind:Int)≤32))) (jz b false)
theorem kO (T:Nat→Prop) (W0:World) (hT:TW T W0) (b:ae) (y:Bool) (hM:dM b=some y):aW Tryz.prog No 46 [.agg (aM b).toArray] W0 (fun v w'=>v = .bool y):=by
 refine en Tryz.func46 Tryz.ntmps46 hT fun a hS=>?_;unfold dM at hM;refine ah hS fun a hS=>?_;refine kb hS fun e h a w hk hS=>?_;refine ah hS fun a hS=>?_;refine az ?_;refine aG (J:=fun a w=>∃ (d:Bool),St W0 No T 43 [(1,pt e 0),(10,.bool d)] [.box e (aM b) 44] [] a w∧jz b d=some y) ?_ ?_
 ·exact fz
 rintro a w ⟨d,hS,hM⟩;unfold jz at hM;rcases cd hM with⟨g,hM⟩|⟨g,hM⟩
 ·refine ah hS fun a hS=>?_;obtain⟨i,f,hM⟩:=bd hM;refine kc hS Ew (mp _ _ hS.dlt b _ f) fun _ w hR a hk hA=>?_;obtain rfl:=hR;have hS:=bV hA;exact fz
 refine ah hS fun a hS=>?_;refine aG (J:=fun a w=>∃ (c:Bool),St W0 No T 43 [(2,.bool c)] [] [] a w∧ee c=some y) ?_ ?_
 ·exact fz
 rintro a w ⟨c,hS,hM⟩;unfold ee at hM;exact fz
def gQ (b:Bool):Option Bool:=some (b)
def ce (b:ae):Option Bool:=cond ((b.Kind:Int) == 1) (gQ true) (cond ((b.Kind:Int) == 2) (gQ true) (gQ ((b.Kind:Int) == 30)))
theorem c8 (T:Nat→Prop) (W0:World) (hT:TW T W0) (c:ae) (y:Bool) (hM:ce c=some y):aW Tryz.prog No 47 [.agg (aM c).toArray] W0 (fun v w'=>v = .bool y):=by
 refine en Tryz.func47 Tryz.ntmps47 hT fun a hS=>?_;unfold ce at hM;refine ah hS fun a hS=>?_;refine kb hS fun d e a w hk hS=>?_;refine ah hS fun a hS=>?_;refine aG (J:=fun a w=>∃ (b:Bool),St W0 No T 16 [(2,.bool b)] [] [] a w∧gQ b=some y) ?_ ?_
 ·exact fz
 rintro a w ⟨b,hS,hM⟩;unfold gQ at hM;exact fz
def iV (b:ae) (c:ae):Option Int:=cond (decide ((b.Kind:Int) < c.Kind)) (some ((-1))) (cond (decide ((c.Kind:Int) < b.Kind)) (some (1)) ((pW b.Text c.Text).bind fun d=>some (d)))
theorem lQ (T:Nat→Prop) (W0:World) (hT:TW T W0) (hLv:cU T W0) (b:ae) (c:ae) (y:Int) (hM:iV b c=some y):aW Tryz.prog No 48 [.agg (aM b).toArray,.agg (aM c).toArray] W0 (fun v w'=>v = .int .i64 y):=by
 refine en Tryz.func48 Tryz.ntmps48 hT fun a hS=>?_;replace hS:=hS.fact bv (cU.dn hLv);unfold iV at hM;refine ah hS fun a hS=>?_;refine kb hS fun g i a w hk hS=>?_;refine kb hS fun h j a w hk hS=>?_;refine ah hS fun a hS=>?_;refine az ?_;refine ah hS fun a hS=>?_;rcases cd hM with⟨e,hM⟩|⟨e,hM⟩
 ·exact fz
 refine ah hS fun a hS=>?_;rcases cd hM with⟨f,hM⟩|⟨f,hM⟩
 ·exact fz
 refine ah hS fun a hS=>?_;obtain⟨k,d,hM⟩:=bd hM;refine kc hS IQ (uE _ _ hS.dlt (hS.get 0 rfl) b.Text c.Text _ d) fun _ w hR a hk hA=>?_;obtain rfl:=hR;have hS:=bV hA;exact fz
def eK (b:Bool):Option Bool:=some (b)
def oq (b:Int):Option Bool:=cond ((b:Int) == 7) (eK true) (cond ((b:Int) == 14) (eK true) (cond ((b:Int) == 17) (eK true) (eK ((b:Int) == 18))))
theorem vZ (T:Nat→Prop) (W0:World) (hT:TW T W0) (c:Int) (y:Bool) (hM:oq c=some y):aW Tryz.prog No 126 [.int .i64 c] W0 (fun v w'=>v = .bool y):=by
 refine en Tryz.func126 Tryz.ntmps126 hT fun a hS=>?_;unfold oq at hM;refine ah hS fun a hS=>?_;refine aG (J:=fun a w=>∃ (b:Bool),St W0 No T 17 [(2,.bool b)] [] [] a w∧eK b=some y) ?_ ?_
 ·exact fz
 rintro a w ⟨b,hS,hM⟩;unfold eK at hM;exact fz
def eL (b:Bool):Option Bool:=some (b)
def bX (b:ae):Option Bool:=cond ((b.Kind:Int) == 32) (eL true) (cond (decide ((1:Int)≤b.Kind)) (cond (decide ((b.Kind:Int)≤22)) ((oq b.Kind).bind fun c=>eL c) (eL false)) (eL false))
theorem cm (T:Nat→Prop) (W0:World) (hT:TW T W0) (d:ae) (y:Bool) (hM:bX d=some y):aW Tryz.prog No 90 [.agg (aM d).toArray] W0 (fun v w'=>v = .bool y):=by
 refine en Tryz.func90 Tryz.ntmps90 hT fun a hS=>?_;unfold bX at hM;refine ah hS fun a hS=>?_;refine kb hS fun h i a w hk hS=>?_;refine ah hS fun a hS=>?_;refine aG (J:=fun a w=>∃ (b:Bool),St W0 No T 21 [(2,.bool b)] [] [] a w∧eL b=some y) ?_ ?_
 ·skip;refine ah hS fun a hS=>?_;rcases cd hM with⟨f,hM⟩|⟨f,hM⟩
  ·exact fz
  refine ah hS fun a hS=>?_;rcases cd hM with⟨g,hM⟩|⟨g,hM⟩
  ·refine ah hS fun a hS=>?_;rcases cd hM with⟨c,hM⟩|⟨c,hM⟩
   ·refine ah hS fun a hS=>?_;obtain⟨j,e,hM⟩:=bd hM;refine wg hS rfl rfl rfl c (a8 hS Im rfl rfl (vZ _ _ hS.dlt d.Kind _ e) fun _ w hR a hk hA=>?_);obtain rfl:=hR;have hS:=bV hA;exact fz
   exact fz
  exact fz
 rintro a w ⟨b,hS,hM⟩;unfold eL at hM;exact fz
def bY (b:Bool):Option Bool:=some (b)
def jD (b:an):Option Bool:=(dM b.Key).bind fun c=>cond c ((ce b.Key).bind fun d=>cond (!(d)) (cond (decide (((b.Value.size:Int):Int)≤1073741824)) (cond (decide ((b.Reads.length:Int)≤4000)) (cond (decide ((0:Int)≤b.Changed)) (cond (decide ((b.Changed:Int)≤b.Verified)) (cond (decide ((b.Verified:Int)≤1073741824)) (cond (decide ((1:Int)≤b.Cost)) (cond (decide ((b.Cost:Int)≤1073741824)) (cond (!(b.Dirty)) (bY true) ((bX b.Key).bind fun e=>bY e)) (bY false)) (bY false)) (bY false)) (bY false)) (bY false)) (bY false)) (bY false)) (bY false)) (bY false)
def jE (c:an) (b:Int):Option (Fl (Int) (Fl (Unit) Bool)):=cond (decide ((b:Int) < (c.Reads.length:Int))) ((be c.Reads b).bind fun d=>(dM d).bind fun e=>cond (!(e)) (some (.out (.out false))) (some (.go (IntKind.i64.wrap (b + 1))))) (some (.out (.go ())))
def nP (b:an):Option Bool:=(loop (fun s:Int=>jE b s) 0).bind fun r=>Fl.el r (fun s=>jD b) (fun y=>some (y))
theorem wV (T:Nat→Prop) (W0:World) (hT:TW T W0) (b:an) (f:Value) (D:aA ac T W0 f b.Reads) (y:Bool) (hM:nP b=some y):aW Tryz.prog No 81 [.agg (a6 b f).toArray] W0 (fun v w'=>v = .bool y):=by
 refine en Tryz.func81 Tryz.ntmps81 hT fun a hS=>?_;replace hS:=hS.fS (aA.dn D);unfold nP at hM;refine ah hS fun a hS=>?_;refine kb hS fun c I a w hk hS=>?_;refine ah hS fun a hS=>?_;refine aG (J:=fun a w=>St W0 No T 74 [(1,pt c 0)] [.box c (a6 b f) 84] [aJ ac f b.Reads] a w∧jD b=some y) ?_ ?_
 ·skip;refine ah hS fun a hS=>?_;obtain⟨Q,C,hMo1⟩:=bd hM;refine bu _ (fun s a w=>∃ (d:Int),d=s∧St W0 No T 74 [(1,pt c 0),(6,f),(7,.int .i64 (b.Reads.length:Int)),(8,.int .i64 d)] [.box c (a6 b f) 84] [aJ ac f b.Reads] a w) C ⟨_,rfl,hS.mt [0] [0]⟩ ?_;rintro s a w H ⟨d,rfl,hS⟩ hM hf1;have hM:jE b d=some H:=hM;unfold jE at hM;refine ah hS fun a hS=>?_;refine az ?_;rcases cd hM with⟨o,hM⟩|⟨o,hM⟩
  ·refine ah hS fun a hS=>?_;refine az ?_;refine ah hS fun a hS=>?_;obtain⟨n,i,hM⟩:=bd hM;refine wl rfl (bc (R:=ac) hS jd dd rfl rfl 0 rfl i rfl fun E L G p a hS=>?_);obtain rfl:=p;refine ah hS fun a hS=>?_;refine ka hS gh fun F K a w hk hS=>?_;refine go hS fun a w hS=>?_;obtain⟨P,m,hM⟩:=bd hM;refine kc hS CL (kO _ _ hS.dlt n _ m) fun _ w hR a hk hA=>?_;obtain rfl:=hR;have hS:=bV hA;exact fz
  exact fz
 rintro a w ⟨hS,hM⟩;unfold jD at hM;refine aG (J:=fun a w=>∃ (e:Bool),St W0 No T 74 [(2,.bool e)] [] [] a w∧bY e=some y) ?_ ?_
 ·skip;refine ah hS fun a hS=>?_;obtain⟨M,j,hM⟩:=bd hM;refine kc hS CL (kO _ _ hS.dlt b.Key _ j) fun _ w hR a hk hA=>?_;obtain rfl:=hR;have hS:=bV hA;refine ah hS fun a hS=>?_;rcases cd hM with⟨g,hM⟩|⟨g,hM⟩
  ·refine ah hS fun a hS=>?_;obtain⟨N,k,hM⟩:=bd hM;refine wg hS rfl rfl rfl g (a8 hS vq rfl rfl (c8 _ _ hS.dlt b.Key _ k) fun _ w hR a hk hA=>?_);obtain rfl:=hR;have hS:=bV hA;refine ah hS fun a hS=>?_;rcases cd hM with⟨q,hM⟩|⟨q,hM⟩
   ·refine ah hS fun a hS=>?_;rcases cd hM with⟨r,hM⟩|⟨r,hM⟩
    ·refine ah hS fun a hS=>?_;rcases cd hM with⟨t,hM⟩|⟨t,hM⟩
     ·refine ah hS fun a hS=>?_;rcases cd hM with⟨u,hM⟩|⟨u,hM⟩
      ·refine ah hS fun a hS=>?_;rcases cd hM with⟨x,hM⟩|⟨x,hM⟩
       ·refine ah hS fun a hS=>?_;rcases cd hM with⟨z,hM⟩|⟨z,hM⟩
        ·refine ah hS fun a hS=>?_;rcases cd hM with⟨A,hM⟩|⟨A,hM⟩
         ·refine ah hS fun a hS=>?_;rcases cd hM with⟨B,hM⟩|⟨B,hM⟩
          ·refine ah hS fun a hS=>?_;rcases cd hM with⟨h,hM⟩|⟨h,hM⟩
           ·exact fz
           refine ah hS fun a hS=>?_;obtain⟨O,l,hM⟩:=bd hM;refine wg hS rfl rfl rfl h (a8 hS tW rfl rfl (cm _ _ hS.dlt b.Key _ l) fun _ w hR a hk hA=>?_);obtain rfl:=hR;have hS:=bV hA;exact fz
          exact fz
         exact fz
        exact fz
       exact fz
      exact fz
     exact fz
    exact fz
   exact fz
  exact fz
 rintro a w ⟨e,hS,hM⟩;unfold bY at hM;exact fz
def lE (b:LR):Option Bool:=some (decide ((b.length:Int)≤4000))
def dg (b:Int) (c:Bool):Option (Fl (Int) (Fl (Unit) Bool)):=cond c (some (.out (.out false))) (some (.go (IntKind.i64.wrap (b + 1))))
def fC (d:LR) (b:Int):Option (Fl (Int) (Fl (Unit) Bool)):=cond (decide ((b:Int) < (d.length:Int))) ((be d b).bind fun c=>(nP c).bind fun f=>cond (!(f)) (dg b true) (cond (decide ((0:Int) < b)) ((be d (IntKind.i64.wrap (b - 1))).bind fun e=>(iV e.Key c.Key).bind fun g=>dg b (decide ((0:Int)≤g))) (dg b false))) (some (.out (.go ())))
def iF (b:LR):Option Bool:=(loop (fun s:Int=>fC b s) 0).bind fun r=>Fl.el r (fun s=>lE b) (fun y=>some (y))
theorem tC (T:Nat→Prop) (W0:World) (hT:TW T W0) (hLv:cU T W0) (b:LR) (d:Value) (C:aA aa T W0 d b) (y:Bool) (hM:iF b=some y):aW Tryz.prog No 49 [d] W0 (fun v w'=>v = .bool y):=by
 refine en Tryz.func49 Tryz.ntmps49 hT fun a hS=>?_;replace hS:=(hS.fact bv (cU.dn hLv)).fS (aA.dn C);unfold iF at hM;refine ah hS fun a hS=>?_;refine aG (J:=fun a w=>St W0 No T 35 [(0,d)] [] [aJ aa d b,bv] a w∧lE b=some y) ?_ ?_
 ·skip;refine ah hS fun a hS=>?_;obtain⟨O,k,hMo1⟩:=bd hM;refine bu _ (fun s a w=>∃ (c:Int),c=s∧St W0 No T 35 [(0,d),(5,d),(6,.int .i64 (b.length:Int)),(7,.int .i64 c)] [] [aJ aa d b,bv] a w) k ⟨_,rfl,hS.mt [] [0,1]⟩ ?_;rintro s a w B ⟨c,rfl,hS⟩ hM hf1;have hM:fC b c=some B:=hM;unfold fC at hM;refine ah hS fun a hS=>?_;refine az ?_;rcases cd hM with⟨r,hM⟩|⟨r,hM⟩
  ·refine ah hS fun a hS=>?_;refine az ?_;refine ah hS fun a hS=>?_;obtain⟨g,h,hM⟩:=bd hM;refine wl rfl (bc (R:=aa) hS n4 k8 rfl rfl 0 rfl h rfl fun D I F t a hS=>?_);obtain⟨M,rfl,n⟩:=t;replace hS:=hS.fS n;refine ah hS fun a hS=>?_;refine ka hS ft fun E H a w hk hS=>?_;refine go hS fun a w hS=>?_;refine aG (J:=fun a w=>∃ (e:Bool),St W0 No T 35 [(0,d),(5,d),(6,.int .i64 (b.length:Int)),(7,.int .i64 c),(30,.bool e)] [] [aJ aa d b,bv] a w∧dg c e=some B) ?_ ?_
   ·skip;refine dr [] hS fun w hQ hS=>?_;refine gE [0] hS fun a hS=>?_;obtain⟨K,l,hM⟩:=bd hM;refine ec 1 hS Kf (wV _ _ hS.dlt g _ (hS.get 0 rfl) _ l) fun _ w hR a hk hA=>?_;obtain rfl:=hR;have hS:=bV hA;refine gE [2,3] hS fun a hS=>?_;rcases cd hM with⟨u,hM⟩|⟨u,hM⟩
    ·refine gE [4,5,6,7,8,9,10,11,12,13,14,15,16,17,18] hS fun a hS=>?_;refine eD ?_;exact⟨_,hS.mt [] [2,3],hM⟩
    refine gE [4,5,6] hS fun a hS=>?_;rcases cd hM with⟨f,hM⟩|⟨f,hM⟩
    ·refine gE [7,8,9] hS fun a hS=>?_;obtain⟨q,j,hM⟩:=bd hM;obtain⟨p,A,G,x,z,hS⟩:=il (R:=aa) hS n4 k8 2 rfl j;obtain⟨N,rfl,o⟩:=x;replace hS:=hS.fS o;refine vG 10 (v:=pt p A) rfl (by kernel_rfl) (by kernel_rfl) (by kernel_rfl) rfl hQ hS (z rfl rfl) rfl rfl rfl f rfl rfl fun a hS=>?_;refine gE [11,12,13,14] hS fun a hS=>?_;obtain⟨L,m,hM⟩:=bd hM;refine cy (i:=15) rfl (by kernel_rfl) hS rfl rfl rfl f (a8 hS BI rfl rfl (lQ _ _ hS.dlt (hS.get 5 rfl) q.Key g.Key _ m) fun _ w hR a hk hA=>⟨fc (hk),?_⟩);obtain rfl:=hR;have hS:=bV hA;refine gE [16,17,18] hS fun a hS=>?_;refine eD ?_;exact⟨_,hS.mt [] [4,5],hM⟩
    refine gE [7,8,9,10,11,12,13,14,15,16,17,18] hS fun a hS=>?_;refine eD ?_;exact⟨_,hS.mt [] [2,3],hM⟩
   rintro a w ⟨e,hS,hM⟩;unfold dg at hM;exact fz
  exact fz
 rintro a w ⟨hS,hM⟩;unfold lE at hM;exact fz
def gT (b:Bool):Option Bool:=some (b)
def jH (b:ai):Option Bool:=cond (decide ((0:Int)≤b.Revision)) (cond (decide ((b.Revision:Int)≤1073741824)) (cond (decide ((b.Inputs.length:Int)≤64)) ((iF b.Records).bind fun c=>gT c) (gT false)) (gT false)) (gT false)
def jJ (c:ai) (b:Int):Option (Fl (Int) (Fl (Unit) Bool)):=cond (decide ((b:Int) < (c.Records.length:Int))) ((be c.Records b).bind fun d=>cond (decide ((c.Revision:Int) < d.Verified)) (some (.out (.out false))) (some (.go (IntKind.i64.wrap (b + 1))))) (some (.out (.go ())))
def jI (b:ai):Option Bool:=(loop (fun s:Int=>jJ b s) 0).bind fun r=>Fl.el r (fun s=>jH b) (fun y=>some (y))
def cp (b:Int) (c:Bool):Option (Fl (Int) (Fl (Unit) Bool)):=cond c (some (.out (.out false))) (some (.go (IntKind.i64.wrap (b + 1))))
def jK (d:ai) (b:Int):Option (Fl (Int) (Fl (Unit) Bool)):=cond (decide ((b:Int) < (d.Inputs.length:Int))) ((be d.Inputs b).bind fun c=>(dM c.Key).bind fun f=>cond (!(f)) (cp b true) ((ce c.Key).bind fun g=>cond (!(g)) (cp b true) (cond (decide ((0:Int) < b)) ((be d.Inputs (IntKind.i64.wrap (b - 1))).bind fun e=>(iV e.Key c.Key).bind fun h=>cond (decide ((0:Int)≤h)) (cp b true) (cond (decide ((1073741824:Int) < (c.Value.size:Int))) (cp b true) (cond (decide ((c.Changed:Int) < 0)) (cp b true) (cp b (decide ((d.Revision:Int) < c.Changed)))))) (cond (decide ((1073741824:Int) < (c.Value.size:Int))) (cp b true) (cond (decide ((c.Changed:Int) < 0)) (cp b true) (cp b (decide ((d.Revision:Int) < c.Changed)))))))) (some (.out (.go ())))
def jG (b:ai):Option Bool:=(loop (fun s:Int=>jK b s) 0).bind fun r=>Fl.el r (fun s=>jI b) (fun y=>some (y))
theorem pJ (T:Nat→Prop) (W0:World) (hT:TW T W0) (hLv:cU T W0) (b:ai) (d:Value) (f:Value) (W:aA ad T W0 d b.Inputs) (X:aA aa T W0 f b.Records) (y:Bool) (hM:jG b=some y):aW Tryz.prog No 22 [.agg (aQ b d f).toArray] W0 (fun v w'=>v = .bool y):=by
 refine en Tryz.func22 Tryz.ntmps22 hT fun a hS=>?_;replace hS:=((hS.fact bv (cU.dn hLv)).fS (aA.dn W)).fS (aA.dn X);unfold jG at hM;refine ah hS fun a hS=>?_;refine kb hS fun c a9 a w hk hS=>?_;refine ah hS fun a hS=>?_;refine aG (J:=fun a w=>St W0 No T 93 [(1,pt c 0)] [.box c (aQ b d f) 31] [aJ ad d b.Inputs,aJ aa f b.Records,bv] a w∧jI b=some y) ?_ ?_
 ·skip;refine ah hS fun a hS=>?_;obtain⟨r1,o,hMo1⟩:=bd hM;refine bu _ (fun s a w=>∃ (e:Int),e=s∧St W0 No T 93 [(1,pt c 0),(8,d),(9,.int .i64 (b.Inputs.length:Int)),(10,.int .i64 e)] [.box c (aQ b d f) 31] [aJ ad d b.Inputs,aJ aa f b.Records,bv] a w) o ⟨_,rfl,hS.mt [0] [1,0,2]⟩ ?_;rintro s a w p ⟨e,rfl,hS⟩ hM hf1;have hM:jK b e=some p:=hM;unfold jK at hM;refine ah hS fun a hS=>?_;refine az ?_;rcases cd hM with⟨E,hM⟩|⟨E,hM⟩
  ·refine ah hS fun a hS=>?_;refine az ?_;refine ah hS fun a hS=>?_;obtain⟨h,r,hM⟩:=bd hM;refine wl rfl (bc (R:=ad) hS sg rL rfl rfl 0 rfl r rfl fun Y ag a2 F a hS=>?_);obtain rfl:=F;refine ah hS fun a hS=>?_;refine ka hS qV fun Z ab a w hk hS=>?_;refine go hS fun a w hS=>?_;refine aG (J:=fun a w=>∃ (k:Bool),St W0 No T 93 [(1,pt c 0),(8,d),(9,.int .i64 (b.Inputs.length:Int)),(10,.int .i64 e),(59,.bool k)] [.box c (aQ b d f) 31] [aJ ad d b.Inputs,aJ aa f b.Records,bv] a w∧cp e k=some p) ?_ ?_
   ·skip;refine dr [] hS fun w hQ hS=>?_;refine gE [0,1] hS fun a hS=>?_;obtain⟨ax,x,hM⟩:=bd hM;refine ec 2 hS CL (kO _ _ hS.dlt h.Key _ x) fun _ w hR a hk hA=>?_;obtain rfl:=hR;have hS:=bV hA;refine gE [3,4] hS fun a hS=>?_;rcases cd hM with⟨m,hM⟩|⟨m,hM⟩
    ·refine gE [5,6,7,8,9,10,11,12,13,14,15,16,17,18,19,20,21,22,23,24,25,26,27,28,29,30,31,32,33,34,35,36,37,38,39,40,41,42,43,44] hS fun a hS=>?_;refine eD ?_;exact⟨_,hS.mt [1] [1,2,3],hM⟩
    refine gE [5,6] hS fun a hS=>?_;obtain⟨b0,z,hM⟩:=bd hM;refine cy (i:=7) rfl (by kernel_rfl) hS rfl rfl rfl m (a8 hS vq rfl rfl (c8 _ _ hS.dlt h.Key _ z) fun _ w hR a hk hA=>⟨fc (hk),?_⟩);obtain rfl:=hR;have hS:=bV hA;refine gE [8,9,10] hS fun a hS=>?_;rcases cd hM with⟨G,hM⟩|⟨G,hM⟩
    ·refine gE [11,12,13,14,15,16,17,18,19,20,21,22,23,24,25,26,27,28,29,30,31,32,33,34,35,36,37,38,39,40,41,42,43,44] hS fun a hS=>?_;refine eD ?_;exact⟨_,hS.mt [1] [1,2,3],hM⟩
    refine gE [11,12,13] hS fun a hS=>?_;rcases cd hM with⟨l,hM⟩|⟨l,hM⟩
    ·refine gE [14,15,16,17] hS fun a hS=>?_;obtain⟨D,t,hM⟩:=bd hM;obtain⟨C,V,a3,H,I,hS⟩:=il (R:=ad) hS sg rL 1 rfl t;obtain rfl:=H;refine vG 18 (v:=pt C V) rfl (by kernel_rfl) (by kernel_rfl) (by kernel_rfl) rfl hQ hS (I rfl rfl) rfl rfl rfl l rfl rfl fun a hS=>?_;refine gE [19,20,21,22] hS fun a hS=>?_;obtain⟨b1,A,hM⟩:=bd hM;refine cy (i:=23) rfl (by kernel_rfl) hS rfl rfl rfl l (a8 hS BI rfl rfl (lQ _ _ hS.dlt (hS.get 4 rfl) D.Key h.Key _ A) fun _ w hR a hk hA=>⟨fc (hk),?_⟩);obtain rfl:=hR;have hS:=bV hA;refine gE [24,25,26,27] hS fun a hS=>?_;rcases cd hM with⟨K,hM⟩|⟨K,hM⟩
     ·refine gE [28,29,30,31,32,33,34,35,36,37,38,39,40,41,42,43,44] hS fun a hS=>?_;refine eD ?_;exact⟨_,hS.mt [1] [2,3,4],hM⟩
     refine gE [28,29,30,31,32,33] hS fun a hS=>?_;rcases cd hM with⟨L,hM⟩|⟨L,hM⟩
     ·refine gE [34,35,36,37,38,39,40,41,42,43,44] hS fun a hS=>?_;refine eD ?_;exact⟨_,hS.mt [1] [2,3,4],hM⟩
     refine gE [34,35,36,37,38] hS fun a hS=>?_;rcases cd hM with⟨M,hM⟩|⟨M,hM⟩
     ·refine gE [39,40,41,42,43,44] hS fun a hS=>?_;refine eD ?_;exact⟨_,hS.mt [1] [2,3,4],hM⟩
     refine gE [39,40,41,42,43,44] hS fun a hS=>?_;refine eD ?_;exact⟨_,hS.mt [1] [2,3,4],hM⟩
    refine gE [14,15,16,17,18,19,20,21,22,23,24,25,26,27,28,29,30,31,32,33] hS fun a hS=>?_;rcases cd hM with⟨N,hM⟩|⟨N,hM⟩
    ·refine gE [34,35,36,37,38,39,40,41,42,43,44] hS fun a hS=>?_;refine eD ?_;exact⟨_,hS.mt [1] [1,2,3],hM⟩
    refine gE [34,35,36,37,38] hS fun a hS=>?_;rcases cd hM with⟨O,hM⟩|⟨O,hM⟩
    ·refine gE [39,40,41,42,43,44] hS fun a hS=>?_;refine eD ?_;exact⟨_,hS.mt [1] [1,2,3],hM⟩
    refine gE [39,40,41,42,43,44] hS fun a hS=>?_;refine eD ?_;exact⟨_,hS.mt [1] [1,2,3],hM⟩
   rintro a w ⟨k,hS,hM⟩;unfold cp at hM;exact fz
  exact fz
 rintro a w ⟨hS,hM⟩;unfold jI at hM;refine aG (J:=fun a w=>St W0 No T 93 [(1,pt c 0)] [.box c (aQ b d f) 31] [aJ ad d b.Inputs,aJ aa f b.Records,bv] a w∧jH b=some y) ?_ ?_
 ·skip;refine ah hS fun a hS=>?_;obtain⟨r1,o,hMo1⟩:=bd hM;refine bu _ (fun s a w=>∃ (g:Int),g=s∧St W0 No T 93 [(1,pt c 0),(62,f),(63,.int .i64 (b.Records.length:Int)),(64,.int .i64 g)] [.box c (aQ b d f) 31] [aJ aa f b.Records,aJ ad d b.Inputs,bv] a w) o ⟨_,rfl,hS.mt [0] [1,0,2]⟩ ?_;rintro s a w p ⟨g,rfl,hS⟩ hM hf1;have hM:jJ b g=some p:=hM;unfold jJ at hM;refine ah hS fun a hS=>?_;refine az ?_;rcases cd hM with⟨P,hM⟩|⟨P,hM⟩
  ·refine ah hS fun a hS=>?_;refine az ?_;refine ah hS fun a hS=>?_;obtain⟨a5,q,hM⟩:=bd hM;refine wl rfl (bc (R:=aa) hS n4 k8 rfl rfl 0 rfl q rfl fun a0 ak a4 Q a hS=>?_);obtain⟨b2,rfl,B⟩:=Q;replace hS:=hS.fS B;refine ah hS fun a hS=>?_;refine ka hS ft fun a1 af a w hk hS=>?_;exact fz
  exact fz
 rintro a w ⟨hS,hM⟩;unfold jH at hM;refine aG (J:=fun a w=>∃ (j:Bool),St W0 No T 93 [(2,.bool j)] [] [bv] a w∧gT j=some y) ?_ ?_
 ·skip;refine ah hS fun a hS=>?_;rcases cd hM with⟨S,hM⟩|⟨S,hM⟩
  ·refine ah hS fun a hS=>?_;rcases cd hM with⟨U,hM⟩|⟨U,hM⟩
   ·refine ah hS fun a hS=>?_;rcases cd hM with⟨n,hM⟩|⟨n,hM⟩
    ·refine ah hS fun a hS=>?_;obtain⟨av,u,hM⟩:=bd hM;refine wg hS rfl rfl rfl n (a8 hS JX rfl rfl (tC _ _ hS.dlt (hS.get 2 rfl) b.Records _ (hS.get 1 rfl) _ u) fun _ w hR a hk hA=>?_);obtain rfl:=hR;have hS:=bV hA;exact fz
    exact fz
   exact fz
  exact fz
 rintro a w ⟨j,hS,hM⟩;unfold gT at hM;exact fz
def pK (b:ae):Option aI:=some ((aI.mk b (ByteArray.mk #[]) 0))
def fb (d:ai) (e:ae) (c:Int):Option (Fl (Int) (Fl (Unit) aI)):=cond (decide ((c:Int) < (d.Inputs.length:Int))) ((be d.Inputs c).bind fun b=>cond ((b.Key.Kind:Int) == e.Kind && b.Key.Text.toList == e.Text.toList) (some (.out (.out b))) (some (.go (IntKind.i64.wrap (c + 1))))) (some (.out (.go ())))
def na (c:ai) (b:ae):Option aI:=(loop (fun s:Int=>fb c b s) 0).bind fun r=>Fl.el r (fun s=>pK b) (fun y=>some (y))
theorem tD (T:Nat→Prop) (W0:World) (hT:TW T W0) (c:ai) (b:ae) (i:Value) (p:Value) (n:aA ad T W0 i c.Inputs) (o:aA aa T W0 p c.Records) (y:aI) (hM:na c b=some y):aW Tryz.prog No 42 [.agg (aQ c i p).toArray,.agg (aM b).toArray] W0 (fun v w'=>v = .agg (mW y).toArray):=by
 refine en Tryz.func42 Tryz.ntmps42 hT fun a hS=>?_;replace hS:=(hS.fS (aA.dn n)).fS (aA.dn o);unfold na at hM;refine ah hS fun a hS=>?_;refine kb hS fun q z a w hk hS=>?_;refine kb hS fun d A a w hk hS=>?_;refine ka hS qV fun e B a w hk hS=>?_;refine ah hS fun a hS=>?_;refine aG (J:=fun a w=>St W0 No T 22 [(3,pt d 0),(4,pt e 0)] [.box d (aM b) 44,.box e [.int .i64 0,.string (ByteArray.mk #[]),.string (ByteArray.mk #[]),.int .i64 0] 69] [] a w∧pK b=some y) ?_ ?_
 ·skip;refine ah hS fun a hS=>?_;obtain⟨E,m,hMo1⟩:=bd hM;refine bu _ (fun s a w=>∃ (f:Int),f=s∧St W0 No T 22 [(3,pt d 0),(4,pt e 0),(8,i),(9,.int .i64 (c.Inputs.length:Int)),(10,.int .i64 f)] [.box d (aM b) 44,.box e [.int .i64 0,.string (ByteArray.mk #[]),.string (ByteArray.mk #[]),.int .i64 0] 69] [aJ ad i c.Inputs] a w) m ⟨_,rfl,hS.mt [1,0] [1]⟩ ?_;rintro s a w x ⟨f,rfl,hS⟩ hM hf1;have hM:fb c b f=some x:=hM;unfold fb at hM;refine ah hS fun a hS=>?_;refine az ?_;rcases cd hM with⟨j,hM⟩|⟨j,hM⟩
  ·refine ah hS fun a hS=>?_;refine az ?_;refine ah hS fun a hS=>?_;obtain⟨g,h,hM⟩:=bd hM;refine wl rfl (bc (R:=ad) hS sg rL rfl rfl 0 rfl h rfl fun r D u k a hS=>?_);obtain rfl:=k;refine ah hS fun a hS=>?_;refine ka hS qV fun t C a w hk hS=>?_;refine go hS fun a w hS=>?_;refine wl rfl (ky (v:=.bool ((g.Key.Kind:Int) == b.Kind && g.Key.Text.toList == b.Text.toList)) hS (wP hS rfl rfl) rfl rfl fun a hS=>?_);refine ah hS fun a hS=>?_;rcases cd hM with⟨l,hM⟩|⟨l,hM⟩
   ·refine go hS fun a w hS=>?_;cases hM
    have hr:=hf1 _ rfl;subst hr;replace hMo1:=jo hMo1;have hM:=hMo1;cases hM
    refine aE hS rfl (rC 2 hS) ?_;exact rfl
   exact fz
  exact fz
 rintro a w ⟨hS,hM⟩;unfold pK at hM;refine ah hS fun a hS=>?_;refine qy hS (bj (ps:=[(0,.tmp 20)]) hS Du qV rfl (us:=[(aM b)]) ⟨rfl,trivial⟩ (ws:=[.int .i64 b.Kind,.string b.Text,.string (ByteArray.mk #[]),.int .i64 0]) rfl) fun a hS=>?_;refine go hS fun a w hS=>?_;cases hM
 refine aE hS rfl (rC 1 hS) ?_;exact rfl
def ki (c:ai) (d:ae):Option ByteArray:=(na c d).bind fun b=>some (b.Value)
theorem px (T:Nat→Prop) (W0:World) (hT:TW T W0) (b:ai) (c:ae) (g:Value) (h:Value) (e:aA ad T W0 g b.Inputs) (f:aA aa T W0 h b.Records) (y:ByteArray) (hM:ki b c=some y):aW Tryz.prog No 15 [.agg (aQ b g h).toArray,.agg (aM c).toArray] W0 (fun v w'=>v = .string y):=by
 refine en Tryz.func15 Tryz.ntmps15 hT fun a hS=>?_;replace hS:=(hS.fS (aA.dn e)).fS (aA.dn f);unfold ki at hM;refine ah hS fun a hS=>?_;refine kb hS fun i k a w hk hS=>?_;refine kb hS fun j l a w hk hS=>?_;refine ah hS fun a hS=>?_;obtain⟨m,d,hM⟩:=bd hM;refine kc hS IM (tD _ _ hS.dlt b c _ _ (hS.get 1 rfl) (hS.get 0 rfl) _ d) fun _ w hR a hk hA=>?_;obtain rfl:=hR;have hS:=bV hA;refine qy hS (wG hS rfl Tryz.underlying69 rfl rfl Fq rfl rfl (fun _=>rfl)) fun a hS=>?_;exact fz
def jF (b:ai) (c:ai) (e:Bool) (d:LI):Option (ai×Int):=cond (!(e)) (some ((b,0))) (cond (decide ((64:Int) < (d.length:Int))) (some ((b,45))) (cond (decide ((1073741824:Int) < (IntKind.i64.wrap (c.Revision + 1)))) (some ((b,3))) (some (((ai.mk (IntKind.i64.wrap (c.Revision + 1)) d c.Records),0)))))
def gS (c:Int) (b:Bool) (d:LI):Option (Fl (Bool×Int×LI) (Bool×LI)):=some (.go (b,IntKind.i64.wrap (c + 1),d))
def ej (b:Int) (c:LI):Option (Fl (Bool×Int×LI) (Bool×LI)):=gS b true c
def ek (e:ai) (d:Int) (b:aq) (c:LI) (f:Bool):Option (Fl (Bool×Int×LI) (Bool×LI)):=cond (!(f)) (gd (br (c.length + ([(aI.mk b.Key b.Value (IntKind.i64.wrap (e.Revision + 1)))]).length)) <| ej d (c ++ ([(aI.mk b.Key b.Value (IntKind.i64.wrap (e.Revision + 1)))]))) (ej d c)
def eo (b:Int) (c:LI) (d:Bool):Option (Fl (LI×Bool×Int) (LI×Bool)):=some (.go (c,d,IntKind.i64.wrap (b + 1)))
def ep (d:Int) (c:aI) (f:Int) (b:LI) (e:Bool):Option (Fl (LI×Bool×Int) (LI×Bool)):=cond ((f:Int) != 0) (gd (br (b.length + ([c]).length)) <| eo d (b ++ ([c])) e) (eo d b e)
def eu (f:ai) (b:aq) (c:LI) (i:Bool) (e:Int) (d:aI) (g:Int) (h:Bool):Option (Fl (LI×Bool×Int) (LI×Bool)):=cond h (gd (br (c.length + ([(aI.mk b.Key b.Value (IntKind.i64.wrap (f.Revision + 1)))]).length)) <| ep e d g (c ++ ([(aI.mk b.Key b.Value (IntKind.i64.wrap (f.Revision + 1)))])) true) (ep e d g c i)
def fE (i:ai) (h:LI) (d:aq) (f:LI) (c:Bool) (b:Int):Option (Fl (LI×Bool×Int) (LI×Bool)):=cond (decide ((b:Int) < (h.length:Int))) ((be h b).bind fun e=>(iV e.Key d.Key).bind fun g=>cond (decide ((0:Int)≤g)) (eu i d f c b e g (!(c))) (eu i d f c b e g false)) (some (.out (f,c)))
def mz (h:ai) (f:ai) (e:Bool) (c:Int) (d:LI) (b:aq) (g:Bool):Option (Fl (Bool×Int×LI) (Bool×LI)):=cond (!(g)) (gS c e d) ((ki h b.Key).bind fun i=>cond (i.toList == b.Value.toList) (gS c e d) ((loop (fun s:LI×Bool×Int=>fE f d b s.1 s.2.1 s.2.2) (([]:List aI),false,0)).bind fun r=>ek f c b r.1 r.2))
def li (c:aq) (e:LC) (f:Bool) (b:Int):Option (Fl (Bool×Int) (Bool)):=cond (decide ((b:Int) < (e.length:Int))) ((be e b).bind fun d=>cond f (some (.go (!((d.Key.Kind:Int) == c.Key.Kind && d.Key.Text.toList == c.Key.Text.toList),IntKind.i64.wrap (b + 1)))) (some (.go (false,IntKind.i64.wrap (b + 1))))) (some (.out f))
def lj (c:LC) (h:ai) (i:ai) (d:Bool) (b:Int) (f:LI):Option (Fl (Bool×Int×LI) (Bool×LI)):=cond (decide ((b:Int) < (c.length:Int))) ((be c b).bind fun e=>(oz c (IntKind.i64.wrap (b + 1)) c.length).bind fun g=>(loop (fun s:Bool×Int=>li e g s.1 s.2) (true,0)).bind fun r=>mz h i d b f e r) (some (.out (d,f)))
def iG (d:LC) (b:ai):Option (ai×Int):=(dX b).bind fun c=>(loop (fun s:Bool×Int×LI=>lj d b c s.1 s.2.1 s.2.2) (false,0,c.Inputs)).bind fun r=>jF b c r.1 r.2
def iI (c:LC) (e:ai) (b:Int):Option (Fl (Int) (Fl (Unit) (ai×Int))):=cond (decide ((b:Int) < (c.length:Int))) ((be c b).bind fun d=>cond (decide ((1073741824:Int) < (d.Value.size:Int))) (some (.out (.out (e,3)))) (some (.go (IntKind.i64.wrap (b + 1))))) (some (.out (.go ())))
def iH (c:LC) (b:ai):Option (ai×Int):=(loop (fun s:Int=>iI c b s) 0).bind fun r=>Fl.el r (fun s=>iG c b) (fun y=>some (y))
def iJ (e:LC) (d:ai) (b:Int):Option (Fl (Int) (Fl (Unit) (ai×Int))):=cond (decide ((b:Int) < (e.length:Int))) ((be e b).bind fun c=>(dM c.Key).bind fun f=>cond (!(f)) (some (.out (.out (d,40)))) ((ce c.Key).bind fun g=>cond (!(g)) (some (.out (.out (d,40)))) (some (.go (IntKind.i64.wrap (b + 1)))))) (some (.out (.go ())))
def lT (e:ai) (c:LC):Option (ai×Int):=(dX e).bind fun b=>(jG b).bind fun d=>cond (!(d)) (some ((b,42))) (cond (decide ((32:Int) < (c.length:Int))) (some ((b,3))) ((loop (fun s:Int=>iJ c b s) 0).bind fun r=>Fl.el r (fun s=>iH c b) (fun y=>some (y))))
theorem sC (T:Nat→Prop) (W0:World) (hT:TW T W0) (hLv:cU T W0) (W:ai) (l:LC) (v1:Value) (v2:Value) (q:Value) (fd:aA ad T W0 v1 W.Inputs) (fl:aA aa T W0 v2 W.Records) (fn:aA aj T W0 q l) (y:ai×Int) (hM:lT W l=some y):aW Tryz.prog No 31 [.agg (aQ W v1 v2).toArray,q] W0 (fun v w'=>∃ (v4:Value) (v5:Value),v = .tuple #[.agg (aQ y.1 v4 v5).toArray,.int .i64 y.2]∧aA ad (dT T []) w' v4 y.1.Inputs∧aA aa (dT T []) w' v5 y.1.Records):=by
 refine en Tryz.func31 Tryz.ntmps31 hT fun a hS=>?_;replace hS:=(((hS.fact bv (cU.dn hLv)).fS (aA.dn fd)).fS (aA.dn fl)).fS (aA.dn fn);unfold lT at hM;refine ah hS fun a hS=>?_;refine kb hS fun g h9 a w hk hS=>?_;refine ka hS l4 fun j ha a w hk hS=>?_;refine ah hS fun a hS=>?_;obtain⟨c,co,hM⟩:=bd hM;refine kc hS vr (dD _ _ hS.dlt W _ _ (hS.get 2 rfl) (hS.get 1 rfl) _ co) fun _ w hR a hk hA=>?_;obtain⟨e,D,f,E,he,c0,c1,bt⟩:=hR;obtain rfl:=he.symm;have hS:=s7 hA c0 c1 bt;refine go hS fun a w hS=>?_;refine az ?_;refine ah hS fun a hS=>?_;have hL:=hS;replace hL:=hL.freeze (R:=ad) 0 rfl 1 rfl;replace hL:=hL.freeze (R:=aa) 0 rfl 1 rfl;obtain⟨hu,d3,hM⟩:=bd hM;refine kc hS Gv (pJ _ _ hL.dlt (hL.get 7 rfl) c _ _ (hL.get 1 rfl) (hL.get 0 rfl) _ d3) fun _ w hR a hk hA=>?_;obtain rfl:=hR;have hS:=bV hA;refine ah hS fun a hS=>?_;rcases cd hM with⟨d4,hM⟩|⟨d4,hM⟩
 ·refine go hS fun a w hS=>?_;replace hS:=(hS.freeze (R:=ad) 0 rfl 1 rfl).freeze (R:=aa) 0 rfl 1 rfl;cases hM
  refine aE hS Tryz.results31 (a7 hS rfl 0 rfl ez rfl (fun h=>by cases h) (ap hS rfl aD)) ?_;exact⟨e,f,rfl,(aA.up trivial (hS.get 1 rfl)),(aA.up trivial (hS.get 0 rfl))⟩
 refine ah hS fun a hS=>?_;rcases cd hM with⟨d6,hM⟩|⟨d6,hM⟩
 ·refine go hS fun a w hS=>?_;replace hS:=(hS.freeze (R:=ad) 0 rfl 1 rfl).freeze (R:=aa) 0 rfl 1 rfl;cases hM
  refine aE hS Tryz.results31 (a7 hS rfl 0 rfl ez rfl (fun h=>by cases h) (ap hS rfl aD)) ?_;exact⟨e,f,rfl,(aA.up trivial (hS.get 1 rfl)),(aA.up trivial (hS.get 0 rfl))⟩
 refine ah hS fun a hS=>?_;refine aG (J:=fun a w=>St W0 No T 172 [(1,q),(2,pt g 0),(4,pt j 0)] [aR e D,aH f E,.box g (aQ c e f) 31,.box j [.int .i64 0,.slice none 0 0,.slice none 0 0] 31] [aJ aj q l,am ad D c.Inputs,am aa E c.Records,bv] a w∧iH l c=some y) ?_ ?_
 ·skip;refine ah hS fun a hS=>?_;obtain⟨r1,X,hMo1⟩:=bd hM;refine bu _ (fun s a w=>∃ (O:Int),O=s∧St W0 No T 172 [(1,q),(2,pt g 0),(4,pt j 0),(34,q),(35,.int .i64 (l.length:Int)),(36,.int .i64 O)] [aR e D,aH f E,.box g (aQ c e f) 31,.box j [.int .i64 0,.slice none 0 0,.slice none 0 0] 31] [aJ aj q l,am ad D c.Inputs,am aa E c.Records,bv] a w) X ⟨_,rfl,hS.mt [0,1,3,2] [2,1,0,5]⟩ ?_;rintro s a w K ⟨O,rfl,hS⟩ hM hf1;have hM:iJ l c O=some K:=hM;unfold iJ at hM;refine ah hS fun a hS=>?_;refine az ?_;rcases cd hM with⟨da,hM⟩|⟨da,hM⟩
  ·refine ah hS fun a hS=>?_;refine az ?_;refine ah hS fun a hS=>?_;obtain⟨bb,ck,hM⟩:=bd hM;refine wl rfl (bc (R:=aj) hS sh rK rfl rfl 0 rfl ck rfl fun g2 hi gu dc a hS=>?_);obtain rfl:=dc;refine ah hS fun a hS=>?_;refine ka hS k9 fun g3 hb a w hk hS=>?_;refine go hS fun a w hS=>?_;refine jV ?_;refine ah hS fun a hS=>?_;obtain⟨hs,d1,hM⟩:=bd hM;refine kc hS CL (kO _ _ hS.dlt bb.Key _ d1) fun _ w hR a hk hA=>?_;obtain rfl:=hR;have hS:=bV hA;refine ah hS fun a hS=>?_;rcases cd hM with⟨bi,hM⟩|⟨bi,hM⟩
   ·refine go hS fun a w hS=>?_;replace hS:=(hS.freeze (R:=ad) 1 rfl 2 rfl).freeze (R:=aa) 1 rfl 4 rfl;cases hM
    have hr:=hf1 _ rfl;subst hr;replace hMo1:=jo hMo1;have hM:=hMo1;cases hM
    refine aE hS Tryz.results31 (a7 hS rfl 2 rfl ez rfl (fun h=>by cases h) (ap hS rfl aD)) ?_;exact⟨e,f,rfl,(aA.up trivial (hS.get 1 rfl)),(aA.up trivial (hS.get 0 rfl))⟩
   refine ah hS fun a hS=>?_;obtain⟨ht,d2,hM⟩:=bd hM;refine wg hS rfl rfl rfl bi (a8 hS vq rfl rfl (c8 _ _ hS.dlt bb.Key _ d2) fun _ w hR a hk hA=>?_);obtain rfl:=hR;have hS:=bV hA;refine ah hS fun a hS=>?_;rcases cd hM with⟨dk,hM⟩|⟨dk,hM⟩
   ·refine go hS fun a w hS=>?_;replace hS:=(hS.freeze (R:=ad) 1 rfl 2 rfl).freeze (R:=aa) 1 rfl 4 rfl;cases hM
    have hr:=hf1 _ rfl;subst hr;replace hMo1:=jo hMo1;have hM:=hMo1;cases hM
    refine aE hS Tryz.results31 (a7 hS rfl 2 rfl ez rfl (fun h=>by cases h) (ap hS rfl aD)) ?_;exact⟨e,f,rfl,(aA.up trivial (hS.get 1 rfl)),(aA.up trivial (hS.get 0 rfl))⟩
   exact fz
  exact fz
 rintro a w ⟨hS,hM⟩;unfold iH at hM;refine aG (J:=fun a w=>St W0 No T 172 [(1,q),(2,pt g 0),(4,pt j 0)] [aR e D,aH f E,.box g (aQ c e f) 31,.box j [.int .i64 0,.slice none 0 0,.slice none 0 0] 31] [aJ aj q l,am ad D c.Inputs,am aa E c.Records,bv] a w∧iG l c=some y) ?_ ?_
 ·skip;refine ah hS fun a hS=>?_;obtain⟨r1,X,hMo1⟩:=bd hM;refine bu _ (fun s a w=>∃ (N:Int),N=s∧St W0 No T 172 [(1,q),(2,pt g 0),(4,pt j 0),(52,q),(53,.int .i64 (l.length:Int)),(54,.int .i64 N)] [aR e D,aH f E,.box g (aQ c e f) 31,.box j [.int .i64 0,.slice none 0 0,.slice none 0 0] 31] [aJ aj q l,am ad D c.Inputs,am aa E c.Records,bv] a w) X ⟨_,rfl,hS.mt [0,1,2,3] [0,1,2,3]⟩ ?_;rintro s a w K ⟨N,rfl,hS⟩ hM hf1;have hM:iI l c N=some K:=hM;unfold iI at hM;refine ah hS fun a hS=>?_;refine az ?_;rcases cd hM with⟨dl,hM⟩|⟨dl,hM⟩
  ·refine ah hS fun a hS=>?_;refine az ?_;refine ah hS fun a hS=>?_;obtain⟨h8,ch,hM⟩:=bd hM;refine wl rfl (bc (R:=aj) hS sh rK rfl rfl 0 rfl ch rfl fun g4 hj h0 ds a hS=>?_);obtain rfl:=ds;refine ah hS fun a hS=>?_;refine ka hS k9 fun g5 hc a w hk hS=>?_;refine go hS fun a w hS=>?_;rcases cd hM with⟨e2,hM⟩|⟨e2,hM⟩
   ·refine go hS fun a w hS=>?_;replace hS:=(hS.freeze (R:=ad) 1 rfl 2 rfl).freeze (R:=aa) 1 rfl 4 rfl;cases hM
    have hr:=hf1 _ rfl;subst hr;replace hMo1:=jo hMo1;have hM:=hMo1;cases hM
    refine aE hS Tryz.results31 (a7 hS rfl 2 rfl ez rfl (fun h=>by cases h) (ap hS rfl aD)) ?_;exact⟨e,f,rfl,(aA.up trivial (hS.get 1 rfl)),(aA.up trivial (hS.get 0 rfl))⟩
   exact fz
  exact fz
 rintro a w ⟨hS,hM⟩;unfold iG at hM;refine ah hS fun a hS=>?_;replace hS:=(hS.freeze (R:=ad) 0 rfl 1 rfl).freeze (R:=aa) 0 rfl 3 rfl;obtain⟨d,cs,hM⟩:=bd hM;refine kc hS vr (dD _ _ hS.dlt c _ _ (hS.get 1 rfl) (hS.get 0 rfl) _ cs) fun _ w hR a hk hA=>?_;obtain⟨hv,h1,m,p,he,c2,c3,bt⟩:=hR;obtain rfl:=he.symm;have hS:=s7 hA c2 c3 bt;refine ka hS l4 fun o hd a w hk hS=>?_;refine go hS fun a w hS=>?_;refine aG (J:=fun a w=>∃ (Y:Bool) (ao:LI) (V:Value) (a0:LV),St W0 No T 172 [(2,pt g 0),(4,pt j 0),(10,pt o 0),(11,.bool Y)] [.box g (aQ c e f) 31,.box j [.int .i64 0,.slice none 0 0,.slice none 0 0] 31,aR V a0,aH m p,.box o [.int .i64 (IntKind.i64.wrap (d.Revision + 1)),V,m] 31] [aJ ad e c.Inputs,aJ aa f c.Records,am ad a0 ao,am aa p d.Records,bv] a w∧jF c d Y ao=some y) ?_ ?_
 ·skip;refine ah hS fun a hS=>?_;obtain⟨r1,X,hMo1⟩:=bd hM;refine bu _ (fun s a w=>∃ (C:Bool) (u:Int) (t:LI) (n:Value) (r:LV),(C,u,t)=s∧St W0 No T 172 [(1,q),(2,pt g 0),(4,pt j 0),(10,pt o 0),(11,.bool C),(70,q),(71,.int .i64 (l.length:Int)),(72,.int .i64 u)] [.box g (aQ c e f) 31,.box j [.int .i64 0,.slice none 0 0,.slice none 0 0] 31,aR n r,aH m p,.box o [.int .i64 (IntKind.i64.wrap (d.Revision + 1)),n,m] 31] [aJ aj q l,aJ ad e c.Inputs,aJ aa f c.Records,am ad r t,am aa p d.Records,bv] a w) X ⟨_,_,_,_,_,rfl,hS.mt [3,4,1,2,0] [4,3,2,1,0,7]⟩ ?_;rintro s a w K ⟨C,u,t,n,r,rfl,hS⟩ hM hf1;have hM:lj l c d C u t=some K:=hM;unfold lj at hM;refine ah hS fun a hS=>?_;refine az ?_;rcases cd hM with⟨e3,hM⟩|⟨e3,hM⟩
  ·refine ah hS fun a hS=>?_;refine aG (J:=fun a w=>∃ (Z:Bool) (av:LI) (b2:Value) (a1:LV),St W0 No T 172 [(1,q),(2,pt g 0),(4,pt j 0),(10,pt o 0),(11,.bool Z),(70,q),(71,.int .i64 (l.length:Int)),(72,.int .i64 u)] [.box g (aQ c e f) 31,.box j [.int .i64 0,.slice none 0 0,.slice none 0 0] 31,aR b2 a1,aH m p,.box o [.int .i64 (IntKind.i64.wrap (d.Revision + 1)),b2,m] 31] [aJ aj q l,aJ ad e c.Inputs,aJ aa f c.Records,am ad a1 av,am aa p d.Records,bv] a w∧gS u Z av=some K) ?_ ?_
   ·skip;refine ah hS fun a hS=>?_;obtain⟨b,c9,hM⟩:=bd hM;refine wl rfl (bc (R:=aj) hS sh rK rfl rfl 0 rfl c9 rfl fun g6 hl h2 e4 a hS=>?_);obtain rfl:=e4;refine ah hS fun a hS=>?_;refine ka hS k9 fun z hf a w hk hS=>?_;refine go hS fun a w hS=>?_;refine aG (J:=fun a w=>∃ (ag:Bool),St W0 No T 172 [(1,q),(2,pt g 0),(4,pt j 0),(10,pt o 0),(11,.bool C),(13,pt z 0),(14,.bool ag),(70,q),(71,.int .i64 (l.length:Int)),(72,.int .i64 u)] [.box g (aQ c e f) 31,.box j [.int .i64 0,.slice none 0 0,.slice none 0 0] 31,aR n r,aH m p,.box o [.int .i64 (IntKind.i64.wrap (d.Revision + 1)),n,m] 31,.box z (eU b) 46] [aJ aj q l,aJ ad e c.Inputs,aJ aa f c.Records,am ad r t,am aa p d.Records,bv] a w∧mz c d C u t b ag=some K) ?_ ?_
    ·skip;refine ah hS fun a hS=>?_;obtain⟨ak,cl,hM⟩:=bd hM;refine wl rfl (I1 (R:=aj) (k2:=.i64) hS sh rK rfl (.inl ⟨_,rfl,rfl⟩) (.inr ⟨rfl,rfl⟩) 1 rfl cl rfl fun c5 a hS=>?_);refine ah hS fun a hS=>?_;obtain⟨r2,c4,hMo2⟩:=bd hM;refine bu _ (fun s a w=>∃ (S:Bool) (M:Int),(S,M)=s∧St W0 No T 172 [(1,q),(2,pt g 0),(4,pt j 0),(10,pt o 0),(11,.bool C),(13,pt z 0),(14,.bool S),(70,q),(71,.int .i64 (l.length:Int)),(72,.int .i64 u),(80,c5),(81,.int .i64 (ak.length:Int)),(82,.int .i64 M)] [.box g (aQ c e f) 31,.box j [.int .i64 0,.slice none 0 0,.slice none 0 0] 31,aR n r,aH m p,.box o [.int .i64 (IntKind.i64.wrap (d.Revision + 1)),n,m] 31,.box z (eU b) 46] [aJ aj q l,aJ aj c5 ak,aJ ad e c.Inputs,aJ aa f c.Records,am ad r t,am aa p d.Records,bv] a w) c4 ⟨_,_,rfl,hS.mt [1,2,3,4,5,0] [2,0,3,4,5,6,7]⟩ ?_;rintro s a w f2 ⟨S,M,rfl,hS⟩ hM hf2;have hM:li b ak S M=some f2:=hM;unfold li at hM;refine ah hS fun a hS=>?_;refine az ?_;rcases cd hM with⟨e5,hM⟩|⟨e5,hM⟩
     ·refine ah hS fun a hS=>?_;refine az ?_;refine ah hS fun a hS=>?_;obtain⟨b9,cb,hM⟩:=bd hM;refine wl rfl (bc (R:=aj) hS sh rK rfl rfl 1 rfl cb rfl fun g7 hm h3 e8 a hS=>?_);obtain rfl:=e8;refine ah hS fun a hS=>?_;refine ka hS k9 fun g8 hg a w hk hS=>?_;refine go hS fun a w hS=>?_;rcases cd hM with⟨bl,hM⟩|⟨bl,hM⟩
      ·refine ah hS fun a hS=>?_;refine wg hS rfl rfl rfl bl (ky (v:=.bool (!((b9.Key.Kind:Int) == b.Key.Kind && b9.Key.Text.toList == b.Key.Text.toList))) hS (vJ hS rfl rfl) rfl rfl fun a hS=>?_);exact fz
      exact fz
     exact fz
    rintro a w ⟨ag,hS,hM⟩;unfold mz at hM;refine az ?_;refine az ?_;refine dr [] hS fun w hQ hS=>?_;refine gE [0,1,2] hS fun a hS=>?_;rcases cd hM with⟨bs,hM⟩|⟨bs,hM⟩
    ·refine gE [3,4,5,6,7,8,9,10] hS fun a hS=>?_;refine eD ?_;exact fz
    refine gE [3,4,5,7,8] hS fun a hS=>?_;obtain⟨hq,d0,hM⟩:=bd hM;refine cy (i:=6) rfl (by kernel_rfl) hS rfl rfl rfl bs (a8 hS Ep rfl rfl (px _ _ hS.dlt c b.Key _ _ (hS.get 1 rfl) (hS.get 2 rfl) _ d0) fun _ w hR a hk hA=>⟨fc (hk),?_⟩);obtain rfl:=hR;have hS:=bV hA;refine gE [9,10] hS fun a hS=>?_;refine eD ?_;refine ah hS fun a hS=>?_;rcases cd hM with⟨ea,hM⟩|⟨ea,hM⟩
    ·exact fz
    refine ah hS fun a hS=>?_;refine aG (J:=fun a w=>∃ (P:LI) (ax:Bool) (b3:Value) (a2:LV),St W0 No T 172 [(1,q),(2,pt g 0),(4,pt j 0),(10,pt o 0),(11,.bool true),(13,pt z 0),(17,b3),(18,.bool ax),(70,q),(71,.int .i64 (l.length:Int)),(72,.int .i64 u)] [aR b3 a2,.box g (aQ c e f) 31,.box j [.int .i64 0,.slice none 0 0,.slice none 0 0] 31,aR n r,aH m p,.box o [.int .i64 (IntKind.i64.wrap (d.Revision + 1)),n,m] 31,.box z (eU b) 46] [aJ aj q l,am ad a2 P,aJ ad e c.Inputs,aJ aa f c.Records,am ad r t,am aa p d.Records,bv] a w∧ek d u b P ax=some K) ?_ ?_
    ·skip;refine ah hS fun a hS=>?_;replace hS:=hS.nilRow ad 69 (by decide);obtain⟨r2,c4,hMo2⟩:=bd hM;refine bu _ (fun s a w=>∃ (F:LI) (G:Bool) (B:Int) (I:Value) (H:LV),(F,G,B)=s∧St W0 No T 172 [(1,q),(2,pt g 0),(4,pt j 0),(10,pt o 0),(11,.bool true),(13,pt z 0),(17,I),(18,.bool G),(70,q),(71,.int .i64 (l.length:Int)),(72,.int .i64 u),(107,n),(108,.int .i64 (t.length:Int)),(109,.int .i64 B)] [aR I H,aR n r,.box g (aQ c e f) 31,.box j [.int .i64 0,.slice none 0 0,.slice none 0 0] 31,aH m p,.box o [.int .i64 (IntKind.i64.wrap (d.Revision + 1)),n,m] 31,.box z (eU b) 46] [aJ aj q l,am ad H F,am ad r t,aJ ad e c.Inputs,aJ aa f c.Records,am aa p d.Records,bv] a w) c4 ⟨_,_,_,_,_,rfl,hS.mt [0,3,1,2,4,5,6] [1,0,4,2,3,5,6]⟩ ?_;rintro s a w f2 ⟨F,G,B,I,H,rfl,hS⟩ hM hf2;have hM:fE d t b F G B=some f2:=hM;unfold fE at hM;refine ah hS fun a hS=>?_;refine az ?_;rcases cd hM with⟨ed,hM⟩|⟨ed,hM⟩
     ·refine ah hS fun a hS=>?_;refine aG (J:=fun a w=>∃ (af:LI) (b0:Bool) (b4:Value) (a3:LV),St W0 No T 172 [(1,q),(2,pt g 0),(4,pt j 0),(10,pt o 0),(11,.bool true),(13,pt z 0),(17,b4),(18,.bool b0),(70,q),(71,.int .i64 (l.length:Int)),(72,.int .i64 u),(107,n),(108,.int .i64 (t.length:Int)),(109,.int .i64 B)] [aR b4 a3,aR n r,.box g (aQ c e f) 31,.box j [.int .i64 0,.slice none 0 0,.slice none 0 0] 31,aH m p,.box o [.int .i64 (IntKind.i64.wrap (d.Revision + 1)),n,m] 31,.box z (eU b) 46] [aJ aj q l,am ad a3 af,am ad r t,aJ ad e c.Inputs,aJ aa f c.Records,am aa p d.Records,bv] a w∧eo B af b0=some f2) ?_ ?_
      ·skip;refine ah hS fun a hS=>?_;obtain⟨A,ca,hM⟩:=bd hM;refine wl rfl (cR (R:=ad) hS sg rL rfl rfl 1 rfl 2 rfl ca rfl fun gb hn ho h4 eg el em a hS=>?_);obtain rfl:=eg;refine qy hS (bL (k:=0) hS rL 1 rfl el em rfl id (us:=(mW A)) rfl rfl (fun h=>by cases h)) fun a hS=>?_;refine ka hS qV fun L hh a w hk hS=>?_;refine go hS fun a w hS=>?_;obtain⟨U,cv,hM⟩:=bd hM;refine kc hS BI (lQ _ _ hS.dlt (hS.get 6 rfl) A.Key b.Key _ cv) fun _ w hR a hk hA=>?_;obtain rfl:=hR;have hS:=bV hA;refine ah hS fun a hS=>?_;refine aG (J:=fun a w=>∃ (Q:LI) (b1:Bool) (b5:Value) (a4:LV),St W0 No T 172 [(1,q),(2,pt g 0),(4,pt j 0),(10,pt o 0),(11,.bool true),(13,pt z 0),(17,b5),(18,.bool b1),(20,pt L 0),(21,.int .i64 U),(70,q),(71,.int .i64 (l.length:Int)),(72,.int .i64 u),(107,n),(108,.int .i64 (t.length:Int)),(109,.int .i64 B)] [aR b5 a4,aR n r,.box g (aQ c e f) 31,.box j [.int .i64 0,.slice none 0 0,.slice none 0 0] 31,aH m p,.box o [.int .i64 (IntKind.i64.wrap (d.Revision + 1)),n,m] 31,.box z (eU b) 46,.box L (mW A) 69] [aJ aj q l,am ad a4 Q,am ad r t,aJ ad e c.Inputs,aJ aa f c.Records,am aa p d.Records,bv] a w∧ep B A U Q b1=some f2) ?_ ?_
       ·skip;refine aG (J:=fun a w=>∃ (a9:Bool),St W0 No T 172 [(1,q),(2,pt g 0),(4,pt j 0),(10,pt o 0),(11,.bool true),(13,pt z 0),(17,I),(18,.bool G),(20,pt L 0),(21,.int .i64 U),(70,q),(71,.int .i64 (l.length:Int)),(72,.int .i64 u),(107,n),(108,.int .i64 (t.length:Int)),(109,.int .i64 B),(123,.bool a9)] [aR I H,aR n r,.box g (aQ c e f) 31,.box j [.int .i64 0,.slice none 0 0,.slice none 0 0] 31,aH m p,.box o [.int .i64 (IntKind.i64.wrap (d.Revision + 1)),n,m] 31,.box z (eU b) 46,.box L (mW A) 69] [aJ aj q l,am ad H F,am ad r t,aJ ad e c.Inputs,aJ aa f c.Records,am aa p d.Records,bv] a w∧eu d b F G B A U a9=some f2) ?_ ?_
        ·exact fz
        rintro a w ⟨a9,hS,hM⟩;unfold eu at hM;rcases cd hM with⟨eq,hM⟩|⟨eq,hM⟩
        ·refine ah hS fun a hS=>?_;refine qy hS (bj (ps:=[(0,.tmp 126),(1,.tmp 128),(2,.tmp 130)]) hS Du qV rfl (us:=[(aM b.Key),[.string b.Value],[.int .i64 (IntKind.i64.wrap (d.Revision + 1))]]) ⟨rfl,⟨rfl,⟨rfl,trivial⟩⟩⟩ (ws:=[.int .i64 b.Key.Kind,.string b.Key.Text,.string b.Value,.int .i64 (IntKind.i64.wrap (d.Revision + 1))]) rfl) fun a hS=>?_;refine wl rfl (aT (ps:=[(0,.tmp 131)]) hS wO qV (zl:=[.int .i64 0,.string (ByteArray.mk #[]),.string (ByteArray.mk #[]),.int .i64 0]) (by kernel_rfl) rfl (us:=[[.int .i64 b.Key.Kind,.string b.Key.Text,.string b.Value,.int .i64 (IntKind.i64.wrap (d.Revision + 1))]]) ⟨rfl,trivial⟩ (ws:=[.int .i64 b.Key.Kind,.string b.Key.Text,.string b.Value,.int .i64 (IntKind.i64.wrap (d.Revision + 1))]) rfl rfl rfl rfl fun gi a w hk hS=>?_);replace hS:=(hS.lit (R:=ad) (us:=[.int .i64 b.Key.Kind,.string b.Key.Text,.string b.Value,.int .i64 (IntKind.i64.wrap (d.Revision + 1))]) (xs:=[(aI.mk b.Key b.Value (IntKind.i64.wrap (d.Revision + 1)))]) 0 rfl (by decide) (aB.one_ (R:=ad) (x:=(aI.mk b.Key b.Value (IntKind.i64.wrap (d.Revision + 1)))) rfl) rfl rfl).freeze (R:=ad) 0 rfl 0 rfl;obtain⟨er,hM⟩:=aS hM;refine wl rfl (bw (R:=ad) (xs:=F) (ys:=[(aI.mk b.Key b.Value (IntKind.i64.wrap (d.Revision + 1)))]) hS wO (by decide) (by decide) rfl rfl 0 rfl 3 rfl 0 rfl er rfl fun hw h5 a w hk hS=>?_);exact fz
        exact fz
       rintro a w ⟨Q,b1,b5,a4,hS,hM⟩;unfold ep at hM;refine ah hS fun a hS=>?_;rcases cd hM with⟨et,hM⟩|⟨et,hM⟩
       ·refine ah hS fun a hS=>?_;refine wl rfl (aT (ps:=[(0,.tmp 137)]) hS wO qV (zl:=[.int .i64 0,.string (ByteArray.mk #[]),.string (ByteArray.mk #[]),.int .i64 0]) (by kernel_rfl) rfl (us:=[(mW A)]) ⟨rfl,trivial⟩ (ws:=(mW A)) rfl rfl rfl rfl fun gp a w hk hS=>?_);replace hS:=(hS.lit (R:=ad) (us:=(mW A)) (xs:=[A]) 0 rfl (by decide) (aB.one_ (R:=ad) (x:=A) rfl) rfl rfl).freeze (R:=ad) 0 rfl 0 rfl;obtain⟨ex,hM⟩:=aS hM;refine wl rfl (bw (R:=ad) (xs:=Q) (ys:=[A]) hS wO (by decide) (by decide) rfl rfl 0 rfl 3 rfl 0 rfl ex rfl fun hx h6 a w hk hS=>?_);exact fz
       exact fz
      rintro a w ⟨af,b0,b4,a3,hS,hM⟩;unfold eo at hM;exact fz
     refine ah hS fun a hS=>?_;cases hM
     have hr:=hf2 _ rfl;subst hr;have hM:ek d u b F G=some K:=hMo2;exact⟨_,_,_,_,hS.mt [0,2,3,1,4,5,6] [0,1,3,4,2,5,6],hM⟩
    rintro a w ⟨P,ax,b3,a2,hS,hM⟩;unfold ek at hM;refine aG (J:=fun a w=>∃ (ab:LI) (b6:Value) (a5:LV),St W0 No T 172 [(1,q),(2,pt g 0),(4,pt j 0),(10,pt o 0),(11,.bool true),(17,b6),(70,q),(71,.int .i64 (l.length:Int)),(72,.int .i64 u)] [aR b6 a5,.box g (aQ c e f) 31,.box j [.int .i64 0,.slice none 0 0,.slice none 0 0] 31,aR n r,aH m p,.box o [.int .i64 (IntKind.i64.wrap (d.Revision + 1)),n,m] 31] [aJ aj q l,am ad a5 ab,aJ ad e c.Inputs,aJ aa f c.Records,am ad r t,am aa p d.Records,bv] a w∧ej u ab=some K) ?_ ?_
    ·skip;refine ah hS fun a hS=>?_;rcases cd hM with⟨eT,hM⟩|⟨eT,hM⟩
     ·refine ah hS fun a hS=>?_;refine qy hS (bj (ps:=[(0,.tmp 145),(1,.tmp 147),(2,.tmp 149)]) hS Du qV rfl (us:=[(aM b.Key),[.string b.Value],[.int .i64 (IntKind.i64.wrap (d.Revision + 1))]]) ⟨rfl,⟨rfl,⟨rfl,trivial⟩⟩⟩ (ws:=[.int .i64 b.Key.Kind,.string b.Key.Text,.string b.Value,.int .i64 (IntKind.i64.wrap (d.Revision + 1))]) rfl) fun a hS=>?_;refine wl rfl (aT (ps:=[(0,.tmp 150)]) hS wO qV (zl:=[.int .i64 0,.string (ByteArray.mk #[]),.string (ByteArray.mk #[]),.int .i64 0]) (by kernel_rfl) rfl (us:=[[.int .i64 b.Key.Kind,.string b.Key.Text,.string b.Value,.int .i64 (IntKind.i64.wrap (d.Revision + 1))]]) ⟨rfl,trivial⟩ (ws:=[.int .i64 b.Key.Kind,.string b.Key.Text,.string b.Value,.int .i64 (IntKind.i64.wrap (d.Revision + 1))]) rfl rfl rfl rfl fun gs a w hk hS=>?_);replace hS:=(hS.lit (R:=ad) (us:=[.int .i64 b.Key.Kind,.string b.Key.Text,.string b.Value,.int .i64 (IntKind.i64.wrap (d.Revision + 1))]) (xs:=[(aI.mk b.Key b.Value (IntKind.i64.wrap (d.Revision + 1)))]) 0 rfl (by decide) (aB.one_ (R:=ad) (x:=(aI.mk b.Key b.Value (IntKind.i64.wrap (d.Revision + 1)))) rfl) rfl rfl).freeze (R:=ad) 0 rfl 0 rfl;obtain⟨eX,hM⟩:=aS hM;refine wl rfl (bw (R:=ad) (xs:=P) (ys:=[(aI.mk b.Key b.Value (IntKind.i64.wrap (d.Revision + 1)))]) hS wO (by decide) (by decide) rfl rfl 0 rfl 3 rfl 0 rfl eX rfl fun hy h7 a w hk hS=>?_);exact fz
     exact fz
    rintro a w ⟨ab,b6,a5,hS,hM⟩;unfold ej at hM;exact fz
   rintro a w ⟨Z,av,b2,a1,hS,hM⟩;unfold gS at hM;exact fz
  refine ah hS fun a hS=>?_;cases hM
  have hr:=hf1 _ rfl;subst hr;have hM:jF c d C t=some y:=hMo1;exact⟨_,_,_,_,hS.mt [0,1,2,3,4] [1,2,3,4,5],hM⟩
 rintro a w ⟨Y,ao,V,a0,hS,hM⟩;unfold jF at hM;refine az ?_;refine ah hS fun a hS=>?_;rcases cd hM with⟨f3,hM⟩|⟨f3,hM⟩
 ·refine go hS fun a w hS=>?_;cases hM
  refine aE hS Tryz.results31 (a7 hS rfl 1 rfl ez rfl (fun h=>by cases h) (ap hS rfl aD)) ?_;exact⟨e,f,rfl,(aA.up trivial (hS.get 0 rfl)),(aA.up trivial (hS.get 1 rfl))⟩
 refine ah hS fun a hS=>?_;rcases cd hM with⟨f4,hM⟩|⟨f4,hM⟩
 ·refine go hS fun a w hS=>?_;cases hM
  refine aE hS Tryz.results31 (a7 hS rfl 1 rfl ez rfl (fun h=>by cases h) (ap hS rfl aD)) ?_;exact⟨e,f,rfl,(aA.up trivial (hS.get 0 rfl)),(aA.up trivial (hS.get 1 rfl))⟩
 refine ah hS fun a hS=>?_;rcases cd hM with⟨f6,hM⟩|⟨f6,hM⟩
 ·refine go hS fun a w hS=>?_;cases hM
  refine aE hS Tryz.results31 (a7 hS rfl 1 rfl ez rfl (fun h=>by cases h) (ap hS rfl aD)) ?_;exact⟨e,f,rfl,(aA.up trivial (hS.get 0 rfl)),(aA.up trivial (hS.get 1 rfl))⟩
 refine go hS fun a w hS=>?_;replace hS:=(hS.freeze (R:=ad) 2 rfl 2 rfl).freeze (R:=aa) 2 rfl 4 rfl;cases hM
 refine aE hS Tryz.results31 (a7 hS rfl 1 rfl ez rfl (fun h=>by cases h) (ap hS rfl aD)) ?_;exact⟨V,m,rfl,(aA.up trivial (hS.get 1 rfl)),(aA.up trivial (hS.get 0 rfl))⟩
end
end
section
set_option maxRecDepth 100000
set_option maxHeartbeats 4000000
open Go.RowKit
noncomputable section
def ot (b:Bool):Option Bool:=some (b)
def kf (b:Bool):Option Bool:=some (b)
def kg (b:Int) (c:Int):Option Bool:=cond (decide ((0:Int)≤b)) (kf (decide ((b:Int) < c))) (kf false)
def oF (b:LU) (e:Int) (g:cF) (c:Int):Option Bool:=cond g.Cell (cond (decide ((0:Int)≤c)) (ot (decide ((c:Int)≤15))) (ot false)) ((lR b e).bind fun d=>(be b e).bind fun f=>cond (!(f.Ring)) (kg c d.1) (kg c d.2))
theorem uJ (T:Nat→Prop) (W0:World) (hT:TW T W0) (b:LU) (g:Int) (k:cF) (f:Int) (o:Value) (n:aA ay T W0 o b) (y:Bool) (hM:oF b g k f=some y):aW Tryz.prog No 148 [o,.int .i64 g,.agg (Gq k).toArray,.int .i64 f] W0 (fun v w'=>v = .bool y):=by
 refine en Tryz.func148 Tryz.ntmps148 hT fun a hS=>?_;replace hS:=hS.fS (aA.dn n);unfold oF at hM;refine ah hS fun a hS=>?_;refine kb hS fun p t a w hk hS=>?_;refine ah hS fun a hS=>?_;refine az ?_;refine ah hS fun a hS=>?_;rcases cd hM with⟨l,hM⟩|⟨l,hM⟩
 ·refine ah hS fun a hS=>?_;refine aG (J:=fun a w=>∃ (d:Bool),St W0 No T 39 [(8,.bool d)] [] [] a w∧ot d=some y) ?_ ?_
  ·exact fz
  rintro a w ⟨d,hS,hM⟩;unfold ot at hM;exact fz
 refine ah hS fun a hS=>?_;obtain⟨x,i,hM⟩:=bd hM;refine kc hS IN (sA _ _ hS.dlt b g _ (hS.get 0 rfl) _ i) fun _ w hR a hk hA=>?_;obtain rfl:=hR;have hS:=bV hA;refine ah hS fun a hS=>?_;refine aG (J:=fun a w=>∃ (c:Int),St W0 No T 39 [(3,.int .i64 f),(10,.int .i64 c)] [] [] a w∧kg f c=some y) ?_ ?_
 ·skip;refine ah hS fun a hS=>?_;obtain⟨s,h,hM⟩:=bd hM;refine wl rfl (bc (R:=ay) hS uq tO rfl rfl 0 rfl h rfl fun q u r m a hS=>?_);obtain⟨z,rfl,j⟩:=m;replace hS:=hS.fS j;exact fz
 rintro a w ⟨c,hS,hM⟩;unfold kg at hM;refine aG (J:=fun a w=>∃ (e:Bool),St W0 No T 39 [(8,.bool e)] [] [] a w∧kf e=some y) ?_ ?_
 ·exact fz
 rintro a w ⟨e,hS,hM⟩;unfold kf at hM;exact fz
def mr (b:LU):Option Bool:=some (decide ((b.length:Int)≤24))
def mw (b:Int):Option (Fl (Int) (Fl (Unit) Bool)):=some (.go (IntKind.i64.wrap (b + 1)))
def cL (b:Int) (c:Bool):Option (Fl (Int) (Fl (Unit) Bool)):=cond c (some (.out (.out false))) (mw b)
def fA (c:Int) (b:aK):Option (Fl (Int) (Fl (Unit) Bool)):=cond b.Ring (cond ((b.Final:Int) != 5) (cL c true) (cond (decide ((b.C:Int) < 0)) (cL c true) (cond (decide ((65535:Int) < b.C)) (cL c true) (cL c false)))) (cond (decide ((b.Final:Int) < 1)) (cL c true) (cond (decide ((4:Int) < b.Final)) (cL c true) (cond (decide ((b.C:Int) < 0)) (cL c true) (cL c (decide ((999:Int) < b.C))))))
def dC (b:Int) (c:Bool):Option (Fl (Int) (Fl (Unit) Bool)):=cond c (some (.out (.out false))) (some (.go (IntKind.i64.wrap (b + 1))))
def ei (d:LU) (f:Int) (e:aK) (b:Int):Option (Fl (Int) (Fl (Unit) Bool)):=cond (decide ((b:Int) < (e.Asks.length:Int))) ((be e.Asks b).bind fun c=>(oF d f c c.N).bind fun g=>cond (!(g)) (dC b true) (cond c.Pick (cond e.Ring (dC b true) (cond ((b:Int) == 0) (dC b true) ((oF d f c c.Else).bind fun h=>cond (!(h)) (dC b true) (dC b false)))) (dC b ((c.Else:Int) != 0)))) (some (.out (.go ())))
def fB (b:LU) (c:Int):Option (Fl (Int) (Fl (Unit) Bool)):=cond (decide ((c:Int) < (b.length:Int))) ((be b c).bind fun d=>cond (decide ((6:Int) < (d.Asks.length:Int))) (some (.out (.out false))) ((loop (fun s:Int=>ei b c d s) 0).bind fun r=>Fl.el r (fun s=>fA c d) (fun y=>some (.out (.out y))))) (some (.out (.go ())))
def nN (b:LU):Option Bool:=(loop (fun s:Int=>fB b s) 0).bind fun r=>Fl.el r (fun s=>mr b) (fun y=>some (y))
theorem wT (T:Nat→Prop) (W0:World) (hT:TW T W0) (b:LU) (d:Value) (I:aA ay T W0 d b) (y:Bool) (hM:nN b=some y):aW Tryz.prog No 118 [d] W0 (fun v w'=>v = .bool y):=by
 refine en Tryz.func118 Tryz.ntmps118 hT fun a hS=>?_;replace hS:=hS.fS (aA.dn I);unfold nN at hM;refine ah hS fun a hS=>?_;refine aG (J:=fun a w=>St W0 No T 111 [(0,d)] [] [aJ ay d b] a w∧mr b=some y) ?_ ?_
 ·skip;refine ah hS fun a hS=>?_;obtain⟨Y,G,hMo1⟩:=bd hM;refine bu _ (fun s a w=>∃ (c:Int),c=s∧St W0 No T 111 [(0,d),(7,d),(8,.int .i64 (b.length:Int)),(9,.int .i64 c)] [] [aJ ay d b] a w) G ⟨_,rfl,hS.mt [] [0]⟩ ?_;rintro s a w m ⟨c,rfl,hS⟩ hM hf1;have hM:fB b c=some m:=hM;unfold fB at hM;refine ah hS fun a hS=>?_;refine az ?_;rcases cd hM with⟨t,hM⟩|⟨t,hM⟩
  ·refine ah hS fun a hS=>?_;refine aG (J:=fun a w=>St W0 No T 111 [(0,d),(7,d),(8,.int .i64 (b.length:Int)),(9,.int .i64 c)] [] [aJ ay d b] a w∧mw c=some m) ?_ ?_
   ·skip;refine ah hS fun a hS=>?_;obtain⟨e,n,hM⟩:=bd hM;refine wl rfl (bc (R:=ay) hS uq tO rfl rfl 0 rfl n rfl fun K U O u a hS=>?_);obtain⟨f,rfl,r⟩:=u;replace hS:=hS.fS r;refine ah hS fun a hS=>?_;refine ka hS uX fun g Q a w hk hS=>?_;refine go hS fun a w hS=>?_;refine az ?_;refine ah hS fun a hS=>?_;rcases cd hM with⟨x,hM⟩|⟨x,hM⟩
    ·exact fz
    refine ah hS fun a hS=>?_;refine aG (J:=fun a w=>St W0 No T 111 [(0,d),(4,pt g 0),(7,d),(8,.int .i64 (b.length:Int)),(9,.int .i64 c)] [.box g (so e f) 89] [aJ ay d b,aJ dN f e.Asks] a w∧fA c e=some m) ?_ ?_
    ·skip;refine ah hS fun a hS=>?_;obtain⟨Z,H,hMo2⟩:=bd hM;refine bu _ (fun s a w=>∃ (h:Int),h=s∧St W0 No T 111 [(0,d),(3,.int .i64 c),(4,pt g 0),(7,d),(8,.int .i64 (b.length:Int)),(9,.int .i64 c),(19,f),(20,.int .i64 (e.Asks.length:Int)),(21,.int .i64 h)] [.box g (so e f) 89] [aJ ay d b,aJ dN f e.Asks] a w) H ⟨_,rfl,hS.mt [0] [2,0]⟩ ?_;rintro s a w F ⟨h,rfl,hS⟩ hM hf2;have hM:ei b c e h=some F:=hM;unfold ei at hM;refine ah hS fun a hS=>?_;refine az ?_;rcases cd hM with⟨z,hM⟩|⟨z,hM⟩
     ·refine ah hS fun a hS=>?_;refine az ?_;refine ah hS fun a hS=>?_;obtain⟨i,o,hM⟩:=bd hM;refine wl rfl (bc (R:=dN) hS HK HN rfl rfl 1 rfl o rfl fun L V P A a hS=>?_);obtain rfl:=A;refine ah hS fun a hS=>?_;refine ka hS AO fun M S a w hk hS=>?_;refine go hS fun a w hS=>?_;refine aG (J:=fun a w=>∃ (k:Bool),St W0 No T 111 [(0,d),(3,.int .i64 c),(4,pt g 0),(7,d),(8,.int .i64 (b.length:Int)),(9,.int .i64 c),(19,f),(20,.int .i64 (e.Asks.length:Int)),(21,.int .i64 h),(63,.bool k)] [.box g (so e f) 89] [aJ ay d b,aJ dN f e.Asks] a w∧dC h k=some F) ?_ ?_
      ·skip;refine ah hS fun a hS=>?_;obtain⟨W,p,hM⟩:=bd hM;refine kc hS FR (uJ _ _ hS.dlt b c i i.N _ (hS.get 1 rfl) _ p) fun _ w hR a hk hA=>?_;obtain rfl:=hR;have hS:=bV hA;refine ah hS fun a hS=>?_;rcases cd hM with⟨B,hM⟩|⟨B,hM⟩
       ·exact fz
       refine ah hS fun a hS=>?_;rcases cd hM with⟨C,hM⟩|⟨C,hM⟩
       ·refine ah hS fun a hS=>?_;rcases cd hM with⟨D,hM⟩|⟨D,hM⟩
        ·exact fz
        refine ah hS fun a hS=>?_;rcases cd hM with⟨l,hM⟩|⟨l,hM⟩
        ·exact fz
        refine ah hS fun a hS=>?_;obtain⟨X,q,hM⟩:=bd hM;refine wg hS rfl rfl rfl l (a8 hS FR rfl rfl (uJ _ _ hS.dlt b c i i.Else _ (hS.get 1 rfl) _ q) fun _ w hR a hk hA=>?_);obtain rfl:=hR;have hS:=bV hA;exact fz
       exact fz
      rintro a w ⟨k,hS,hM⟩;unfold dC at hM;rcases cd hM with⟨E,hM⟩|⟨E,hM⟩
      ·refine ah hS fun a hS=>?_;cases hM
       have hr:=hf2 _ rfl;subst hr;replace hMo2:=jo hMo2;have hM:=hMo2;cases hM
       have hr:=hf1 _ rfl;subst hr;replace hMo1:=jo hMo1;have hM:=hMo1;cases hM
       refine aE hS rfl (ap hS rfl aD) ?_;exact rfl
      exact fz
     exact fz
    rintro a w ⟨hS,hM⟩;unfold fA at hM;refine aG (J:=fun a w=>∃ (j:Bool),St W0 No T 111 [(0,d),(7,d),(8,.int .i64 (b.length:Int)),(9,.int .i64 c),(106,.bool j)] [] [aJ ay d b] a w∧cL c j=some m) ?_ ?_
    ·exact fz
    rintro a w ⟨j,hS,hM⟩;unfold cL at hM;exact fz
   rintro a w ⟨hS,hM⟩;unfold mw at hM;exact fz
  exact fz
 rintro a w ⟨hS,hM⟩;unfold mr at hM;exact fz
def nM (c:ByteArray) (b:Int):Option ae:=some ((ae.mk b c))
def jx (c:LU) (b:Int):Option ae:=cond (decide ((b:Int) < 0)) (some ((ae.mk 0 (ByteArray.mk #[])))) (cond (decide ((c.length:Int)≤b)) (some ((ae.mk 0 (ByteArray.mk #[])))) (cond (decide ((99:Int) < b)) (some ((ae.mk 0 (ByteArray.mk #[])))) ((uI b).bind fun d=>(be c b).bind fun e=>cond e.Ring (nM d 32) (nM d 31))))
theorem m6 (T:Nat→Prop) (W0:World) (hT:TW T W0) (hLv:cU T W0) (c:LU) (g:Int) (p:Value) (o:aA ay T W0 p c) (y:ae) (hM:jx c g=some y):aW Tryz.prog No 122 [p,.int .i64 g] W0 (fun v w'=>v = .agg (aM y).toArray):=by
 refine en Tryz.func122 Tryz.ntmps122 hT fun a hS=>?_;replace hS:=(hS.fact bv (cU.dn hLv)).fS (aA.dn o);unfold jx at hM;refine ah hS fun a hS=>?_;refine ka hS gh fun e t a w hk hS=>?_;refine ah hS fun a hS=>?_;refine az ?_;refine jV ?_;refine ah hS fun a hS=>?_;rcases cd hM with⟨k,hM⟩|⟨k,hM⟩
 ·refine ah hS fun a hS=>?_;refine qy hS (bj (ps:=[]) hS As gh rfl (us:=[]) trivial (ws:=[.int .i64 0,.string (ByteArray.mk #[])]) rfl) fun a hS=>?_;refine go hS fun a w hS=>?_;cases hM
  refine aE hS rfl (rC 0 hS) ?_;exact rfl
 refine ah hS fun a hS=>?_;rcases cd hM with⟨l,hM⟩|⟨l,hM⟩
 ·refine ah hS fun a hS=>?_;refine qy hS (bj (ps:=[]) hS As gh rfl (us:=[]) trivial (ws:=[.int .i64 0,.string (ByteArray.mk #[])]) rfl) fun a hS=>?_;refine go hS fun a w hS=>?_;cases hM
  refine aE hS rfl (rC 0 hS) ?_;exact rfl
 refine ah hS fun a hS=>?_;rcases cd hM with⟨m,hM⟩|⟨m,hM⟩
 ·refine ah hS fun a hS=>?_;refine qy hS (bj (ps:=[]) hS As gh rfl (us:=[]) trivial (ws:=[.int .i64 0,.string (ByteArray.mk #[])]) rfl) fun a hS=>?_;refine go hS fun a w hS=>?_;cases hM
  refine aE hS rfl (rC 0 hS) ?_;exact rfl
 refine ah hS fun a hS=>?_;obtain⟨b,i,hM⟩:=bd hM;refine kc hS Es (u5 _ _ hS.dlt (hS.get 1 rfl) g _ i) fun _ w hR a hk hA=>?_;obtain rfl:=hR;have hS:=bV hA;refine qy hS (bj (ps:=[(0,.const (.int .i64 31)),(1,.tmp 20)]) hS As gh rfl (us:=[[.int .i64 31],[.string b]]) ⟨rfl,⟨rfl,trivial⟩⟩ (ws:=[.int .i64 31,.string b]) rfl) fun a hS=>?_;refine ka hS gh fun f u a w hk hS=>?_;refine go hS fun a w hS=>?_;refine aG (J:=fun a w=>∃ (d:Int),St W0 No T 29 [(4,pt e 0),(5,pt f 0)] [.box e [.int .i64 0,.string (ByteArray.mk #[])] 44,.box f [.int .i64 d,.string b] 44] [bv] a w∧nM b d=some y) ?_ ?_
 ·skip;refine ah hS fun a hS=>?_;obtain⟨s,h,hM⟩:=bd hM;refine wl rfl (bc (R:=ay) hS uq tO rfl rfl 0 rfl h rfl fun q x r n a hS=>?_);obtain⟨z,rfl,j⟩:=n;replace hS:=hS.fS j;exact fz
 rintro a w ⟨d,hS,hM⟩;unfold nM at hM;refine go hS fun a w hS=>?_;cases hM
 refine aE hS rfl (rC 0 hS) ?_;exact rfl
def ew (b:Bool):Option Bool:=some (b)
def lU (c:LU) (b:ae):Option Bool:=(dM b).bind fun f=>cond f (cond ((b.Kind:Int) != 31) (cond ((b.Kind:Int) != 32) (ew true) ((f7 b).bind fun g=>(jx c g).bind fun d=>ew ((d.Kind:Int) == b.Kind && d.Text.toList == b.Text.toList))) ((f7 b).bind fun h=>(jx c h).bind fun e=>ew ((e.Kind:Int) == b.Kind && e.Text.toList == b.Text.toList))) (ew false)
theorem sD (T:Nat→Prop) (W0:World) (hT:TW T W0) (hLv:cU T W0) (c:LU) (b:ae) (s:Value) (r:aA ay T W0 s c) (y:Bool) (hM:lU c b=some y):aW Tryz.prog No 119 [s,.agg (aM b).toArray] W0 (fun v w'=>v = .bool y):=by
 refine en Tryz.func119 Tryz.ntmps119 hT fun a hS=>?_;replace hS:=(hS.fact bv (cU.dn hLv)).fS (aA.dn r);unfold lU at hM;refine ah hS fun a hS=>?_;refine kb hS fun t u a w hk hS=>?_;refine ah hS fun a hS=>?_;refine aG (J:=fun a w=>∃ (e:Bool),St W0 No T 25 [(4,.bool e)] [] [bv] a w∧ew e=some y) ?_ ?_
 ·skip;refine dr [] hS fun w hQ hS=>?_;refine gE [0] hS fun a hS=>?_;obtain⟨x,h,hM⟩:=bd hM;refine ec 1 hS CL (kO _ _ hS.dlt b _ h) fun _ w hR a hk hA=>?_;obtain rfl:=hR;have hS:=bV hA;refine gE [2] hS fun a hS=>?_;rcases cd hM with⟨n,hM⟩|⟨n,hM⟩
  ·refine gE [3,4,5,6] hS fun a hS=>?_;rcases cd hM with⟨o,hM⟩|⟨o,hM⟩
   ·refine gE [7,8,9,10,11] hS fun a hS=>?_;rcases cd hM with⟨d,hM⟩|⟨d,hM⟩
    ·refine gE [12,13,14,15,16,17,18,19,20] hS fun a hS=>?_;refine eD ?_;exact⟨_,hS.mt [] [1],hM⟩
    refine gE [12,13,16] hS fun a hS=>?_;obtain⟨p,j,hM⟩:=bd hM;refine cy (i:=14) rfl (by kernel_rfl) hS rfl rfl rfl d (a8 hS Ew rfl rfl (mp _ _ hS.dlt b _ j) fun _ w hR a hk hA=>⟨fc (hk),?_⟩);obtain rfl:=hR;have hS:=bV hA;obtain⟨f,k,hM⟩:=bd hM;refine cy (i:=15) rfl (by kernel_rfl) hS rfl rfl rfl d (a8 hS xf rfl rfl (m6 _ _ hS.dlt (hS.get 1 rfl) c p _ (hS.get 0 rfl) _ k) fun _ w hR a hk hA=>⟨fc (hk),?_⟩);obtain rfl:=hR;have hS:=bV hA;refine vG 17 (v:=.bool ((f.Kind:Int) == b.Kind && f.Text.toList == b.Text.toList)) rfl (by kernel_rfl) (by kernel_rfl) (by kernel_rfl) rfl hQ hS (wP hS rfl rfl) rfl rfl rfl d rfl rfl fun a hS=>?_;refine gE [18,19,20] hS fun a hS=>?_;refine eD ?_;exact⟨_,hS.mt [] [1],hM⟩
   refine gE [7,8,9,10,11,12,13,16] hS fun a hS=>?_;obtain⟨q,l,hM⟩:=bd hM;refine cy (i:=14) rfl (by kernel_rfl) hS rfl rfl rfl rfl (a8 hS Ew rfl rfl (mp _ _ hS.dlt b _ l) fun _ w hR a hk hA=>⟨fc (hk),?_⟩);obtain rfl:=hR;have hS:=bV hA;obtain⟨g,m,hM⟩:=bd hM;refine cy (i:=15) rfl (by kernel_rfl) hS rfl rfl rfl rfl (a8 hS xf rfl rfl (m6 _ _ hS.dlt (hS.get 1 rfl) c q _ (hS.get 0 rfl) _ m) fun _ w hR a hk hA=>⟨fc (hk),?_⟩);obtain rfl:=hR;have hS:=bV hA;refine vG 17 (v:=.bool ((g.Kind:Int) == b.Kind && g.Text.toList == b.Text.toList)) rfl (by kernel_rfl) (by kernel_rfl) (by kernel_rfl) rfl hQ hS (wP hS rfl rfl) rfl rfl rfl rfl rfl rfl fun a hS=>?_;refine gE [18,19,20] hS fun a hS=>?_;refine eD ?_;exact⟨_,hS.mt [] [1],hM⟩
  refine gE [3,4,5,6,7,8,9,10,11,12,13,14,15,16,17,18,19,20] hS fun a hS=>?_;refine eD ?_;exact⟨_,hS.mt [] [1],hM⟩
 rintro a w ⟨e,hS,hM⟩;unfold ew at hM;exact fz
def pa:Option Int:=some (0)
def jP (d:LU) (b:LK) (c:Int):Option (Fl (Int) (Fl (Unit) Int)):=cond (decide ((c:Int) < (b.length:Int))) ((be b c).bind fun e=>(lU d e).bind fun f=>cond (!(f)) (some (.out (.out 40))) (some (.go (IntKind.i64.wrap (c + 1))))) (some (.out (.go ())))
def jO (c:LU) (f:ai) (b:LK):Option Int:=(nN c).bind fun d=>cond (!(d)) (some (41)) ((jG f).bind fun e=>cond (!(e)) (some (42)) (cond (decide ((32:Int) < (b.length:Int))) (some (3)) ((loop (fun s:Int=>jP c b s) 0).bind fun r=>Fl.el r (fun s=>pa) (fun y=>some (y)))))
theorem pM (T:Nat→Prop) (W0:World) (hT:TW T W0) (hLv:cU T W0) (b:LU) (e:ai) (c:LK) (j:Value) (A:Value) (B:Value) (k:Value) (t:aA ay T W0 j b) (u:aA ad T W0 A e.Inputs) (x:aA aa T W0 B e.Records) (z:aA ac T W0 k c) (y:Int) (hM:jO b e c=some y):aW Tryz.prog No 84 [j,.agg (aQ e A B).toArray,k] W0 (fun v w'=>v = .int .i64 y):=by
 refine en Tryz.func84 Tryz.ntmps84 hT fun a hS=>?_;replace hS:=((((hS.fact bv (cU.dn hLv)).fS (aA.dn t)).fS (aA.dn u)).fS (aA.dn x)).fS (aA.dn z);unfold jO at hM;refine ah hS fun a hS=>?_;refine kb hS fun C H a w hk hS=>?_;refine ah hS fun a hS=>?_;refine az ?_;refine ah hS fun a hS=>?_;obtain⟨M,h,hM⟩:=bd hM;refine kc hS Ii (wT _ _ hS.dlt b _ (hS.get 3 rfl) _ h) fun _ w hR a hk hA=>?_;obtain rfl:=hR;have hS:=bV hA;refine ah hS fun a hS=>?_;rcases cd hM with⟨m,hM⟩|⟨m,hM⟩
 ·exact fz
 refine ah hS fun a hS=>?_;obtain⟨N,i,hM⟩:=bd hM;refine kc hS Gv (pJ _ _ hS.dlt (hS.get 4 rfl) e _ _ (hS.get 2 rfl) (hS.get 1 rfl) _ i) fun _ w hR a hk hA=>?_;obtain rfl:=hR;have hS:=bV hA;refine ah hS fun a hS=>?_;rcases cd hM with⟨n,hM⟩|⟨n,hM⟩
 ·exact fz
 refine ah hS fun a hS=>?_;rcases cd hM with⟨o,hM⟩|⟨o,hM⟩
 ·exact fz
 refine ah hS fun a hS=>?_;refine aG (J:=fun a w=>St W0 No T 32 [] [] [bv] a w∧pa=some y) ?_ ?_
 ·skip;refine ah hS fun a hS=>?_;obtain⟨O,r,hMo1⟩:=bd hM;refine bu _ (fun s a w=>∃ (d:Int),d=s∧St W0 No T 32 [(0,j),(21,k),(22,.int .i64 (c.length:Int)),(23,.int .i64 d)] [] [aJ ay j b,aJ ac k c,bv] a w) r ⟨_,rfl,hS.mt [] [3,0,4]⟩ ?_;rintro s a w G ⟨d,rfl,hS⟩ hM hf1;have hM:jP b c d=some G:=hM;unfold jP at hM;refine ah hS fun a hS=>?_;refine az ?_;rcases cd hM with⟨p,hM⟩|⟨p,hM⟩
  ·refine ah hS fun a hS=>?_;refine az ?_;refine ah hS fun a hS=>?_;obtain⟨l,f,hM⟩:=bd hM;refine wl rfl (bc (R:=ac) hS jd dd rfl rfl 1 rfl f rfl fun D K F q a hS=>?_);obtain rfl:=q;refine ah hS fun a hS=>?_;refine ka hS gh fun E I a w hk hS=>?_;refine go hS fun a w hS=>?_;obtain⟨L,g,hM⟩:=bd hM;refine kc hS FN (sD _ _ hS.dlt (hS.get 3 rfl) b l _ (hS.get 1 rfl) _ g) fun _ w hR a hk hA=>?_;obtain rfl:=hR;have hS:=bV hA;exact fz
  exact fz
 rintro a w ⟨hS,hM⟩;unfold pa at hM;exact fz
def iq (b:LU):Option LU:=some (b)
def fJ (e:LU) (d:LU) (c:Int):Option (Fl (LU×Int) (LU)):=cond (decide ((c:Int) < (e.length:Int))) ((be e c).bind fun b=>gd (br (([]:List cF).length + b.Asks.length)) <| gd (br (d.length + ([(aK.mk b.Ring (([]:List cF) ++ b.Asks) b.Final b.C)]).length)) <| some (.go ((d ++ ([(aK.mk b.Ring (([]:List cF) ++ b.Asks) b.Final b.C)])),IntKind.i64.wrap (c + 1)))) (some (.out d))
def iN (b:LU):Option LU:=(loop (fun s:LU×Int=>fJ b s.1 s.2) (([]:List aK),0)).bind fun r=>iq r
theorem tH (T:Nat→Prop) (W0:World) (hT:TW T W0) (g:LU) (p:Value) (A:aA ay T W0 p g) (y:LU) (hM:iN g=some y):aW Tryz.prog No 120 [p] W0 (fun v w'=>∃ (k:Value) (oh:List Value),v=k∧fu ay T W0 w' [bJ k oh] 89 k oh y):=by
 refine en Tryz.func120 Tryz.ntmps120 hT fun a hS=>?_;replace hS:=hS.fS (aA.dn A);unfold iN at hM;refine ah hS fun a hS=>?_;refine aG (J:=fun a w=>∃ (j:LU) (f:Value) (d:LV),St W0 No T 22 [(3,f)] [bJ f d] [am ay d j] a w∧iq j=some y) ?_ ?_
 ·skip;refine ah hS fun a hS=>?_;replace hS:=hS.nilRow ay 89 (by decide);obtain⟨O,z,hMo1⟩:=bd hM;refine bu _ (fun s a w=>∃ (c:LU) (e:Int) (l:Value) (h:LV),(c,e)=s∧St W0 No T 22 [(3,l),(6,p),(7,.int .i64 (g.length:Int)),(8,.int .i64 e)] [bJ l h] [am ay h c,aJ ay p g] a w) z ⟨_,_,_,_,rfl,hS.mt [0] [0,1]⟩ ?_;rintro s a w I ⟨c,e,l,h,rfl,hS⟩ hM hf1;have hM:fJ g c e=some I:=hM;unfold fJ at hM;refine ah hS fun a hS=>?_;refine az ?_;rcases cd hM with⟨q,hM⟩|⟨q,hM⟩
  ·refine ah hS fun a hS=>?_;refine az ?_;refine ah hS fun a hS=>?_;obtain⟨b,n,hM⟩:=bd hM;refine wl rfl (bc (R:=ay) hS uq tO rfl rfl 1 rfl n rfl fun B L F r a hS=>?_);obtain⟨M,rfl,o⟩:=r;replace hS:=hS.fS o;refine ah hS fun a hS=>?_;refine ka hS uX fun D K a w hk hS=>?_;refine go hS fun a w hS=>?_;replace hS:=hS.nilRow dN 93 (by decide);obtain⟨t,hM⟩:=aS hM;refine wl rfl (bw (R:=dN) (xs:=([]:List cF)) (ys:=b.Asks) hS GI (by decide) (by decide) rfl rfl 0 rfl 0 rfl 1 rfl t rfl fun m G a w hk hS=>?_);refine go hS fun a w hS=>?_;refine wl rfl (aT (ps:=[(0,.tmp 17)]) hS EF uX (zl:=[.bool false,.slice none 0 0,.int .i64 0,.int .i64 0]) (by kernel_rfl) rfl (us:=[(so b m)]) ⟨rfl,trivial⟩ (ws:=(so b m)) rfl rfl rfl rfl fun E a w hk hS=>?_);replace hS:=hS.freeze (R:=dN) 1 rfl 0 rfl;replace hS:=(hS.lit (R:=ay) (us:=(so b m)) (xs:=[(aK.mk b.Ring (([]:List cF) ++ b.Asks) b.Final b.C)]) 0 rfl (by decide) (aB.one_ (R:=ay) (x:=(aK.mk b.Ring (([]:List cF) ++ b.Asks) b.Final b.C)) (⟨_,rfl,(hS.get 0 rfl)⟩)) rfl rfl).freeze (R:=ay) 0 rfl 0 rfl;obtain⟨u,hM⟩:=aS hM;refine wl rfl (bw (R:=ay) (xs:=c) (ys:=[(aK.mk b.Ring (([]:List cF) ++ b.Asks) b.Final b.C)]) hS EF (by decide) (by decide) rfl rfl 1 rfl 7 rfl 0 rfl u rfl fun N H a w hk hS=>?_);exact fz
  exact fz
 rintro a w ⟨j,f,d,hS,hM⟩;unfold iq at hM;refine ah hS fun a hS=>?_;cases hM
 refine aE hS rfl (ap hS rfl aD) ?_;exact⟨f,d,rfl,hS.retOwn ⟨.inr (List.mem_of_getElem? (i:=0) rfl),trivial⟩ 0 rfl 0 rfl⟩
def cj (b:LF):Option LF:=some (b)
def bH (e:LF) (d:LF) (c:Int):Option (Fl (LF×Int) (LF)):=cond (decide ((c:Int) < (e.length:Int))) ((be e c).bind fun b=>gd (br (([]:List ae).length + b.Reads.length)) <| gd (br (([]:List ByteArray).length + b.Answers.length)) <| gd (br (d.length + ([(bf.mk b.Key b.Running b.At (([]:List ae) ++ b.Reads) (([]:List ByteArray) ++ b.Answers))]).length)) <| some (.go ((d ++ ([(bf.mk b.Key b.Running b.At (([]:List ae) ++ b.Reads) (([]:List ByteArray) ++ b.Answers))])),IntKind.i64.wrap (c + 1)))) (some (.out d))
def dt (b:LF):Option LF:=(loop (fun s:LF×Int=>bH b s.1 s.2) (([]:List bf),0)).bind fun r=>cj r
theorem sS (T:Nat→Prop) (W0:World) (hT:TW T W0) (g:LF) (z:Value) (G:aA ar T W0 z g) (y:LF) (hM:dt g=some y):aW Tryz.prog No 121 [z] W0 (fun v w'=>∃ (k:Value) (oh:List Value),v=k∧fu ar T W0 w' [cX k oh] 131 k oh y):=by
 refine en Tryz.func121 Tryz.ntmps121 hT fun a hS=>?_;replace hS:=hS.fS (aA.dn G);unfold dt at hM;refine ah hS fun a hS=>?_;refine aG (J:=fun a w=>∃ (j:LF) (f:Value) (d:LV),St W0 No T 26 [(3,f)] [cX f d] [am ar d j] a w∧cj j=some y) ?_ ?_
 ·skip;refine ah hS fun a hS=>?_;replace hS:=hS.nilRow ar 131 (by decide);obtain⟨V,F,hMo1⟩:=bd hM;refine bu _ (fun s a w=>∃ (c:LF) (e:Int) (m:Value) (h:LV),(c,e)=s∧St W0 No T 26 [(3,m),(6,z),(7,.int .i64 (g.length:Int)),(8,.int .i64 e)] [cX m h] [am ar h c,aJ ar z g] a w) F ⟨_,_,_,_,rfl,hS.mt [0] [0,1]⟩ ?_;rintro s a w O ⟨c,e,m,h,rfl,hS⟩ hM hf1;have hM:bH g c e=some O:=hM;unfold bH at hM;refine ah hS fun a hS=>?_;refine az ?_;rcases cd hM with⟨A,hM⟩|⟨A,hM⟩
  ·refine ah hS fun a hS=>?_;refine az ?_;refine ah hS fun a hS=>?_;obtain⟨b,r,hM⟩:=bd hM;refine wl rfl (bc (R:=ar) hS wv rJ rfl rfl 1 rfl r rfl fun H Q K B a hS=>?_);obtain⟨S,q,rfl,t,u⟩:=B;replace hS:=(hS.fS t).fS u;refine ah hS fun a hS=>?_;refine ka hS qo fun p P a w hk hS=>?_;refine go hS fun a w hS=>?_;refine az ?_;replace hS:=(hS.nilRow ac 44 (by decide)).nilRow aN.str 9 (by decide);refine dr [(2,.blk (Value.ownBlock (.slice none 0 0))),(5,.blk (Value.ownBlock (.slice none 0 0))),(7,.blk (some p)),(9,.blk (some p))] hS fun w hQ hS=>?_;refine gE [0,1,3] hS fun a hS=>?_;refine dy (l:=[.blk (Value.ownBlock (.slice none 0 0))]) 4 (v:=q) rfl (by kernel_rfl) (by kernel_rfl) (by kernel_rfl) (by kernel_rfl) hQ hS (dH hS rfl AI 2 rfl (ic hS 2 rfl rfl 0 rfl rfl (by decide) bo) (us:=[q]) rfl rfl (fun _=>rfl)) rfl rfl rfl fun a hS=>?_;obtain⟨C,hM⟩:=aS hM;refine e1 2 (bw (R:=ac) (xs:=([]:List ae)) (ys:=b.Reads) hS gm (by decide) (by decide) rfl rfl 1 rfl 1 rfl 3 rfl C rfl fun n L a w hk hS=>⟨kB rfl hk kH,?_⟩);refine gE [6] hS fun a hS=>?_;obtain⟨D,hM⟩:=aS hM;refine e1 5 (bw (R:=aN.str) (xs:=([]:List ByteArray)) (ys:=b.Answers) hS uQ (by decide) (by decide) rfl rfl 0 rfl 1 rfl 3 rfl D rfl fun o M a w hk hS=>⟨kB rfl hk kH,?_⟩);refine es 7 hS fun w hS=>?_;refine gE [8] hS fun a hS=>?_;refine es 9 hS fun w hS=>?_;refine eD ?_;refine ah hS fun a hS=>?_;refine wl rfl (aT (ps:=[(0,.tmp 21)]) hS xQ qo (zl:=[.int .i64 0,.string (ByteArray.mk #[]),.bool false,.int .i64 0,.slice none 0 0,.slice none 0 0]) (by kernel_rfl) rfl (us:=[(kr b n o)]) ⟨rfl,trivial⟩ (ws:=(kr b n o)) rfl rfl rfl rfl fun I a w hk hS=>?_);replace hS:=(hS.freeze (R:=ac) 2 rfl 1 rfl).freeze (R:=aN.str) 1 rfl 1 rfl;replace hS:=(hS.lit (R:=ar) (us:=(kr b n o)) (xs:=[(bf.mk b.Key b.Running b.At (([]:List ae) ++ b.Reads) (([]:List ByteArray) ++ b.Answers))]) 0 rfl (by decide) (aB.one_ (R:=ar) (x:=(bf.mk b.Key b.Running b.At (([]:List ae) ++ b.Reads) (([]:List ByteArray) ++ b.Answers))) (⟨_,_,rfl,(hS.get 1 rfl),(hS.get 0 rfl)⟩)) rfl rfl).freeze (R:=ar) 0 rfl 0 rfl;obtain⟨E,hM⟩:=aS hM;refine wl rfl (bw (R:=ar) (xs:=c) (ys:=[(bf.mk b.Key b.Running b.At (([]:List ae) ++ b.Reads) (([]:List ByteArray) ++ b.Answers))]) hS xQ (by decide) (by decide) rfl rfl 1 rfl 11 rfl 0 rfl E rfl fun U N a w hk hS=>?_);exact fz
  exact fz
 rintro a w ⟨j,f,d,hS,hM⟩;unfold cj at hM;refine ah hS fun a hS=>?_;cases hM
 refine aE hS rfl (ap hS rfl aD) ?_;exact⟨f,d,rfl,hS.retOwn ⟨.inr (List.mem_of_getElem? (i:=0) rfl),trivial⟩ 0 rfl 0 rfl⟩
def lF (b:cG):Option cG:=(iN b.Rules).bind fun c=>(dX b.Base).bind fun d=>gd (br (([]:List ae).length + b.Goals.length)) <| (dt b.Stack).bind fun e=>gd (br (([]:List ae).length + b.Ran.length)) <| some ((cG.mk c d (([]:List ae) ++ b.Goals) e (([]:List ae) ++ b.Ran)))
theorem qG (T:Nat→Prop) (W0:World) (hT:TW T W0) (b:cG) (Z:Value) (v2:Value) (v3:Value) (v4:Value) (F:Value) (G:Value) (hD:vd T W0 []) (S:aA ay (dT T []) W0 Z b.Rules) (U:aA ad (dT T []) W0 v2 b.Base.Inputs) (V:aA aa (dT T []) W0 v3 b.Base.Records) (W:aA ac (dT T []) W0 v4 b.Goals) (X:aA ar (dT T []) W0 F b.Stack) (Y:aA ac (dT T []) W0 G b.Ran) (y:cG) (hM:lF b=some y):aW Tryz.prog (MD []) 85 [.agg (sr b Z v2 v3 v4 F G).toArray] W0 (fun v w'=>∃ (s:Value) (tT:List Value) (t:Value) (oL:List Value) (h:Value) (qs:List Value) (j:Value) (e:List Value) (k:Value) (f:List Value) (g:Value) (d:List Value),v = .agg (sr y s t h j k g).toArray∧aB ay (dT T [bJ s tT,aR t oL,aH h qs,au j e,cX k f,au g d]) w' tT y.Rules∧aB ad (dT T [bJ s tT,aR t oL,aH h qs,au j e,cX k f,au g d]) w' oL y.Base.Inputs∧aB aa (dT T [bJ s tT,aR t oL,aH h qs,au j e,cX k f,au g d]) w' qs y.Base.Records∧aB ac (dT T [bJ s tT,aR t oL,aH h qs,au j e,cX k f,au g d]) w' e y.Goals∧aB ar (dT T [bJ s tT,aR t oL,aH h qs,au j e,cX k f,au g d]) w' f y.Stack∧aB ac (dT T [bJ s tT,aR t oL,aH h qs,au j e,cX k f,au g d]) w' d y.Ran∧n7 W0 w' [] [bJ s tT,aR t oL,aH h qs,au j e,cX k f,au g d]):=by
 refine jp (c:=_) Tryz.func85 rfl T 19 Tryz.ntmps85 hT rfl hD fun a hS=>?_;replace hS:=(((((hS.fS S).fS U).fS V).fS W).fS X).fS Y;unfold lF at hM;refine ah hS fun a hS=>?_;refine kb hS fun a3 a4 a w hk hS=>?_;refine ka hS wH fun H a5 a w hk hS=>?_;refine ah hS fun a hS=>?_;refine az ?_;replace hS:=(hS.nilRow ac 44 (by decide)).nilRow ac 44 (by decide);refine dr [(8,.blk (Value.ownBlock (.slice none 0 0))),(14,.blk (Value.ownBlock (.slice none 0 0))),(16,.blk (some H))] hS fun w hQ hS=>?_;refine gE [0,1,3,4,6,7,9] hS fun a hS=>?_;refine dy (l:=[.blk (Value.ownBlock (.slice none 0 0))]) 10 (v:=F) rfl (by kernel_rfl) (by kernel_rfl) (by kernel_rfl) (by kernel_rfl) hQ hS (dH hS rfl Ju 3 rfl (ic hS 3 rfl rfl 0 rfl rfl (by decide) bo) (us:=[F]) rfl rfl (fun _=>rfl)) rfl rfl rfl fun a hS=>?_;refine gE [12] hS fun a hS=>?_;refine dy (l:=[.blk (Value.ownBlock (.slice none 0 0))]) 13 (v:=G) rfl (by kernel_rfl) (by kernel_rfl) (by kernel_rfl) (by kernel_rfl) hQ hS (dH hS rfl AH 3 rfl (ic hS 3 rfl rfl 0 rfl rfl (by decide) bo) (us:=[G]) rfl rfl (fun _=>rfl)) rfl rfl rfl fun a hS=>?_;obtain⟨a9,C,hM⟩:=bd hM;refine ec 2 hS Ij (tH _ _ hS.dlt b.Rules _ (hS.get 7 rfl) _ C) fun _ w hR a hk hA=>?_;obtain⟨m,I,he,x⟩:=hR;obtain rfl:=he.symm;have hS:=oI hA x;obtain⟨u,D,hM⟩:=bd hM;refine ec 5 hS vr (dD _ _ hS.dlt b.Base _ _ (hS.get 7 rfl) (hS.get 6 rfl) _ D) fun _ w hR a hk hA=>?_;obtain⟨n,J,o,K,he,z,A,Q⟩:=hR;obtain rfl:=he.symm;have hS:=s7 hA z A Q;obtain⟨O,hM⟩:=aS hM;refine e1 8 (bw (R:=ac) (xs:=([]:List ae)) (ys:=b.Goals) hS gm (by decide) (by decide) rfl rfl 4 rfl 3 rfl 7 rfl O rfl fun p L a w hk hS=>⟨kB rfl hk kH,?_⟩);obtain⟨ab,E,hM⟩:=bd hM;refine ec 11 hS FO (sS _ _ hS.dlt b.Stack _ (hS.get 7 rfl) _ E) fun _ w hR a hk hA=>?_;obtain⟨q,M,he,B⟩:=hR;obtain rfl:=he.symm;have hS:=oI hA B;obtain⟨P,hM⟩:=aS hM;refine e1 14 (bw (R:=ac) (xs:=([]:List ae)) (ys:=b.Ran) hS gm (by decide) (by decide) rfl rfl 4 rfl 5 rfl 7 rfl P rfl fun r N a w hk hS=>⟨kB rfl hk kH,?_⟩);refine dy 15 (v:=.agg #[m,.int .i64 u.Revision,n,o,p,q,r]) rfl (by kernel_rfl) (by kernel_rfl) (by kernel_rfl) rfl hQ hS (bj (ps:=[(0,.tmp 5),(1,.tmp 8),(2,.tmp 11),(3,.tmp 14),(4,.tmp 17)]) hS HF wH rfl (us:=[[m],(aQ u n o),[p],[q],[r]]) ⟨(ik (gy (hS.own _ (List.mem_of_getElem? (i:=3) rfl)).1)),⟨rfl,⟨(ik (gy (hS.own _ (List.mem_of_getElem? (i:=5) rfl)).1)),⟨(ik (gy (hS.own _ (List.mem_of_getElem? (i:=0) rfl)).1)),⟨(ik (gy (hS.own _ (List.mem_of_getElem? (i:=4) rfl)).1)),trivial⟩⟩⟩⟩⟩ (ws:=[m,.int .i64 u.Revision,n,o,p,q,r]) rfl) rfl rfl rfl fun a hS=>?_;refine es 16 hS fun w hS=>?_;refine eD ?_;refine ah hS fun a hS=>?_;cases hM
 refine aE hS rfl (rC 6 hS) ?_;have hZ:=hS.sl [3,1,2,5,0,4] [5,4,3,2,1,0];exact⟨m,I,n,J,o,K,p,L,q,M,r,N,rfl,(hZ.get 0 rfl),(hZ.get 1 rfl),(hZ.get 2 rfl),(hZ.get 3 rfl),(hZ.get 4 rfl),(hZ.get 5 rfl),hZ.dnew⟩
def nS (c:LU) (e:ai) (b:LK):Option (cG×Int):=(jO c e b).bind fun d=>cond ((d:Int) != 0) (some (((cG.mk ([]:List aK) (ai.mk 0 ([]:List aI) ([]:List an)) ([]:List ae) ([]:List bf) ([]:List ae)),d))) ((lF (cG.mk c e b ([]) ([]))).bind fun f=>some ((f,0)))
theorem pN (T:Nat→Prop) (W0:World) (hT:TW T W0) (f:LU) (g:ai) (e:LK) (z:Value) (A:Value) (B:Value) (C:Value) (hD:vd T W0 []) (R:aA ay (dT T []) W0 z f) (S:aA ad (dT T []) W0 A g.Inputs) (U:aA aa (dT T []) W0 B g.Records) (V:aA ac (dT T []) W0 C e) (hLv:cU (dT T []) W0) (y:cG×Int) (hM:nS f g e=some y):aW Tryz.prog (MD []) 55 [z,.agg (aQ g A B).toArray,C] W0 (fun v w'=>∃ (l:Value) (yF:List Value) (m:Value) (tT:List Value) (n:Value) (oL:List Value) (i:Value) (qs:List Value) (j:Value) (b:List Value) (k:Value) (d:List Value),v = .tuple #[.agg (sr y.1 l m n i j k).toArray,.int .i64 y.2]∧aB ay (dT T [bJ l yF,aR m tT,aH n oL,au i qs,cX j b,au k d]) w' yF y.1.Rules∧aB ad (dT T [bJ l yF,aR m tT,aH n oL,au i qs,cX j b,au k d]) w' tT y.1.Base.Inputs∧aB aa (dT T [bJ l yF,aR m tT,aH n oL,au i qs,cX j b,au k d]) w' oL y.1.Base.Records∧aB ac (dT T [bJ l yF,aR m tT,aH n oL,au i qs,cX j b,au k d]) w' qs y.1.Goals∧aB ar (dT T [bJ l yF,aR m tT,aH n oL,au i qs,cX j b,au k d]) w' b y.1.Stack∧aB ac (dT T [bJ l yF,aR m tT,aH n oL,au i qs,cX j b,au k d]) w' d y.1.Ran∧n7 W0 w' [] [bJ l yF,aR m tT,aH n oL,au i qs,cX j b,au k d]):=by
 refine jp (c:=_) Tryz.func55 rfl T 22 Tryz.ntmps55 hT rfl hD fun a hS=>?_;replace hS:=((((hS.fact bv hLv).fS R).fS S).fS U).fS V;unfold nS at hM;refine ah hS fun a hS=>?_;refine kb hS fun W Y a w hk hS=>?_;refine ka hS wH fun X Z a w hk hS=>?_;refine ah hS fun a hS=>?_;refine az ?_;refine ah hS fun a hS=>?_;obtain⟨a0,u,hM⟩:=bd hM;refine kc hS Gz (pM _ _ hS.dlt (hS.get 4 rfl) f g e _ _ _ _ (hS.get 3 rfl) (hS.get 2 rfl) (hS.get 1 rfl) (hS.get 0 rfl) _ u) fun _ w hR a hk hA=>?_;obtain rfl:=hR;have hS:=bV hA;refine ah hS fun a hS=>?_;rcases cd hM with⟨J,hM⟩|⟨J,hM⟩
 ·refine ah hS fun a hS=>?_;refine qy hS (bj (ps:=[]) hS HF wH rfl (us:=[]) trivial (ws:=[.slice none 0 0,.int .i64 0,.slice none 0 0,.slice none 0 0,.slice none 0 0,.slice none 0 0,.slice none 0 0]) rfl) fun a hS=>?_;refine go hS fun a w hS=>?_;replace hS:=(((((hS.nilRow ay 89 (by decide)).nilRow ad 69 (by decide)).nilRow aa 84 (by decide)).nilRow ac 44 (by decide)).nilRow ar 131 (by decide)).nilRow ac 44 (by decide);cases hM
  refine aE hS Tryz.results55 (a7 hS rfl 6 rfl uw rfl (fun h=>by cases h) (ap hS rfl aD)) ?_;have hZ:=hS.sl [5,4,3,2,1,0] [5,4,3,0,1];exact⟨(.slice none 0 0),[],(.slice none 0 0),[],(.slice none 0 0),[],(.slice none 0 0),[],(.slice none 0 0),[],(.slice none 0 0),[],rfl,(hZ.get 0 rfl),(hZ.get 1 rfl),(hZ.get 2 rfl),(hZ.get 3 rfl),(hZ.get 4 rfl),(hZ.get 3 rfl),hZ.dnew⟩
 refine ah hS fun a hS=>?_;refine qy hS (bj (ps:=[(0,.tmp 17),(1,.tmp 18),(2,.tmp 19)]) hS HF wH rfl (us:=[[z],(aQ g A B),[C]]) ⟨(ik (aA.one ((hS.get 3 rfl):aA ay _ _ _ _))),⟨rfl,⟨(ik (aA.one ((hS.get 0 rfl):aA ac _ _ _ _))),trivial⟩⟩⟩ (ws:=[z,.int .i64 g.Revision,A,B,C,.slice none 0 0,.slice none 0 0]) rfl) fun a hS=>?_;replace hS:=(hS.fact (aJ ar (.slice none 0 0) []) (aA.nil_ _ _ _)).fact (aJ ac (.slice none 0 0) []) (aA.nil_ _ _ _);obtain⟨a1,x,hM⟩:=bd hM;replace hS:=hS.re [] [0,1];refine wl rfl (cu hS GA rfl rfl (qG _ _ hS.dltD (cG.mk f g e ([]) ([])) _ _ _ _ _ _ hS.dok (hS.getD 5 rfl) (hS.getD 4 rfl) (hS.getD 3 rfl) (hS.getD 2 rfl) (hS.getD 1 rfl) (hS.getD 0 rfl) _ x) fun _ w hR a hk hA=>?_);obtain⟨L,D,M,E,N,F,O,G,P,H,Q,I,he,o,p,q,r,s,t,K⟩:=hR;obtain rfl:=he.symm;have hS:=hA _ K;replace hS:=(((((hS.fR (o.keep (Kt.refl _ _) (aw _))).fR (p.keep (Kt.refl _ _) (aw _))).fR (q.keep (Kt.refl _ _) (aw _))).fR (r.keep (Kt.refl _ _) (aw _))).fR (s.keep (Kt.refl _ _) (aw _))).fR (t.keep (Kt.refl _ _) (aw _));refine go hS fun a w hS=>?_;cases hM
 refine aE hS Tryz.results55 (a7 hS rfl 6 rfl uw rfl (fun h=>by cases h) (ap hS rfl aD)) ?_;have hZ:=hS.sl [0,1,2,3,4,5] [5,4,3,2,1,0];exact⟨L,D,M,E,N,F,O,G,P,H,Q,I,rfl,(hZ.get 0 rfl),(hZ.get 1 rfl),(hZ.get 2 rfl),(hZ.get 3 rfl),(hZ.get 4 rfl),(hZ.get 5 rfl),hZ.dnew⟩
def qe (k:aP) (b:LU):Option (ae×aP):=(bF k 8).bind fun c=>cond ((c.1:Int) == 1) ((bF (aP.mk c.2.L c.2.At) 4).bind fun e=>(cW e.1).bind fun h=>some ((h,(aP.mk e.2.L e.2.At)))) ((bF (aP.mk c.2.L c.2.At) 2).bind fun d=>cond ((d.1:Int) == 0) ((bF (aP.mk d.2.L d.2.At) (min 3 (b.length:Int))).bind fun f=>(jx b (IntKind.i64.wrap ((IntKind.i64.wrap ((b.length:Int) - 1)) - f.1))).bind fun i=>some ((i,(aP.mk f.2.L f.2.At)))) ((bF (aP.mk d.2.L d.2.At) (b.length:Int)).bind fun g=>(jx b g.1).bind fun j=>some ((j,(aP.mk g.2.L g.2.At)))))
theorem zo (T:Nat→Prop) (W0:World) (hT:TW T W0) (e:aP) (b:LU) (u:Value) (Q:Value) (d:Nat) (x:W0.heap[d]? = some (.cells (aZ e u).toArray 64 (0,0))) (J:¬ T d) (O:aA (aN.int .i64) (dT T [.box d (aZ e u) 64]) W0 u e.L) (P:aA ay (dT T [.box d (aZ e u) 64]) W0 Q b) (hLv:cU (dT T [.box d (aZ e u) 64]) W0) (y:ae×aP) (hM:qe e b=some y):aW Tryz.prog (fun k=>k=d) 86 [pt d 0,Q] W0 (fun v w'=>∃ (N:Value),v = .agg (aM y.1).toArray∧w'.heap[d]? = some (.cells (aZ y.2 N).toArray 64 (0,0))∧aA (aN.int .i64) (dT T [.box d (aZ y.2 N) 64]) w' N y.2.L):=by
 refine pB (c:=_) Tryz.func86 rfl T 31 Tryz.ntmps86 hT rfl x J fun a hS=>?_;replace hS:=((hS.fact bv hLv).fS O).fS P;unfold qe at hM;refine ah hS fun a hS=>?_;refine ka hS gh fun R S a w hk hS=>?_;refine ah hS fun a hS=>?_;refine az ?_;refine ah hS fun a hS=>?_;obtain⟨f,z,hM⟩:=bd hM;refine wl rfl (bS hS lA rfl rfl 1 rfl (bh _ _ (hS.drop 1).dlt e 8 _ _ (hS.boxRow 1 rfl) (hS.notin 1 rfl) (aA.lent (i:=1) rfl (hS.get 1 rfl)) _ z) fun _ w hR hk=>?_);obtain⟨K,he,hrow,h⟩:=hR;obtain rfl:=he.symm;refine⟨(aZ f.2 K),hrow,fun a hS=>?_⟩;replace hS:=hS.fS (aA.back (i:=1) rfl h);refine ah hS fun a hS=>?_;rcases cd hM with⟨H,hM⟩|⟨H,hM⟩
 ·refine ah hS fun a hS=>?_;obtain⟨o,A,hM⟩:=bd hM;refine wl rfl (bS hS lA rfl rfl 1 rfl (bh _ _ (hS.drop 1).dlt (aP.mk f.2.L f.2.At) 4 _ _ (hS.boxRow 1 rfl) (hS.notin 1 rfl) (aA.lent (i:=1) rfl (hS.get 0 rfl)) _ A) fun _ w hR hk=>?_);obtain⟨r,he,hrow,j⟩:=hR;obtain rfl:=he.symm;refine⟨(aZ o.2 r),hrow,fun a hS=>?_⟩;replace hS:=hS.fS (aA.back (i:=1) rfl j);obtain⟨U,B,hM⟩:=bd hM;refine kc hS wK (d9 _ _ hS.dlt (hS.get 4 rfl) o.1 _ B) fun _ w hR a hk hA=>?_;obtain rfl:=hR;have hS:=bV hA;refine go hS fun a w hS=>?_;cases hM
  refine aE hS rfl (rC 0 hS) ?_;exact⟨r,rfl,hS.boxRow 1 rfl,(aA.up ⟨.inr (List.mem_of_getElem? (i:=1) rfl),trivial⟩ (hS.get 0 rfl))⟩
 refine ah hS fun a hS=>?_;refine az ?_;refine ah hS fun a hS=>?_;obtain⟨g,C,hM⟩:=bd hM;refine wl rfl (bS hS lA rfl rfl 1 rfl (bh _ _ (hS.drop 1).dlt (aP.mk f.2.L f.2.At) 2 _ _ (hS.boxRow 1 rfl) (hS.notin 1 rfl) (aA.lent (i:=1) rfl (hS.get 0 rfl)) _ C) fun _ w hR hk=>?_);obtain⟨M,he,hrow,l⟩:=hR;obtain rfl:=he.symm;refine⟨(aZ g.2 M),hrow,fun a hS=>?_⟩;replace hS:=hS.fS (aA.back (i:=1) rfl l);refine ah hS fun a hS=>?_;rcases cd hM with⟨I,hM⟩|⟨I,hM⟩
 ·refine ah hS fun a hS=>?_;refine qy hS (Gh hS rfl rfl) fun a hS=>?_;obtain⟨p,D,hM⟩:=bd hM;refine wl rfl (bS hS lA rfl rfl 1 rfl (bh _ _ (hS.drop 1).dlt (aP.mk g.2.L g.2.At) (min 3 (b.length:Int)) _ _ (hS.boxRow 1 rfl) (hS.notin 1 rfl) (aA.lent (i:=1) rfl (hS.get 0 rfl)) _ D) fun _ w hR hk=>?_);obtain⟨s,he,hrow,m⟩:=hR;obtain rfl:=he.symm;refine⟨(aZ p.2 s),hrow,fun a hS=>?_⟩;replace hS:=hS.fS (aA.back (i:=1) rfl m);refine ah hS fun a hS=>?_;obtain⟨V,E,hM⟩:=bd hM;refine kc hS xf (m6 _ _ hS.dlt (hS.get 5 rfl) b (IntKind.i64.wrap ((IntKind.i64.wrap ((b.length:Int) - 1)) - p.1)) _ (hS.get 3 rfl) _ E) fun _ w hR a hk hA=>?_;obtain rfl:=hR;have hS:=bV hA;refine go hS fun a w hS=>?_;cases hM
  refine aE hS rfl (rC 0 hS) ?_;exact⟨s,rfl,hS.boxRow 1 rfl,(aA.up ⟨.inr (List.mem_of_getElem? (i:=1) rfl),trivial⟩ (hS.get 0 rfl))⟩
 refine ah hS fun a hS=>?_;obtain⟨q,F,hM⟩:=bd hM;refine wl rfl (bS hS lA rfl rfl 1 rfl (bh _ _ (hS.drop 1).dlt (aP.mk g.2.L g.2.At) (b.length:Int) _ _ (hS.boxRow 1 rfl) (hS.notin 1 rfl) (aA.lent (i:=1) rfl (hS.get 0 rfl)) _ F) fun _ w hR hk=>?_);obtain⟨t,he,hrow,n⟩:=hR;obtain rfl:=he.symm;refine⟨(aZ q.2 t),hrow,fun a hS=>?_⟩;replace hS:=hS.fS (aA.back (i:=1) rfl n);obtain⟨W,G,hM⟩:=bd hM;refine kc hS xf (m6 _ _ hS.dlt (hS.get 5 rfl) b q.1 _ (hS.get 3 rfl) _ G) fun _ w hR a hk hA=>?_;obtain rfl:=hR;have hS:=bV hA;refine go hS fun a w hS=>?_;cases hM
 refine aE hS rfl (rC 0 hS) ?_;exact⟨t,rfl,hS.boxRow 1 rfl,(aA.up ⟨.inr (List.mem_of_getElem? (i:=1) rfl),trivial⟩ (hS.get 0 rfl))⟩
def nr (d:LK) (b:LN) (c:Int):Option (LK×aP):=some ((d,(aP.mk b c)))
def ns (g:LU) (c:LK) (f:Int) (d:LN) (e:Int):Option (Fl (LK×Int×LN×Int) (LK×LN×Int)):=cond (decide ((0:Int) < f)) ((qe (aP.mk d e) g).bind fun b=>gd (br (c.length + ([(ae.mk b.1.Kind b.1.Text)]).length)) <| some (.go ((c ++ ([(ae.mk b.1.Kind b.1.Text)])),IntKind.i64.wrap (f - 1),b.2.L,b.2.At))) (some (.out (c,d,e)))
def m3 (e:aP) (c:LU) (d:Int):Option (LK×aP):=(bF e d).bind fun b=>(loop (fun s:LK×Int×LN×Int=>ns c s.1 s.2.1 s.2.2.1 s.2.2.2) (([]:List ae),IntKind.i64.wrap (b.1 + 1),b.2.L,b.2.At)).bind fun r=>nr r.1 r.2.1 r.2.2
theorem qz (T:Nat→Prop) (W0:World) (hT:TW T W0) (j:aP) (d:LU) (n:Int) (E:Value) (H:Value) (e:Nat) (S:W0.heap[e]? = some (.cells (aZ j E).toArray 64 (0,0))) (N:¬ T e) (V:aA (aN.int .i64) (dT T [.box e (aZ j E) 64]) W0 E j.L) (W:aA ay (dT T [.box e (aZ j E) 64]) W0 H d) (hLv:cU (dT T [.box e (aZ j E) 64]) W0) (y:LK×aP) (hM:m3 j d n=some y):aW Tryz.prog (fun k=>k=e) 56 [pt e 0,H,.int .i64 n] W0 (fun v w'=>∃ (o:Value) (tX:List Value) (I:Value),v=o∧fu ac T W0 w' [au o tX,.box e (aZ y.2 I) 64] 44 o tX y.1∧w'.heap[e]? = some (.cells (aZ y.2 I).toArray 64 (0,0))∧aA (aN.int .i64) (dT T [au o tX,.box e (aZ y.2 I) 64]) w' I y.2.L):=by
 refine pB (c:=_) Tryz.func56 rfl T 24 Tryz.ntmps56 hT rfl S N fun a hS=>?_;replace hS:=((hS.fact bv hLv).fS V).fS W;unfold m3 at hM;refine ah hS fun a hS=>?_;refine aG (J:=fun a w=>∃ (z:LK) (t:LN) (u:Int) (p:Value) (l:LV) (q:Value),St W0 (fun k=>k=e) T 24 [(7,p)] [au p l,.box e [q,.int .i64 u] 64] [am ac l z,aJ (aN.int .i64) q t,bv] a w∧nr z t u=some y) ?_ ?_
 ·skip;refine ah hS fun a hS=>?_;obtain⟨O,G,hM⟩:=bd hM;refine wl rfl (bS hS lA rfl rfl 0 rfl (bh _ _ (hS.drop 0).dlt j n _ _ (hS.boxRow 0 rfl) (hS.notin 0 rfl) (aA.lent (i:=0) rfl (hS.get 1 rfl)) _ G) fun _ w hR hk=>?_);obtain⟨P,he,hrow,C⟩:=hR;obtain rfl:=he.symm;refine⟨(aZ O.2 P),hrow,fun a hS=>?_⟩;replace hS:=hS.fS (aA.back (i:=0) rfl C);refine ah hS fun a hS=>?_;replace hS:=hS.nilRow ac 44 (by decide);obtain⟨r1,U,hMo1⟩:=bd hM;refine bu _ (fun s a w=>∃ (h:LK) (m:Int) (f:LN) (g:Int) (A:Value) (r:LV) (B:Value),(h,m,f,g)=s∧St W0 (fun k=>k=e) T 24 [(0,pt e 0),(1,H),(7,A),(8,.int .i64 m)] [au A r,.box e [B,.int .i64 g] 64] [aJ ay H d,am ac r h,aJ (aN.int .i64) B f,bv] a w) U ⟨_,_,_,_,_,_,_,rfl,hS.mt [0,1] [2,0,1,4]⟩ ?_;rintro s a w Z ⟨h,m,f,g,A,r,B,rfl,hS⟩ hM hf1;have hM:ns d h m f g=some Z:=hM;unfold ns at hM;refine az ?_;refine ah hS fun a hS=>?_;rcases cd hM with⟨K,hM⟩|⟨K,hM⟩
  ·refine ah hS fun a hS=>?_;refine az ?_;refine ah hS fun a hS=>?_;obtain⟨b,F,hM⟩:=bd hM;refine wl rfl (bS hS Kh rfl rfl 1 rfl (zo _ _ (hS.drop 1).dlt (aP.mk f g) d _ _ _ (hS.boxRow 1 rfl) (hS.notin 1 rfl) (aA.lent (i:=1) rfl (hS.get 2 rfl)) (aA.lent (i:=1) rfl (hS.get 0 rfl)) (bv.keep (hS.get 3 rfl) (Kt.refl _ _) (fun k hk=>.inl ((pY (i:=1) rfl k).1 hk))) _ F) fun _ w hR hk=>?_);obtain⟨Q,he,hrow,D⟩:=hR;obtain rfl:=he.symm;refine⟨(aZ b.2 Q),hrow,fun a hS=>?_⟩;replace hS:=hS.fS (aA.back (i:=1) rfl D);refine wl rfl (aT (ps:=[(0,.tmp 20)]) hS gm gh (zl:=[.int .i64 0,.string (ByteArray.mk #[])]) (by kernel_rfl) rfl (us:=[(aM b.1)]) ⟨rfl,trivial⟩ (ws:=(aM b.1)) rfl rfl rfl rfl fun X a w hk hS=>?_);replace hS:=(hS.lit (R:=ac) (us:=(aM b.1)) (xs:=[(ae.mk b.1.Kind b.1.Text)]) 0 rfl (by decide) (aB.one_ (R:=ac) (x:=(ae.mk b.1.Kind b.1.Text)) rfl) rfl rfl).freeze (R:=ac) 0 rfl 0 rfl;obtain⟨M,hM⟩:=aS hM;refine wl rfl (bw (R:=ac) (xs:=h) (ys:=[(ae.mk b.1.Kind b.1.Text)]) hS gm (by decide) (by decide) rfl rfl 0 rfl 4 rfl 0 rfl M rfl fun a0 Y a w hk hS=>?_);exact fz
  refine ah hS fun a hS=>?_;cases hM
  have hr:=hf1 _ rfl;subst hr;have hM:nr h f g=some y:=hMo1;exact⟨_,_,_,_,_,_,hS.mt [0,1] [1,2,3],hM⟩
 rintro a w ⟨z,t,u,p,l,q,hS,hM⟩;unfold nr at hM;refine ah hS fun a hS=>?_;cases hM
 refine aE hS rfl (ap hS rfl aD) ?_;exact⟨p,l,q,rfl,hS.retOwnm ⟨.inr (List.mem_of_getElem? (i:=0) rfl),⟨.inr (List.mem_of_getElem? (i:=1) rfl),trivial⟩⟩ 0 rfl 0 rfl 1 rfl (by decide),hS.boxRow 1 rfl,(aA.up ⟨.inr (List.mem_of_getElem? (i:=0) rfl),⟨.inr (List.mem_of_getElem? (i:=1) rfl),trivial⟩⟩ (hS.get 1 rfl))⟩
def pG:Option (an×Bool):=some (((an.mk (ae.mk 0 (ByteArray.mk #[])) (ByteArray.mk #[]) ([]) 0 0 0 false),false))
def gt (e:LR) (d:ae) (c:Int):Option (Fl (Int) (Fl (Unit) (an×Bool))):=cond (decide ((c:Int) < (e.length:Int))) ((be e c).bind fun b=>cond ((b.Key.Kind:Int) == d.Kind && b.Key.Text.toList == d.Text.toList) ((fa b).bind fun f=>some (.out (.out (f,true)))) (some (.go (IntKind.i64.wrap (c + 1))))) (some (.out (.go ())))
def cn (c:LR) (b:ae):Option (an×Bool):=(loop (fun s:Int=>gt c b s) 0).bind fun r=>Fl.el r (fun s=>pG) (fun y=>some (y))
theorem bI (T:Nat→Prop) (W0:World) (hT:TW T W0) (e:LR) (b:ae) (n:Value) (z:aA aa T W0 n e) (y:an×Bool) (hM:cn e b=some y):aW Tryz.prog No 129 [n,.agg (aM b).toArray] W0 (fun v w'=>∃ (u:Value) (oh:List Value),v = .tuple #[.agg (a6 y.1 u).toArray,.bool y.2]∧fu ac T W0 w' [au u oh] 44 u oh y.1.Reads):=by
 refine en Tryz.func129 Tryz.ntmps129 hT fun a hS=>?_;replace hS:=hS.fS (aA.dn z);unfold cn at hM;refine ah hS fun a hS=>?_;refine kb hS fun g E a w hk hS=>?_;refine ka hS ft fun c F a w hk hS=>?_;refine ah hS fun a hS=>?_;refine aG (J:=fun a w=>St W0 No T 22 [(4,pt c 0)] [.box c [.int .i64 0,.string (ByteArray.mk #[]),.string (ByteArray.mk #[]),.slice none 0 0,.int .i64 0,.int .i64 0,.int .i64 0,.bool false] 84] [] a w∧pG=some y) ?_ ?_
 ·skip;refine ah hS fun a hS=>?_;obtain⟨L,x,hMo1⟩:=bd hM;refine bu _ (fun s a w=>∃ (d:Int),d=s∧St W0 No T 22 [(3,pt g 0),(4,pt c 0),(8,n),(9,.int .i64 (e.length:Int)),(10,.int .i64 d)] [.box g (aM b) 44,.box c [.int .i64 0,.string (ByteArray.mk #[]),.string (ByteArray.mk #[]),.slice none 0 0,.int .i64 0,.int .i64 0,.int .i64 0,.bool false] 84] [aJ aa n e] a w) x ⟨_,rfl,hS.mt [1,0] [0]⟩ ?_;rintro s a w D ⟨d,rfl,hS⟩ hM hf1;have hM:gt e b d=some D:=hM;unfold gt at hM;refine ah hS fun a hS=>?_;refine az ?_;rcases cd hM with⟨p,hM⟩|⟨p,hM⟩
  ·refine ah hS fun a hS=>?_;refine az ?_;refine ah hS fun a hS=>?_;obtain⟨f,k,hM⟩:=bd hM;refine wl rfl (bc (R:=aa) hS n4 k8 rfl rfl 0 rfl k rfl fun A H C q a hS=>?_);obtain⟨K,rfl,m⟩:=q;replace hS:=hS.fS m;refine ah hS fun a hS=>?_;refine ka hS ft fun B G a w hk hS=>?_;refine go hS fun a w hS=>?_;refine wl rfl (ky (v:=.bool ((f.Key.Kind:Int) == b.Kind && f.Key.Text.toList == b.Text.toList)) hS (wP hS rfl rfl) rfl rfl fun a hS=>?_);refine ah hS fun a hS=>?_;rcases cd hM with⟨r,hM⟩|⟨r,hM⟩
   ·refine ah hS fun a hS=>?_;obtain⟨I,l,hM⟩:=bd hM;refine kc hS AY (lh _ _ hS.dlt f _ (hS.get 0 rfl) _ l) fun _ w hR a hk hA=>?_;obtain⟨t,o,he,j⟩:=hR;obtain rfl:=he.symm;have hS:=oI hA j;refine go hS fun a w hS=>?_;cases hM
    have hr:=hf1 _ rfl;subst hr;replace hMo1:=jo hMo1;have hM:=hMo1;cases hM
    refine aE hS Tryz.results129 (a7 hS rfl 3 rfl k8 rfl (fun h=>by cases h) (ap hS rfl aD)) ?_;exact⟨t,o,rfl,hS.retOwn ⟨.inr (List.mem_of_getElem? (i:=0) rfl),trivial⟩ 0 rfl 0 rfl⟩
   exact fz
  exact fz
 rintro a w ⟨hS,hM⟩;unfold pG at hM;refine ah hS fun a hS=>?_;refine qy hS (bj (ps:=[]) hS Jb ft rfl (us:=[]) trivial (ws:=[.int .i64 0,.string (ByteArray.mk #[]),.string (ByteArray.mk #[]),.slice none 0 0,.int .i64 0,.int .i64 0,.int .i64 0,.bool false]) rfl) fun a hS=>?_;refine go hS fun a w hS=>?_;cases hM
 refine aE hS Tryz.results129 (a7 hS rfl 0 rfl k8 rfl (fun h=>by cases h) (ap hS rfl aD)) ?_;exact⟨.slice none 0 0,[],rfl,ir _ _ _ _ _ _⟩
def qC:Option Bool:=some (false)
def ke (e:LK) (d:ae) (b:Int):Option (Fl (Int) (Fl (Unit) Bool)):=cond (decide ((b:Int) < (e.length:Int))) ((be e b).bind fun c=>cond ((c.Kind:Int) == d.Kind && c.Text.toList == d.Text.toList) (some (.out (.out true))) (some (.go (IntKind.i64.wrap (b + 1))))) (some (.out (.go ())))
def m5 (c:LK) (b:ae):Option Bool:=(loop (fun s:Int=>ke c b s) 0).bind fun r=>Fl.el r (fun s=>qC) (fun y=>some (y))
theorem ru (T:Nat→Prop) (W0:World) (hT:TW T W0) (d:LK) (b:ae) (h:Value) (l:aA ac T W0 h d) (y:Bool) (hM:m5 d b=some y):aW Tryz.prog No 94 [h,.agg (aM b).toArray] W0 (fun v w'=>v = .bool y):=by
 refine en Tryz.func94 Tryz.ntmps94 hT fun a hS=>?_;replace hS:=hS.fS (aA.dn l);unfold m5 at hM;refine ah hS fun a hS=>?_;refine kb hS fun e q a w hk hS=>?_;refine ah hS fun a hS=>?_;refine aG (J:=fun a w=>St W0 No T 17 [] [] [] a w∧qC=some y) ?_ ?_
 ·skip;refine ah hS fun a hS=>?_;obtain⟨u,k,hMo1⟩:=bd hM;refine bu _ (fun s a w=>∃ (c:Int),c=s∧St W0 No T 17 [(3,pt e 0),(7,h),(8,.int .i64 (d.length:Int)),(9,.int .i64 c)] [.box e (aM b) 44] [aJ ac h d] a w) k ⟨_,rfl,hS.mt [0] [0]⟩ ?_;rintro s a w p ⟨c,rfl,hS⟩ hM hf1;have hM:ke d b c=some p:=hM;unfold ke at hM;refine ah hS fun a hS=>?_;refine az ?_;rcases cd hM with⟨i,hM⟩|⟨i,hM⟩
  ·refine ah hS fun a hS=>?_;refine az ?_;refine ah hS fun a hS=>?_;obtain⟨f,g,hM⟩:=bd hM;refine wl rfl (bc (R:=ac) hS jd dd rfl rfl 0 rfl g rfl fun m t o j a hS=>?_);obtain rfl:=j;refine ah hS fun a hS=>?_;refine ka hS gh fun n r a w hk hS=>?_;refine go hS fun a w hS=>?_;refine wl rfl (ky (v:=.bool ((f.Kind:Int) == b.Kind && f.Text.toList == b.Text.toList)) hS (wP hS rfl rfl) rfl rfl fun a hS=>?_);exact fz
  exact fz
 rintro a w ⟨hS,hM⟩;unfold qC at hM;exact fz
def lm (b:(List cw)):Option (List cw):=some (b)
def ln (b:Int) (c:(List cw)):Option (Fl ((List cw)×Int) ((List cw))):=some (.go (c,IntKind.i64.wrap (b + 1)))
def iK (b:Int) (c:(List cw)):Option (Fl ((List cw)×Int) ((List cw))):=some (.go (c,IntKind.i64.wrap (b + 1)))
def fY (f:LK) (e:ae) (g:(an×Bool)) (c:(List cw)) (b:Int):Option (Fl ((List cw)×Int) ((List cw))):=cond (decide ((b:Int) < (g.1.Reads.length:Int))) ((be g.1.Reads b).bind fun d=>(m5 f d).bind fun h=>cond (!(h)) (gd (br (c.length + ([(cw.mk e d)]).length)) <| iK b (c ++ ([(cw.mk e d)]))) (iK b c)) (some (.out c))
def iL (g:LR) (b:LK) (e:(List cw)) (c:Int):Option (Fl ((List cw)×Int) ((List cw))):=cond (decide ((c:Int) < (b.length:Int))) ((be b c).bind fun d=>(cn g d).bind fun f=>(loop (fun s:(List cw)×Int=>fY b d f s.1 s.2) (e,0)).bind fun r=>ln c r) (some (.out e))
def ge (c:LR) (b:LK):Option (List cw):=(loop (fun s:(List cw)×Int=>iL c b s.1 s.2) (([]:List cw),0)).bind fun r=>lm r
theorem mA (T:Nat→Prop) (W0:World) (hT:TW T W0) (j:LR) (b:LK) (n:Value) (e:Value) (a9:aA aa T W0 n j) (S:aA ac T W0 e b) (y:(List cw)) (hM:ge j b=some y):aW Tryz.prog No 149 [n,e] W0 (fun v w'=>∃ (v3:Value) (qT:List Value),v=v3∧fu eO T W0 w' [lf v3 qT] 198 v3 qT y):=by
 refine en Tryz.func149 Tryz.ntmps149 hT fun a hS=>?_;replace hS:=(hS.fS (aA.dn a9)).fS (aA.dn S);unfold ge at hM;refine ah hS fun a hS=>?_;refine aG (J:=fun a w=>∃ (D:(List cw)) (t:Value) (p:LV),St W0 No T 44 [(5,t)] [lf t p] [am eO p D] a w∧lm D=some y) ?_ ?_
 ·skip;refine ah hS fun a hS=>?_;replace hS:=hS.nilRow eO 198 (by decide);obtain⟨r1,O,hMo1⟩:=bd hM;refine bu _ (fun s a w=>∃ (r:(List cw)) (f:Int) (G:Value) (z:LV),(r,f)=s∧St W0 No T 44 [(0,n),(1,e),(5,G),(12,e),(13,.int .i64 (b.length:Int)),(14,.int .i64 f)] [lf G z] [aJ aa n j,aJ ac e b,am eO z r] a w) O ⟨_,_,_,_,rfl,hS.mt [0] [2,1,0]⟩ ?_;rintro s a w f1 ⟨r,f,G,z,rfl,hS⟩ hM hf1;have hM:iL j b r f=some f1:=hM;unfold iL at hM;refine ah hS fun a hS=>?_;refine az ?_;rcases cd hM with⟨U,hM⟩|⟨U,hM⟩
  ·refine ah hS fun a hS=>?_;refine aG (J:=fun a w=>∃ (E:(List cw)) (H:Value) (A:LV),St W0 No T 44 [(0,n),(1,e),(5,H),(12,e),(13,.int .i64 (b.length:Int)),(14,.int .i64 f)] [lf H A] [aJ aa n j,aJ ac e b,am eO A E] a w∧ln f E=some f1) ?_ ?_
   ·skip;refine ah hS fun a hS=>?_;obtain⟨c,M,hM⟩:=bd hM;refine wl rfl (bc (R:=ac) hS jd dd rfl rfl 1 rfl M rfl fun ab b4 av V a hS=>?_);obtain rfl:=V;refine ah hS fun a hS=>?_;refine ka hS gh fun o b1 a w hk hS=>?_;refine go hS fun a w hS=>?_;obtain⟨m,P,hM⟩:=bd hM;refine kc hS kD (bI _ _ hS.dlt j c _ (hS.get 1 rfl) _ P) fun _ w hR a hk hA=>?_;obtain⟨u,q,he,L⟩:=hR;obtain rfl:=he.symm;have hS:=oI hA L;refine ah hS fun a hS=>?_;refine ka hS ft fun af b2 a w hk hS=>?_;refine go hS fun a w hS=>?_;obtain⟨r2,a5,hMo2⟩:=bd hM;refine bu _ (fun s a w=>∃ (l:(List cw)) (g:Int) (I:Value) (B:LV),(l,g)=s∧St W0 No T 44 [(0,n),(1,e),(5,I),(7,pt o 0),(12,e),(13,.int .i64 (b.length:Int)),(14,.int .i64 f),(25,u),(26,.int .i64 (m.1.Reads.length:Int)),(27,.int .i64 g)] [lf I B,au u q,.box o (aM c) 44] [aJ aa n j,aJ ac e b,am eO B l,am ac q m.1.Reads] a w) a5 ⟨_,_,_,_,rfl,hS.mt [3,1,2] [2,3,4,0]⟩ ?_;rintro s a w f2 ⟨l,g,I,B,rfl,hS⟩ hM hf2;have hM:fY b c m l g=some f2:=hM;unfold fY at hM;refine ah hS fun a hS=>?_;refine az ?_;rcases cd hM with⟨W,hM⟩|⟨W,hM⟩
    ·refine ah hS fun a hS=>?_;refine aG (J:=fun a w=>∃ (F:(List cw)) (K:Value) (C:LV),St W0 No T 44 [(0,n),(1,e),(5,K),(7,pt o 0),(12,e),(13,.int .i64 (b.length:Int)),(14,.int .i64 f),(25,u),(26,.int .i64 (m.1.Reads.length:Int)),(27,.int .i64 g)] [lf K C,au u q,.box o (aM c) 44] [aJ aa n j,aJ ac e b,am eO C F,am ac q m.1.Reads] a w∧iK g F=some f2) ?_ ?_
     ·skip;refine ah hS fun a hS=>?_;obtain⟨d,N,hM⟩:=bd hM;refine wl rfl (cR (R:=ac) hS jd dd rfl rfl 1 rfl 3 rfl N rfl fun ag b5 b6 ax X Y Z a hS=>?_);obtain rfl:=X;refine qy hS (bL (k:=0) hS dd 1 rfl Y Z rfl id (us:=(aM d)) rfl rfl (fun h=>by cases h)) fun a hS=>?_;refine ka hS gh fun ak b3 a w hk hS=>?_;refine go hS fun a w hS=>?_;obtain⟨b8,Q,hM⟩:=bd hM;refine kc hS GC (ru _ _ hS.dlt b d _ (hS.get 1 rfl) _ Q) fun _ w hR a hk hA=>?_;obtain rfl:=hR;have hS:=bV hA;refine ah hS fun a hS=>?_;rcases cd hM with⟨a0,hM⟩|⟨a0,hM⟩
      ·refine ah hS fun a hS=>?_;refine qy hS (bj (ps:=[(0,.tmp 36),(1,.tmp 37)]) hS Ja Bw rfl (us:=[(aM c),(aM d)]) ⟨rfl,⟨rfl,trivial⟩⟩ (ws:=[.int .i64 c.Kind,.string c.Text,.int .i64 d.Kind,.string d.Text]) rfl) fun a hS=>?_;refine wl rfl (aT (ps:=[(0,.tmp 38)]) hS F5 Bw (zl:=[.int .i64 0,.string (ByteArray.mk #[]),.int .i64 0,.string (ByteArray.mk #[])]) (by kernel_rfl) rfl (us:=[[.int .i64 c.Kind,.string c.Text,.int .i64 d.Kind,.string d.Text]]) ⟨rfl,trivial⟩ (ws:=[.int .i64 c.Kind,.string c.Text,.int .i64 d.Kind,.string d.Text]) rfl rfl rfl rfl fun ao a w hk hS=>?_);replace hS:=(hS.lit (R:=eO) (us:=[.int .i64 c.Kind,.string c.Text,.int .i64 d.Kind,.string d.Text]) (xs:=[(cw.mk c d)]) 0 rfl (by decide) (aB.one_ (R:=eO) (x:=(cw.mk c d)) rfl) rfl rfl).freeze (R:=eO) 0 rfl 0 rfl;obtain⟨a1,hM⟩:=aS hM;refine wl rfl (bw (R:=eO) (xs:=l) (ys:=[(cw.mk c d)]) hS F5 (by decide) (by decide) rfl rfl 1 rfl 4 rfl 0 rfl a1 rfl fun b9 b0 a w hk hS=>?_);exact fz
      exact fz
     rintro a w ⟨F,K,C,hS,hM⟩;unfold iK at hM;exact fz
    exact fz
   rintro a w ⟨E,H,A,hS,hM⟩;unfold ln at hM;exact fz
  exact fz
 rintro a w ⟨D,t,p,hS,hM⟩;unfold lm at hM;refine ah hS fun a hS=>?_;cases hM
 refine aE hS rfl (ap hS rfl aD) ?_;exact⟨t,p,rfl,hS.retOwn ⟨.inr (List.mem_of_getElem? (i:=0) rfl),trivial⟩ 0 rfl 0 rfl⟩
def ob (b:LK):Option LK:=some (b)
def fX (b:Int) (c:LK):Option (Fl (LK×Int) (LK)):=some (.go (c,IntKind.i64.wrap (b + 1)))
def dL (c:LK) (e:Int) (d:ae) (f:Int) (h:Bool):Option (Fl (LK×Int) (LK)):=cond h ((oz c 0 f).bind fun b=>(oz c f c.length).bind fun g=>gd (br (([]:List ae).length + b.length)) <| gd (br ((([]:List ae) ++ b).length + ([d]).length)) <| gd (br (((([]:List ae) ++ b) ++ ([d])).length + g.length)) <| fX e (((([]:List ae) ++ b) ++ ([d])) ++ g)) (fX e c)
def iE (d:LK) (f:Int) (b:ae) (c:Int):Option (Fl (LK×Int) (LK)):=cond ((c:Int) == (d.length:Int)) (dL d f b c true) ((be d c).bind fun e=>dL d f b c (!((e.Kind:Int) == b.Kind && e.Text.toList == b.Text.toList)))
def eM (c:LK) (d:ae) (b:Int):Option (Fl (Int) (Int)):=cond (decide ((b:Int) < (c.length:Int))) ((be c b).bind fun e=>(iV e d).bind fun f=>cond (decide ((f:Int) < 0)) (some (.go (IntKind.i64.wrap (b + 1)))) (some (.out b))) (some (.out b))
def lg (e:LK) (c:LK) (b:Int):Option (Fl (LK×Int) (LK)):=cond (decide ((b:Int) < (e.length:Int))) ((be e b).bind fun d=>(loop (fun s:Int=>eM c d s) 0).bind fun r=>iE c b d r) (some (.out c))
def im (b:LK):Option LK:=(loop (fun s:LK×Int=>lg b s.1 s.2) (([]:List ae),0)).bind fun r=>ob r
theorem rx (T:Nat→Prop) (W0:World) (hT:TW T W0) (hLv:cU T W0) (e:LK) (o:Value) (bb:aA ac T W0 o e) (y:LK) (hM:im e=some y):aW Tryz.prog No 82 [o] W0 (fun v w'=>∃ (I:Value) (oh:List Value),v=I∧fu ac T W0 w' [au I oh] 44 I oh y):=by
 refine en Tryz.func82 Tryz.ntmps82 hT fun a hS=>?_;replace hS:=(hS.fact bv (cU.dn hLv)).fS (aA.dn bb);unfold im at hM;refine ah hS fun a hS=>?_;refine aG (J:=fun a w=>∃ (G:LK) (A:Value) (q:LV),St W0 No T 53 [(3,A)] [au A q] [am ac q G,bv] a w∧ob G=some y) ?_ ?_
 ·skip;refine ah hS fun a hS=>?_;replace hS:=hS.nilRow ac 44 (by decide);obtain⟨r1,b8,hMo1⟩:=bd hM;refine bu _ (fun s a w=>∃ (d:LK) (c:Int) (g:Value) (f:LV),(d,c)=s∧St W0 No T 53 [(3,g),(7,o),(8,.int .i64 (e.length:Int)),(9,.int .i64 c)] [au g f] [am ac f d,aJ ac o e,bv] a w) b8 ⟨_,_,_,_,rfl,hS.mt [0] [0,1,2]⟩ ?_;rintro s a w P ⟨d,c,g,f,rfl,hS⟩ hM hf1;have hM:lg e d c=some P:=hM;unfold lg at hM;refine ah hS fun a hS=>?_;refine az ?_;rcases cd hM with⟨a2,hM⟩|⟨a2,hM⟩
  ·refine ah hS fun a hS=>?_;refine aG (J:=fun a w=>∃ (H:LK) (K:Value) (B:LV),St W0 No T 53 [(3,K),(7,o),(8,.int .i64 (e.length:Int)),(9,.int .i64 c)] [au K B] [am ac B H,aJ ac o e,bv] a w∧fX c H=some P) ?_ ?_
   ·skip;refine ah hS fun a hS=>?_;obtain⟨b,Q,hM⟩:=bd hM;refine wl rfl (bc (R:=ac) hS jd dd rfl rfl 1 rfl Q rfl fun bi c9 bt a3 a hS=>?_);obtain rfl:=a3;refine ah hS fun a hS=>?_;refine ka hS gh fun m c5 a w hk hS=>?_;refine go hS fun a w hS=>?_;refine aG (J:=fun a w=>∃ (p:Int),St W0 No T 53 [(3,g),(5,pt m 0),(6,.int .i64 p),(7,o),(8,.int .i64 (e.length:Int)),(9,.int .i64 c)] [au g f,.box m (aM b) 44] [am ac f d,aJ ac o e,bv] a w∧iE d c b p=some P) ?_ ?_
    ·skip;refine ah hS fun a hS=>?_;obtain⟨r2,b9,hMo2⟩:=bd hM;refine bu _ (fun s a w=>∃ (z:Int),z=s∧St W0 No T 53 [(3,g),(5,pt m 0),(6,.int .i64 z),(7,o),(8,.int .i64 (e.length:Int)),(9,.int .i64 c)] [au g f,.box m (aM b) 44] [am ac f d,aJ ac o e,bv] a w) b9 ⟨_,rfl,hS.mt [1,0] [1,2,3]⟩ ?_;rintro s a w f2 ⟨z,rfl,hS⟩ hM hf2;have hM:eM d b z=some f2:=hM;unfold eM at hM;refine az ?_;refine az ?_;refine dr [] hS fun w hQ hS=>?_;refine gE [0,1,2,3,4] hS fun a hS=>?_;rcases cd hM with⟨t,hM⟩|⟨t,hM⟩
     ·refine gE [5,6] hS fun a hS=>?_;obtain⟨C,U,hM⟩:=bd hM;obtain⟨Y,b1,ca,c0,a4,a5,a9,ab⟩:=kG (R:=ac) hS jd dd 0 rfl 0 rfl U;obtain rfl:=a4;refine vG 7 (v:=pt Y b1) rfl (by kernel_rfl) (by kernel_rfl) (by kernel_rfl) rfl hQ hS (ab rfl rfl) rfl rfl rfl t rfl rfl fun a hS=>?_;refine vG (l:=[]) 8 (v:=.agg (aM C).toArray) rfl (by kernel_rfl) (by kernel_rfl) (by kernel_rfl) (by kernel_rfl) hQ hS (bL (k:=0) hS dd 0 rfl a5 a9 rfl bo (us:=(aM C)) rfl rfl (fun h=>by cases h)) rfl rfl rfl t rfl rfl fun a hS=>?_;refine gE [9] hS fun a hS=>?_;obtain⟨ch,X,hM⟩:=bd hM;refine cy (i:=10) rfl (by kernel_rfl) hS rfl rfl rfl t (a8 hS BI rfl rfl (lQ _ _ hS.dlt (hS.get 2 rfl) C b _ X) fun _ w hR a hk hA=>⟨fc (hk),?_⟩);obtain rfl:=hR;have hS:=bV hA;refine gE [11,12] hS fun a hS=>?_;refine eD ?_;exact fz
     refine gE [5,6,7,8,9,10,11,12] hS fun a hS=>?_;refine eD ?_;exact fz
    rintro a w ⟨p,hS,hM⟩;unfold iE at hM;refine aG (J:=fun a w=>∃ (D:Bool),St W0 No T 53 [(3,g),(5,pt m 0),(6,.int .i64 p),(7,o),(8,.int .i64 (e.length:Int)),(9,.int .i64 c),(39,.bool D)] [au g f,.box m (aM b) 44] [am ac f d,aJ ac o e,bv] a w∧dL d c b p D=some P) ?_ ?_
    ·skip;refine dr [] hS fun w hQ hS=>?_;refine gE [0,1,2,3,4] hS fun a hS=>?_;rcases cd hM with⟨u,hM⟩|⟨u,hM⟩
     ·refine gE [5,6,7,8,9,10,11] hS fun a hS=>?_;refine eD ?_;exact⟨_,hS.mt [0,1] [0,1,2],hM⟩
     refine gE [5,6] hS fun a hS=>?_;obtain⟨r,S,hM⟩:=bd hM;obtain⟨Z,b2,cb,c1,af,ag,ak,ao⟩:=kG (R:=ac) hS jd dd 0 rfl 0 rfl S;obtain rfl:=af;refine vG 7 (v:=pt Z b2) rfl (by kernel_rfl) (by kernel_rfl) (by kernel_rfl) rfl hQ hS (ao rfl rfl) rfl rfl rfl u rfl rfl fun a hS=>?_;refine vG (l:=[]) 8 (v:=.agg (aM r).toArray) rfl (by kernel_rfl) (by kernel_rfl) (by kernel_rfl) (by kernel_rfl) hQ hS (bL (k:=0) hS dd 0 rfl ag ak rfl bo (us:=(aM r)) rfl rfl (fun h=>by cases h)) rfl rfl rfl u rfl rfl fun a hS=>?_;refine gE [9] hS fun a hS=>?_;refine vG 10 (v:=.bool (!((r.Kind:Int) == b.Kind && r.Text.toList == b.Text.toList))) rfl (by kernel_rfl) (by kernel_rfl) (by kernel_rfl) rfl hQ hS (vJ hS rfl rfl) rfl rfl rfl u rfl rfl fun a hS=>?_;refine gE [11] hS fun a hS=>?_;refine eD ?_;exact⟨_,hS.mt [0,1] [0,1,2],hM⟩
    rintro a w ⟨D,hS,hM⟩;unfold dL at hM;rcases cd hM with⟨av,hM⟩|⟨av,hM⟩
    ·refine ah hS fun a hS=>?_;replace hS:=hS.nilRow ac 44 (by decide);refine dr [(3,.blk (Value.ownBlock (.slice none 0 0))),(6,.any),(10,.any)] hS fun w hQ hS=>?_;refine gE [0,1] hS fun a hS=>?_;obtain⟨n,V,hM⟩:=bd hM;obtain⟨b3,L,ax⟩:=vD (R:=ac) hS jd dd 1 rfl 1 rfl V;refine dy 2 (v:=b3) rfl (by kernel_rfl) (by kernel_rfl) (by kernel_rfl) rfl hQ hS (ax (k1:=.i64) rfl (.inr ⟨rfl,rfl⟩) (.inl ⟨_,rfl,rfl⟩)) rfl rfl rfl fun a hS=>?_;refine dy (l:=[.blk (Value.ownBlock (.slice none 0 0))]) 4 (v:=.agg (aM b).toArray) rfl (by kernel_rfl) (by kernel_rfl) (by kernel_rfl) (by kernel_rfl) hQ hS (dH hS rfl dd 2 rfl (ic hS 2 rfl rfl 0 rfl rfl (by decide) bo) (us:=(aM b)) rfl rfl (fun h=>by cases h)) rfl rfl rfl fun a hS=>?_;refine gE [7,8] hS fun a hS=>?_;obtain⟨O,W,hM⟩:=bd hM;obtain⟨b4,M,b0⟩:=vD (R:=ac) hS jd dd 1 rfl 1 rfl W;refine dy 9 (v:=b4) rfl (by kernel_rfl) (by kernel_rfl) (by kernel_rfl) rfl hQ hS (b0 (k2:=.i64) rfl (.inl ⟨_,rfl,rfl⟩) (.inr ⟨rfl,rfl⟩)) rfl rfl rfl fun a hS=>?_;obtain⟨N,hM⟩:=aS hM;refine de (i:=3) (j:=5) rfl rfl (by kernel_rfl) rfl rfl ?_ ?_
     ·skip;skip;replace hS:=hS.freeze (R:=ac) 1 rfl 1 rfl;replace hS:=hS.fS (L _ _ (hS.get 0 rfl));refine id (bw (R:=ac) (xs:=([]:List ae)) (ys:=n) hS gm (by decide) (by decide) rfl rfl 0 rfl 2 rfl 0 rfl N rfl fun ck c2 a w hk hS=>⟨kB rfl hk kH,?_⟩);refine e1 5 (aT (ps:=[(0,.tmp 44)]) hS gm gh (zl:=[.int .i64 0,.string (ByteArray.mk #[])]) (by kernel_rfl) rfl (us:=[(aM b)]) ⟨rfl,trivial⟩ (ws:=(aM b)) rfl rfl rfl rfl fun bl a w hk hS=>⟨fc (hk),?_⟩);replace hS:=(hS.lit (R:=ac) (us:=(aM b)) (xs:=[b]) 0 rfl (by decide) (aB.one_ (R:=ac) (x:=b) rfl) rfl rfl).freeze (R:=ac) 0 rfl 0 rfl;obtain⟨E,hM⟩:=aS hM;refine e1 6 (bw (R:=ac) (xs:=(([]:List ae) ++ n)) (ys:=[b]) hS gm (by decide) (by decide) rfl rfl 0 rfl 2 rfl 0 rfl E rfl fun b5 a0 a w hk hS=>⟨kB rfl hk su,?_⟩);replace hS:=hS.fS (M _ _ (hS.get 5 rfl));obtain⟨F,hM⟩:=aS hM;refine e1 10 (bw (R:=ac) (xs:=((([]:List ae) ++ n) ++ ([b]))) (ys:=O) hS gm (by decide) (by decide) rfl rfl 0 rfl 1 rfl 0 rfl F rfl fun b6 a1 a w hk hS=>⟨kB rfl hk su,?_⟩);refine gE [11] hS fun a hS=>?_;refine eD ?_;exact⟨_,_,_,hS.mt [0] [0,10,11],hM⟩
     skip;refine id (aT (ps:=[(0,.tmp 44)]) hS gm gh (zl:=[.int .i64 0,.string (ByteArray.mk #[])]) (by kernel_rfl) rfl (us:=[(aM b)]) ⟨rfl,trivial⟩ (ws:=(aM b)) rfl rfl rfl rfl fun bs a w hk hS=>⟨fc (hk),?_⟩);replace hS:=hS.freeze (R:=ac) 2 rfl 1 rfl;replace hS:=hS.fS (L _ _ (hS.get 0 rfl));refine e1 3 (bw (R:=ac) (xs:=([]:List ae)) (ys:=n) hS gm (by decide) (by decide) rfl rfl 1 rfl 2 rfl 0 rfl N rfl fun cl c3 a w hk hS=>⟨kB rfl hk kH,?_⟩);replace hS:=(hS.lit (R:=ac) (us:=(aM b)) (xs:=[b]) 0 rfl (by decide) (aB.one_ (R:=ac) (x:=b) rfl) rfl rfl).freeze (R:=ac) 0 rfl 0 rfl;obtain⟨E,hM⟩:=aS hM;refine e1 6 (bw (R:=ac) (xs:=(([]:List ae) ++ n)) (ys:=[b]) hS gm (by decide) (by decide) rfl rfl 0 rfl 2 rfl 0 rfl E rfl fun b5 a0 a w hk hS=>⟨kB rfl hk su,?_⟩);replace hS:=hS.fS (M _ _ (hS.get 5 rfl));obtain⟨F,hM⟩:=aS hM;refine e1 10 (bw (R:=ac) (xs:=((([]:List ae) ++ n) ++ ([b]))) (ys:=O) hS gm (by decide) (by decide) rfl rfl 0 rfl 1 rfl 0 rfl F rfl fun b6 a1 a w hk hS=>⟨kB rfl hk su,?_⟩);refine gE [11] hS fun a hS=>?_;refine eD ?_;exact⟨_,_,_,hS.mt [0] [0,10,11],hM⟩
    exact fz
   rintro a w ⟨H,K,B,hS,hM⟩;unfold fX at hM;exact fz
  exact fz
 rintro a w ⟨G,A,q,hS,hM⟩;unfold ob at hM;refine ah hS fun a hS=>?_;cases hM
 refine aE hS rfl (ap hS rfl aD) ?_;exact⟨A,q,rfl,hS.retOwn ⟨.inr (List.mem_of_getElem? (i:=0) rfl),trivial⟩ 0 rfl 0 rfl⟩
def gv (b:Bool):Option Bool:=some (b)
def nb (f:LR) (b:Int) (d:ae):Option Bool:=(cn f d).bind fun c=>cond c.2 ((bX d).bind fun e=>cond e (cond (decide ((c.1.Verified:Int) < b)) (gv (!(c.1.Dirty))) (gv false)) (gv false)) (gv false)
theorem tE (T:Nat→Prop) (W0:World) (hT:TW T W0) (g:LR) (b:Int) (d:ae) (k:Value) (j:aA aa T W0 k g) (y:Bool) (hM:nb g b d=some y):aW Tryz.prog No 180 [k,.int .i64 b,.agg (aM d).toArray] W0 (fun v w'=>v = .bool y):=by
 refine en Tryz.func180 Tryz.ntmps180 hT fun a hS=>?_;replace hS:=hS.fS (aA.dn j);unfold nb at hM;refine ah hS fun a hS=>?_;refine kb hS fun l o a w hk hS=>?_;refine ah hS fun a hS=>?_;obtain⟨q,h,hM⟩:=bd hM;refine kc hS kD (bI _ _ hS.dlt g d _ (hS.get 0 rfl) _ h) fun _ w hR a hk hA=>?_;obtain⟨s,n,he,f⟩:=hR;obtain rfl:=he.symm;have hS:=oI hA f;refine ah hS fun a hS=>?_;refine ka hS ft fun m p a w hk hS=>?_;refine go hS fun a w hS=>?_;refine aG (J:=fun a w=>∃ (c:Bool),St W0 No T 31 [(6,.bool c)] [] [] a w∧gv c=some y) ?_ ?_
 ·skip;refine ah hS fun a hS=>?_;rcases cd hM with⟨e,hM⟩|⟨e,hM⟩
  ·refine ah hS fun a hS=>?_;obtain⟨r,i,hM⟩:=bd hM;refine wg hS rfl rfl rfl e (a8 hS tW rfl rfl (cm _ _ hS.dlt d _ i) fun _ w hR a hk hA=>?_);obtain rfl:=hR;have hS:=bV hA;exact fz
  exact fz
 rintro a w ⟨c,hS,hM⟩;unfold gv at hM;exact fz
def mB (b:LO):Option LO:=some (b)
def jL (b:Int) (d:LO) (c:LK):Option (Fl (LO×LK×Int) (LO)):=some (.go (d,c,IntKind.i64.wrap (b + 1)))
def jM (b:Int) (d:LO) (c:LK):Option (Fl (LO×LK×Int) (LO×LK)):=some (.go (d,c,IntKind.i64.wrap (b + 1)))
def jN (e:LO) (c:LK) (d:Int) (b:ae) (f:Bool):Option (Fl (LO×LK×Int) (LO×LK)):=cond f (gd (br (c.length + ([b]).length)) <| jM d (cT aC b true e) (c ++ ([b]))) (jM d e c)
def ey (j:LR) (e:Int) (g:(an×Bool)) (d:LO) (f:LK) (c:Int):Option (Fl (LO×LK×Int) (LO×LK)):=cond (decide ((c:Int) < (g.1.Reads.length:Int))) ((be g.1.Reads c).bind fun b=>(nb j e b).bind fun h=>cond h ((some ((bQ aC b d).getD false)).bind fun i=>jN d f c b (!(i))) (jN d f c b false)) (some (.out (d,f)))
def fG (f:LR) (b:Int) (e:LO) (d:LK) (c:Int):Option (Fl (LO×LK×Int) (LO)):=cond (decide ((c:Int) < (d.length:Int))) ((be d c).bind fun g=>(cn f g).bind fun h=>(loop (fun s:LO×LK×Int=>ey f b h s.1 s.2.1 s.2.2) (e,d,0)).bind fun r=>jL c r.1 r.2) (some (.out e))
def lX (d:LR) (b:Int) (c:ae):Option LO:=(loop (fun s:LO×LK×Int=>fG d b s.1 s.2.1 s.2.2) (([]:LO),[c],0)).bind fun r=>mB r
theorem sE (T:Nat→Prop) (W0:World) (hT:TW T W0) (l:LR) (b:Int) (u:ae) (q:Value) (c2:aA aa T W0 q l) (y:LO) (hM:lX l b u=some y):aW Tryz.prog No 181 [q,.int .i64 b,.agg (aM u).toArray] W0 (fun v w'=>∃ (b2:Nat) (ak:Array MapEntry) (ag:Nat),v = .map (some b2)∧Gk ac true aN.bool false T W0 w' [om b2 ak ag] b2 ak ag y):=by
 refine en Tryz.func181 Tryz.ntmps181 hT fun a hS=>?_;replace hS:=hS.fS (aA.dn c2);unfold lX at hM;refine ah hS fun a hS=>?_;refine kb hS fun c3 d1 a w hk hS=>?_;refine ah hS fun a hS=>?_;refine wl rfl (ol ac true aN.bool false hS rfl fun e d2 a w hk hS=>?_);refine ah hS fun a hS=>?_;refine wl rfl (aT (ps:=[(0,.tmp 15)]) hS gm gh (zl:=[.int .i64 0,.string (ByteArray.mk #[])]) (by kernel_rfl) rfl (us:=[(aM u)]) ⟨rfl,trivial⟩ (ws:=(aM u)) rfl rfl rfl rfl fun c4 a w hk hS=>?_);refine ah hS fun a hS=>?_;refine aG (J:=fun a w=>∃ (P:LO) (A:AM) (D:Nat),St W0 No T 57 [(7,.map (some e))] [om e A D] [sx A P] a w∧mB P=some y) ?_ ?_
 ·skip;refine ah hS fun a hS=>?_;replace hS:=hS.lit (R:=ac) (us:=(aM u)) (xs:=[u]) 0 rfl (by decide) (aB.one_ (R:=ac) (x:=u) rfl) rfl rfl;obtain⟨r1,c0,hMo1⟩:=bd hM;refine bu _ (fun s a w=>∃ (C:LO) (B:LK) (f:Int) (I:AM) (Y:Nat) (U:Value) (E:LV),(C,B,f)=s∧St W0 No T 57 [(0,q),(1,.int .i64 b),(7,.map (some e)),(8,U),(9,.int .i64 f)] [om e I Y,au U E] [aJ aa q l,sx I C,am ac E B] a w) c0 ⟨_,_,_,_,_,_,_,rfl,hS.mt [1,0] [2,1,0]⟩ ?_;rintro s a w f1 ⟨C,B,f,I,Y,U,E,rfl,hS⟩ hM hf1;have hM:fG l b C B f=some f1:=hM;unfold fG at hM;refine az ?_;refine ah hS fun a hS=>?_;rcases cd hM with⟨b0,hM⟩|⟨b0,hM⟩
  ·refine ah hS fun a hS=>?_;refine aG (J:=fun a w=>∃ (Q:LO) (N:LK) (K:AM) (Z:Nat) (V:Value) (F:LV),St W0 No T 57 [(0,q),(1,.int .i64 b),(7,.map (some e)),(8,V),(9,.int .i64 f)] [om e K Z,au V F] [aJ aa q l,sx K Q,am ac F N] a w∧jL f Q N=some f1) ?_ ?_
   ·skip;refine ah hS fun a hS=>?_;obtain⟨a1,a5,hM⟩:=bd hM;refine wl rfl (cR (R:=ac) hS jd dd rfl rfl 1 rfl 2 rfl a5 rfl fun c5 d6 dc ch b1 b3 b4 a hS=>?_);obtain rfl:=b1;refine qy hS (bL (k:=0) hS dd 1 rfl b3 b4 rfl id (us:=(aM a1)) rfl rfl (fun h=>by cases h)) fun a hS=>?_;obtain⟨n,a9,hM⟩:=bd hM;refine kc hS kD (bI _ _ hS.dlt l a1 _ (hS.get 0 rfl) _ a9) fun _ w hR a hk hA=>?_;obtain⟨p,o,he,a3⟩:=hR;obtain rfl:=he.symm;have hS:=oI hA a3;refine ah hS fun a hS=>?_;refine ka hS ft fun c9 d3 a w hk hS=>?_;refine go hS fun a w hS=>?_;obtain⟨r2,c1,hMo2⟩:=bd hM;refine bu _ (fun s a w=>∃ (m:LO) (j:LK) (g:Int) (t:AM) (G:Nat) (z:Value) (r:LV),(m,j,g)=s∧St W0 No T 57 [(0,q),(1,.int .i64 b),(7,.map (some e)),(8,z),(9,.int .i64 f),(33,p),(34,.int .i64 (n.1.Reads.length:Int)),(35,.int .i64 g)] [om e t G,au z r,au p o] [aJ aa q l,sx t m,am ac r j,am ac o n.1.Reads] a w) c1 ⟨_,_,_,_,_,_,_,rfl,hS.mt [2,3,1] [1,2,3,0]⟩ ?_;rintro s a w f2 ⟨m,j,g,t,G,z,r,rfl,hS⟩ hM hf2;have hM:ey l b n m j g=some f2:=hM;unfold ey at hM;refine ah hS fun a hS=>?_;refine az ?_;rcases cd hM with⟨b5,hM⟩|⟨b5,hM⟩
    ·refine ah hS fun a hS=>?_;refine aG (J:=fun a w=>∃ (S:LO) (O:LK) (L:AM) (a0:Nat) (W:Value) (H:LV),St W0 No T 57 [(0,q),(1,.int .i64 b),(7,.map (some e)),(8,W),(9,.int .i64 f),(33,p),(34,.int .i64 (n.1.Reads.length:Int)),(35,.int .i64 g)] [om e L a0,au W H,au p o] [aJ aa q l,sx L S,am ac H O,am ac o n.1.Reads] a w∧jM g S O=some f2) ?_ ?_
     ·skip;refine ah hS fun a hS=>?_;obtain⟨d,a4,hM⟩:=bd hM;refine wl rfl (cR (R:=ac) hS jd dd rfl rfl 2 rfl 3 rfl a4 rfl fun ca da dk ck b6 b8 b9 a hS=>?_);obtain rfl:=b6;refine qy hS (bL (k:=0) hS dd 2 rfl b8 b9 rfl id (us:=(aM d)) rfl rfl (fun h=>by cases h)) fun a hS=>?_;refine ka hS gh fun X d4 a w hk hS=>?_;refine go hS fun a w hS=>?_;refine aG (J:=fun a w=>∃ (M:Bool),St W0 No T 57 [(0,q),(1,.int .i64 b),(7,.map (some e)),(8,z),(9,.int .i64 f),(13,pt X 0),(33,p),(34,.int .i64 (n.1.Reads.length:Int)),(35,.int .i64 g),(48,.bool M)] [om e t G,au z r,au p o,.box X (aM d) 44] [aJ aa q l,sx t m,am ac r j,am ac o n.1.Reads] a w∧jN m j g d M=some f2) ?_ ?_
      ·skip;refine ah hS fun a hS=>?_;obtain⟨dl,ab,hM⟩:=bd hM;refine kc hS FY (tE _ _ hS.dlt l b d _ (hS.get 0 rfl) _ ab) fun _ w hR a hk hA=>?_;obtain rfl:=hR;have hS:=bV hA;refine ah hS fun a hS=>?_;rcases cd hM with⟨a2,hM⟩|⟨a2,hM⟩
       ·refine ah hS fun a hS=>?_;obtain⟨bt,af,hM⟩:=bd hM;obtain⟨cl,bb,bi⟩:=dO hS sw cc 1 rfl 1 rfl (c:=(aM d)) (key:=d) rfl H1 (zc:=[.bool false]) rfl rfl af;obtain rfl:=bb;refine wg hS rfl rfl rfl a2 (ky (v:=.bool bt) hS (bi rfl rfl id) rfl rfl fun a hS=>?_);exact fz
       exact fz
      rintro a w ⟨M,hS,hM⟩;unfold jN at hM;rcases cd hM with⟨bl,hM⟩|⟨bl,hM⟩
      ·refine ah hS fun a hS=>?_;refine wl rfl (ub hS sw cc 0 rfl 1 rfl (c:=(aM d)) (cv:=[.bool true]) (key:=d) (val:=true) rfl rfl rfl rfl rfl fun d0 co w hk hS=>?_);refine ah hS fun a hS=>?_;refine wl rfl (aT (ps:=[(0,.tmp 52)]) hS gm gh (zl:=[.int .i64 0,.string (ByteArray.mk #[])]) (by kernel_rfl) rfl (us:=[(aM d)]) ⟨rfl,trivial⟩ (ws:=(aM d)) rfl rfl rfl rfl fun cb a w hk hS=>?_);replace hS:=(hS.lit (R:=ac) (us:=(aM d)) (xs:=[d]) 0 rfl (by decide) (aB.one_ (R:=ac) (x:=d) rfl) rfl rfl).freeze (R:=ac) 0 rfl 0 rfl;obtain⟨bs,hM⟩:=aS hM;refine wl rfl (bw (R:=ac) (xs:=j) (ys:=[d]) hS gm (by decide) (by decide) rfl rfl 1 rfl 5 rfl 0 rfl bs rfl fun ds cs a w hk hS=>?_);exact fz
      exact fz
     rintro a w ⟨S,O,L,a0,W,H,hS,hM⟩;unfold jM at hM;exact fz
    refine ah hS fun a hS=>?_;cases hM
    have hr:=hf2 _ rfl;subst hr;have hM:jL f m j=some f1:=hMo2;exact⟨_,_,_,_,_,_,hS.mt [0,1] [0,1,2],hM⟩
   rintro a w ⟨Q,N,K,Z,V,F,hS,hM⟩;unfold jL at hM;exact fz
  exact fz
 rintro a w ⟨P,A,D,hS,hM⟩;unfold mB at hM;refine ah hS fun a hS=>?_;cases hM
 refine aE hS rfl (ap hS rfl aD) ?_;exact⟨e,A,D,rfl,hS.retMap ⟨.inr (List.mem_of_getElem? (i:=0) rfl),trivial⟩ 0 rfl 0 rfl⟩
def py (b:LK):Option LK:=(im b).bind fun c=>some (c)
def nR (b:Int) (c:LK):Option (Fl (LK×Int) (LK)):=some (.go (c,IntKind.i64.wrap (b + 1)))
def lV (b:LK) (d:Int) (c:an) (e:Bool):Option (Fl (LK×Int) (LK)):=cond e (gd (br (b.length + ([c.Key]).length)) <| nR d (b ++ ([c.Key]))) (nR d b)
def lW (g:LR) (e:Int) (f:ae) (h:LO) (d:LK) (c:Int):Option (Fl (LK×Int) (LK)):=cond (decide ((c:Int) < (g.length:Int))) ((be g c).bind fun b=>cond (!((b.Key.Kind:Int) == f.Kind && b.Key.Text.toList == f.Text.toList)) ((some ((bQ aC b.Key h).getD false)).bind fun i=>cond i ((lX g e b.Key).bind fun j=>(some ((bQ aC f j).getD false)).bind fun k=>lV d c b k) (lV d c b false)) (lV d c b false)) (some (.out d))
def kV (d:LR) (b:Int) (c:ae):Option LK:=(nb d b c).bind fun f=>cond (!(f)) (some ([c])) ((lX d b c).bind fun e=>(loop (fun s:LK×Int=>lW d b c e s.1 s.2) ([c],0)).bind fun r=>py r)
theorem qE (T:Nat→Prop) (W0:World) (hT:TW T W0) (hLv:cU T W0) (f:LR) (b:Int) (d:ae) (o:Value) (b9:aA aa T W0 o f) (y:LK) (hM:kV f b d=some y):aW Tryz.prog No 150 [o,.int .i64 b,.agg (aM d).toArray] W0 (fun v w'=>∃ (v2:Value) (oh:List Value),v=v2∧fu ac T W0 w' [au v2 oh] 44 v2 oh y):=by
 refine en Tryz.func150 Tryz.ntmps150 hT fun a hS=>?_;replace hS:=(hS.fact bv (cU.dn hLv)).fS (aA.dn b9);unfold kV at hM;refine ah hS fun a hS=>?_;refine kb hS fun m c2 a w hk hS=>?_;refine ah hS fun a hS=>?_;refine az ?_;refine ah hS fun a hS=>?_;obtain⟨ca,a2,hM⟩:=bd hM;refine kc hS FY (tE _ _ hS.dlt f b d _ (hS.get 0 rfl) _ a2) fun _ w hR a hk hA=>?_;obtain rfl:=hR;have hS:=bV hA;refine ah hS fun a hS=>?_;rcases cd hM with⟨ag,hM⟩|⟨ag,hM⟩
 ·refine ah hS fun a hS=>?_;refine wl rfl (aT (ps:=[(0,.tmp 16)]) hS gm gh (zl:=[.int .i64 0,.string (ByteArray.mk #[])]) (by kernel_rfl) rfl (us:=[(aM d)]) ⟨rfl,trivial⟩ (ws:=(aM d)) rfl rfl rfl rfl fun a4 a w hk hS=>?_);refine ah hS fun a hS=>?_;replace hS:=hS.lit (R:=ac) (us:=(aM d)) (xs:=[d]) 0 rfl (by decide) (aB.one_ (R:=ac) (x:=d) rfl) rfl rfl;cases hM
  refine aE hS rfl (ap hS rfl aD) ?_;exact⟨(.slice (some ⟨a4,0,none⟩) 1 1),(aM d),rfl,hS.retOwn ⟨.inr (List.mem_of_getElem? (i:=0) rfl),trivial⟩ 0 rfl 0 rfl⟩
 refine ah hS fun a hS=>?_;refine wl rfl (aT (ps:=[(0,.tmp 18)]) hS gm gh (zl:=[.int .i64 0,.string (ByteArray.mk #[])]) (by kernel_rfl) rfl (us:=[(aM d)]) ⟨rfl,trivial⟩ (ws:=(aM d)) rfl rfl rfl rfl fun bb a w hk hS=>?_);refine ah hS fun a hS=>?_;obtain⟨t,Y,hM⟩:=bd hM;refine kc hS FZ (sE _ _ hS.dlt f b d _ (hS.get 0 rfl) _ Y) fun _ w hR a hk hA=>?_;obtain⟨h,j,q,he,⟨M,I,P⟩⟩:=hR;obtain rfl:=he.symm;have hS:=hA [om h j q] (eA M (qB I)) (ro _);replace hS:=hS.fM (P.keep (Kt.refl _ _) (iB _));refine ah hS fun a hS=>?_;refine aG (J:=fun a w=>∃ (r:LK) (D:Value) (u:LV),St W0 No T 57 [(7,D)] [au D u] [am ac u r,bv] a w∧py r=some y) ?_ ?_
 ·skip;refine ah hS fun a hS=>?_;replace hS:=hS.lit (R:=ac) (us:=(aM d)) (xs:=[d]) 1 rfl (by decide) (aB.one_ (R:=ac) (x:=d) rfl) rfl rfl;obtain⟨r1,b8,hMo1⟩:=bd hM;refine bu _ (fun s a w=>∃ (k:LK) (g:Int) (p:Value) (n:LV),(k,g)=s∧St W0 No T 57 [(0,o),(1,.int .i64 b),(5,pt m 0),(7,p),(8,.map (some h)),(24,o),(25,.int .i64 (f.length:Int)),(26,.int .i64 g)] [au p n,om h j q,.box m (aM d) 44] [aJ aa o f,am ac n k,sx j t,bv] a w) b8 ⟨_,_,_,_,rfl,hS.mt [1,0,2] [2,0,1,3]⟩ ?_;rintro s a w f1 ⟨k,g,p,n,rfl,hS⟩ hM hf1;have hM:lW f b d t k g=some f1:=hM;unfold lW at hM;refine ah hS fun a hS=>?_;refine az ?_;rcases cd hM with⟨ak,hM⟩|⟨ak,hM⟩
  ·refine ah hS fun a hS=>?_;refine aG (J:=fun a w=>∃ (C:LK) (E:Value) (z:LV),St W0 No T 57 [(0,o),(1,.int .i64 b),(5,pt m 0),(7,E),(8,.map (some h)),(24,o),(25,.int .i64 (f.length:Int)),(26,.int .i64 g)] [au E z,om h j q,.box m (aM d) 44] [aJ aa o f,am ac z C,sx j t,bv] a w∧nR g C=some f1) ?_ ?_
   ·skip;refine ah hS fun a hS=>?_;obtain⟨e,W,hM⟩:=bd hM;refine wl rfl (bc (R:=aa) hS n4 k8 rfl rfl 0 rfl W rfl fun bi c4 bs ao a hS=>?_);obtain⟨U,rfl,a3⟩:=ao;replace hS:=hS.fS a3;refine ah hS fun a hS=>?_;refine ka hS ft fun F c3 a w hk hS=>?_;refine go hS fun a w hS=>?_;refine aG (J:=fun a w=>∃ (A:Bool),St W0 No T 57 [(0,o),(1,.int .i64 b),(5,pt m 0),(7,p),(8,.map (some h)),(10,pt F 0),(24,o),(25,.int .i64 (f.length:Int)),(26,.int .i64 g),(48,.bool A)] [au p n,om h j q,.box m (aM d) 44,.box F (a6 e U) 84] [aJ aa o f,am ac n k,sx j t,aJ ac U e.Reads,bv] a w∧lV k g e A=some f1) ?_ ?_
    ·skip;refine dr [] hS fun w hQ hS=>?_;refine gE [0,1,2] hS fun a hS=>?_;refine dy 3 (v:=.bool (!((e.Key.Kind:Int) == d.Kind && e.Key.Text.toList == d.Text.toList))) rfl (by kernel_rfl) (by kernel_rfl) (by kernel_rfl) rfl hQ hS (vJ hS rfl rfl) rfl rfl rfl fun a hS=>?_;refine gE [4] hS fun a hS=>?_;rcases cd hM with⟨H,hM⟩|⟨H,hM⟩
     ·refine gE [5,6,7] hS fun a hS=>?_;obtain⟨b4,Z,hM⟩:=bd hM;obtain⟨bt,av,ax⟩:=dO hS sw cc 2 rfl 4 rfl (c:=(aM e.Key)) (key:=e.Key) rfl H1 (zc:=[.bool false]) rfl rfl Z;obtain rfl:=av;refine vG (l:=[]) 8 (v:=.bool b4) rfl (by kernel_rfl) (by kernel_rfl) (by kernel_rfl) (by kernel_rfl) hQ hS (ax rfl rfl bo) rfl rfl rfl H rfl rfl fun a hS=>?_;refine gE [9,10] hS fun a hS=>?_;rcases cd hM with⟨B,hM⟩|⟨B,hM⟩
      ·refine gE [11,12,13,14,16] hS fun a hS=>?_;obtain⟨c9,a0,hM⟩:=bd hM;refine cy (i:=15) rfl (by kernel_rfl) hS rfl rfl rfl B (a8 hS FZ rfl rfl (sE _ _ hS.dlt f b e.Key _ (hS.get 2 rfl) _ a0) fun _ w hR a hk hA=>⟨fc (hk),?_⟩);obtain⟨a5,ab,a9,he,⟨N,K,Q⟩⟩:=hR;obtain rfl:=he.symm;have hS:=hA [om a5 ab a9] (eA N (qB K)) (ro _);replace hS:=hS.fM (Q.keep (Kt.refl _ _) (iB _));obtain⟨b5,a1,hM⟩:=bd hM;obtain⟨c0,b0,b1⟩:=dO hS sw cc 0 rfl 0 rfl (c:=(aM d)) (key:=d) rfl H1 (zc:=[.bool false]) rfl rfl a1;obtain rfl:=b0;refine vG (l:=[]) 17 (v:=.bool b5) rfl (by kernel_rfl) (by kernel_rfl) (by kernel_rfl) (by kernel_rfl) hQ hS (b1 rfl rfl bo) rfl rfl rfl B rfl rfl fun a hS=>?_;refine gE [18] hS fun a hS=>?_;refine eD ?_;exact⟨_,hS.mt [2,3,4,1] [3,4,5,1,6],hM⟩
      refine gE [11,12,13,14,15,16,17,18] hS fun a hS=>?_;refine eD ?_;exact⟨_,hS.mt [1,2,3,0] [2,3,4,0,5],hM⟩
     refine gE [5,6,7,8,9,10,11,12,13,14,15,16,17,18] hS fun a hS=>?_;refine eD ?_;exact⟨_,hS.mt [1,2,3,0] [2,3,4,0,5],hM⟩
    rintro a w ⟨A,hS,hM⟩;unfold lV at hM;rcases cd hM with⟨b2,hM⟩|⟨b2,hM⟩
    ·refine ah hS fun a hS=>?_;refine wl rfl (aT (ps:=[(0,.tmp 51)]) hS gm gh (zl:=[.int .i64 0,.string (ByteArray.mk #[])]) (by kernel_rfl) rfl (us:=[(aM e.Key)]) ⟨rfl,trivial⟩ (ws:=(aM e.Key)) rfl rfl rfl rfl fun bl a w hk hS=>?_);replace hS:=(hS.lit (R:=ac) (us:=(aM e.Key)) (xs:=[e.Key]) 0 rfl (by decide) (aB.one_ (R:=ac) (x:=e.Key) rfl) rfl rfl).freeze (R:=ac) 0 rfl 0 rfl;obtain⟨b3,hM⟩:=aS hM;refine wl rfl (bw (R:=ac) (xs:=k) (ys:=[e.Key]) hS gm (by decide) (by decide) rfl rfl 0 rfl 3 rfl 0 rfl b3 rfl fun cb c1 a w hk hS=>?_);exact fz
    exact fz
   rintro a w ⟨C,E,z,hS,hM⟩;unfold nR at hM;exact fz
  exact fz
 rintro a w ⟨r,D,u,hS,hM⟩;unfold py at hM;refine ah hS fun a hS=>?_;have hL:=hS;replace hL:=hL.freeze (R:=ac) 0 rfl 0 rfl;obtain⟨c5,X,hM⟩:=bd hM;refine kc hS IR (rx _ _ hL.dlt (hL.get 2 rfl) r _ (hL.get 0 rfl) _ X) fun _ w hR a hk hA=>?_;obtain⟨V,G,he,⟨O,L,S⟩⟩:=hR;obtain rfl:=he.symm;have hS:=hA [au V G] (eA ⟨O,by decide⟩ L) (ro _);replace hS:=hS.fR S;refine ah hS fun a hS=>?_;cases hM
 refine aE hS rfl (ap hS rfl aD) ?_;exact⟨V,G,rfl,hS.retOwn ⟨.inr (List.mem_of_getElem? (i:=0) rfl),trivial⟩ 0 rfl 0 rfl⟩
end
end
section
open Go.RowKit
section
variable {P:Program}
theorem oy (w:World) (t t' ty e:TypeId) (size bytes:Nat) (E:Bx P t e size bytes) (b o dLen dCap:Nat) (sb soff sLen sCap n:Nat) (cs:List Value)
    (hn:n=Nat.min sLen dLen) (hl:cs.length=n * size) (hsrc:∀ j u,cs[j]? = some u→w.cell? ⟨sb,soff + j,none⟩=some u)
    (hc:∀ j,j < cs.length→(w.cell? ⟨b,o + j,none⟩).isSome=true) (hf:∀ j,j < cs.length→w.frozen? ⟨b,o + j,none⟩=false) (h1:∀ u ∈ cs,u.oneCell'=true) :
    (Builtin.copy_ #[t,t'] ty #[.slice (some ⟨b,o,none⟩) dLen dCap,.slice (some ⟨sb,soff,none⟩) sLen sCap]).run P w = .ok (goInt n) (w.setCells b o cs):=by
  obtain⟨ht,⟨i,z,hi,hz,hsize,hby,hzs⟩,hpos⟩:=E
  subst hsize hn
  have hfc:=run_firstCells_some (P:=P) w i.size (Nat.min sLen dLen) ⟨sb,soff,none⟩ sLen sCap cs hl (fun j u hu=>by rw [Addr.add_lit]; exact hsrc j u hu)
  have hst:=run_storeCells_cells (P:=P) b o cs 0 w (by simpa using hc) (by simpa using hf) h1
  simp only [Nat.add_zero] at hst
  simp [Builtin.copy_,run_underlying ht,Builtin.lenOf,sizeOf,typeInfo,hi,hfc,hst]
theorem uL (w:World) {o:Oper} {a:Act} {K:Act→World→Prop} {Q:Exit→Act→World→Prop} (d s:Operand) (t t':TypeId)
    (ho:o.op = .call { callee:=.builtin .copy,args:=#[d,s],argTypes:=#[t,t'] }) (v u:Value) (hd:a.eval d=v) (hs:a.eval s=u) {v':Value} {w':World}
    (hr:(Builtin.copy_ #[t,t'] o.type #[v,u]).run P w = .ok v' w') (h:K (a.put o.dst v') w'):o.wp P a w K Q:=by
  unfold Oper.wp execOp
  simp only [ho,resolve,invoke,builtin,Sem.run_bind,Sem.run_pure,Result.andThen_ok,List.map_toArray,List.map_cons,List.map_nil,hd,hs,hr]
  exact h
theorem zM (w:World) {ops:Array Oper} {rest:List Oper} {o:Oper} {a:Act} {Q:Exit→Act→World→Prop} (hgd:o.guard=none) (d s:Operand) (t t':TypeId)
    (ho:o.op = .call { callee:=.builtin .copy,args:=#[d,s],argTypes:=#[t,t'] }) (v u:Value) (hd:a.eval d=v) (hs:a.eval s=u) {v':Value} {w':World}
    (hr:(Builtin.copy_ #[t,t'] o.type #[v,u]).run P w = .ok v' w') (h:wpList P ops Q rest (a.put o.dst v') w'):wpList P ops Q (o :: rest) a w :=
  wpList_plain hgd fun _ hK=>uL w d s t t' ho v u hd hs hr (hK _ _ h)
theorem xD {ops:Array Oper} {o:Oper} {a:Act} {w:World} {K:Act→World→Prop} {Q:Exit→Act→World→Prop} {E:Prop}
    (hg:o.guard=none) (d x:Operand) (dT sT:TypeId) (hop:o.op=Op.call { callee:=Callee.builtin Builtin.copy,args:=#[d,x],argTypes:=#[dT,sT] })
    (v u:Value) (hd:a.eval d=v) (hx:a.eval x=u) {v':Value} {w':World} (hr:(Builtin.copy_ #[dT,sT] o.type #[v,u]).run P w = .ok v' w') (hK:K (a.put o.dst v') w') :
    if Region.wanted o (yielded ops a.tmps)=true then Oper.wp P o a w K Q else E:=by
  rw [if_pos (by simp [Region.wanted,hg])]
  exact uL w d x dT sT hop v u hd hx hr hK
theorem wE (w:World) {ops:Array Oper} {rest:List Oper} {o:Oper} {a:Act} {Q:Exit→Act→World→Prop} (hgd:o.guard=none) (d s:Operand) (t t':TypeId)
    (ho:o.op = .call { callee:=.builtin .append,args:=#[d,s],argTypes:=#[t,t'] }) (v u:Value) (hd:a.eval d=v) (hs:a.eval s=u) {v':Value} {w':World}
    (hr:(Builtin.append_ #[t,t'] o.type #[v,u]).run P w = .ok v' w') (h:wpList P ops Q rest (a.put o.dst v') w'):wpList P ops Q (o :: rest) a w :=
  wpList_plain hgd fun _ hK=>by
    unfold Oper.wp execOp
    simp only [ho,resolve,invoke,builtin,Sem.run_bind,Sem.run_pure,Result.andThen_ok,List.map_toArray,List.map_cons,List.map_nil,hd,hs,hr]
    exact hK _ _ h
end
theorem AG {T X D:List Value} {cs c1 c2:Array Value} {off:Nat}
    (h0:∀ j u,T[j]? = some u→cs[off + j]? = some u)
    (hd:∀ j u,D[j]? = some u→c1[off + T.length + X.length + j]? = some u) (h1:∀ j,j < off + T.length→c1[j]? = cs[j]?)
    (hx:∀ j u,X[j]? = some u→c2[off + T.length + j]? = some u) (h2:∀ j,(j < off + T.length∨off + T.length + X.length≤j)→c2[j]? = c1[j]?) :
    ∀ j u,(T ++ X ++ D)[j]? = some u→c2[off + j]? = some u:=by
  intro j u hu
  by_cases hT:j < T.length
  · rw [List.append_assoc,List.getElem?_append_left hT] at hu
    rw [h2 _ (.inl (by omega)),h1 _ (by omega)]
    exact h0 j u hu
  · by_cases hX:j < T.length + X.length
    · rw [List.getElem?_append_left (by rw [List.length_append]; exact hX),List.getElem?_append_right (by omega)] at hu
      have:=hx _ u hu
      rwa [show off + T.length + (j - T.length)=off + j by omega] at this
    · rw [List.getElem?_append_right (by rw [List.length_append]; omega),List.length_append] at hu
      have:=hd _ u hu
      rw [show off + T.length + X.length + (j - (T.length + X.length))=off + j by omega] at this
      rw [h2 _ (.inr (by omega))]
      exact this
theorem zE {T X D:List Value} {cs c1 c2:Array Value} {off:Nat}
    (h0:∀ j u,T[j]? = some u→cs[off + j]? = some u)
    (hx:∀ j u,X[j]? = some u→c1[off + T.length + j]? = some u) (h1:∀ j,(j < off + T.length∨off + T.length + X.length≤j)→c1[j]? = cs[j]?)
    (hd:∀ j u,D[j]? = some u→c2[off + T.length + X.length + j]? = some u) (h2:∀ j,j < off + T.length + X.length→c2[j]? = c1[j]?) :
    ∀ j u,(T ++ X ++ D)[j]? = some u→c2[off + j]? = some u:=by
  intro j u hu
  by_cases hT:j < T.length
  · rw [List.append_assoc,List.getElem?_append_left hT] at hu
    rw [h2 _ (by omega),h1 _ (.inl (by omega))]
    exact h0 j u hu
  · by_cases hX:j < T.length + X.length
    · rw [List.getElem?_append_left (by rw [List.length_append]; exact hX),List.getElem?_append_right (by omega)] at hu
      have:=hx _ u hu
      rw [show off + T.length + (j - T.length)=off + j by omega] at this
      rw [h2 _ (by omega)]
      exact this
    · rw [List.getElem?_append_right (by rw [List.length_append]; omega),List.length_append] at hu
      have:=hd _ u hu
      rwa [show off + T.length + X.length + (j - (T.length + X.length))=off + j by omega] at this
end
section
open Go.RowKit
theorem lB:Bx Tryz.prog 28 69 4 48:=vH (by kernel_rfl:xR Tryz.prog 28=some (69,4,48))
set_option maxHeartbeats 2000000 in
theorem y8 (cl xc:List Value) (n:Nat) (v:Value) (w:World) (hown:jk w 0 69 4 v cl) (hcl:cl.length=n * 4) (hxl:xc.length=4) (hx1:∀ u ∈ xc,u.oneCell'=true) (hn:n≤4294967296)
    (vb:Nat) (hv:w.heap[vb]? = some (.cells xc.toArray 69 (0,0))) :
    Calls Tryz.prog 74 #[v,.int .i64 n,.slice (some ⟨vb,0,none⟩) 1 1] w fun e w' =>
      ∃ v',e = .returned v'∧jk w' 0 69 4 v' (cl ++ xc)∧w.grownBy w' v.ownBlock∧(∀ k,v'.ownBlock=some k→v.ownBlock=some k∨w.heap.size≤k):=by
  obtain⟨A,m,c,rfl,h1,hnc,hc,hat⟩:=hown.form (by omega)
  obtain rfl:m=n:=by omega
  unfold maxLen at hc
  have hsrc:At w (some ⟨vb,0,none⟩) xc:=.inr ⟨vb,0,rfl,fun j u hu=>by rw [cell_of_row w vb _ _ _ _ hv]; simpa using hu⟩
  have Hsrc:=pC hsrc
  have Hown:=pC hown
  have Hv:=pC hv
  have Hx1:=pC hx1
  clear hsrc hown hv hat hx1
  have hb1:cl.length + xc.length≤35000000000 * 4:=by omega
  cases A with
  | none =>
    go_enter Tryz.func74,Tryz.ntmps74
    go_wp2_with (at_builtin; refine wD _ rfl _ _ 28 rfl _ 4 48 lB 0 (.slice none m c) cl rfl Hown.out _ 1 1 xc rfl (by rw [hxl]) Hsrc.out Hx1.out (by unfold maxLen; omega) (by omega) (Nat.zero_le _) ?_; intro v1 w1 hown1 hg1 hat1)
    all_goals (go_ret; exact⟨v1,rfl,hown1,hg1,fun k hk=>by rcases hat1 with h | h <;> rw [h] at hk; exact .inl hk; exact .inr (by injection hk with hk; omega)⟩)
  | some a =>
    obtain⟨ab,ao,asp⟩:=a
    go_enter Tryz.func74,Tryz.ntmps74
    go_wp2_with (at_builtin; refine wD _ rfl _ _ 28 rfl _ 4 48 lB 0 (.slice (some ⟨ab,ao,asp⟩) m c) cl rfl Hown.out _ 1 1 xc rfl (by rw [hxl]) Hsrc.out Hx1.out (by unfold maxLen; omega) (by omega) (Nat.zero_le _) ?_; intro v1 w1 hown1 hg1 hat1)
    all_goals (go_ret; exact⟨v1,rfl,hown1,hg1,fun k hk=>by rcases hat1 with h | h <;> rw [h] at hk; exact .inl hk; exact .inr (by injection hk with hk; omega)⟩)
set_option maxHeartbeats 4000000 in
set_option maxRecDepth 100000 in
theorem x4 (cl xc:List Value) (n i g off c:Nat) (cs:Array Value) (fz:Nat×Nat) (w:World) (hi:i < n) (hroom:n + 1≤c) (hc:c≤maxLen) (hl:n≤4294967296) (hcl:cl.length=n * 4) (hxl:xc.length=4) (hx1:∀ u ∈ xc,u.oneCell'=true) (hc1:∀ u ∈ cl,u.oneCell'=true)
    (hg:w.heap[g]? = some (.cells cs 69 fz)) (hfz:fz=(0,0)∨cs.size≤fz.1) (hfit:off + c * 4≤cs.size) (hcs:∀ j u,cl[j]? = some u→cs[off + j]? = some u)
    (vb:Nat) (hv:w.heap[vb]? = some (.cells xc.toArray 69 (0,0))) (hne:vb ≠ g) :
    Calls Tryz.prog 74 #[.slice (some ⟨g,off,none⟩) n c,.int .i64 i,.slice (some ⟨vb,0,none⟩) 1 1] w fun e w' =>
      ∃ v',e = .returned v'∧jk w' 0 69 4 v' (cl.take (i * 4) ++ xc ++ cl.drop (i * 4))∧w.grownBy w' (some g)∧(∀ k,v'.ownBlock=some k→some g=some k∨w.heap.size≤k):=by
  have hc':=hc
  unfold maxLen at hc
  obtain⟨TT,hT⟩:∃ TT,TT=cl.take (i * 4):=⟨_,rfl⟩
  obtain⟨DD,hD⟩:∃ DD,DD=cl.drop (i * 4):=⟨_,rfl⟩
  have hTl:TT.length=i * 4:=by rw [hT,List.length_take,hcl]; omega
  have hDl:DD.length=(n - i) * 4:=by rw [hD,List.length_drop,hcl]; omega
  rw [← hT,← hD]
  have hD1:∀ u ∈ DD,u.oneCell'=true:=fun u hu=>hc1 u (by rw [hD] at hu; exact List.mem_of_mem_drop hu)
  have hcell:∀ o,w.cell? ⟨g,o,none⟩=cs[o]?:=fun o=>cell_of_row w g o cs _ _ hg
  obtain⟨G1,hG1⟩:∃ G,G=w.drew.setCells g (off + (i + 1) * 4) DD:=⟨_,rfl⟩
  obtain⟨c1,a1,a2,a3,a4⟩:=dG g _ fz DD (off + (i + 1) * 4) w.drew cs hg
  obtain⟨c2,b1,b2,b3,b4⟩:=dG g _ fz xc (off + i * 4) G1 c1 (by rw [hG1]; exact a1)
  have hv1:G1.heap[vb]? = some (.cells xc.toArray 69 (0,0)):=by rw [hG1,mO _ _ _ _ _ hne]; exact hv
  have hcp1:∀ ty dc sc,(Builtin.copy_ #[28,28] ty #[.slice (some ⟨g,off + (i + 1) * 4,none⟩) (n - i) dc,.slice (some ⟨g,off + i * 4,none⟩) (n + 1 - i) sc]).run Tryz.prog w.drew = .ok (goInt ((n - i:Nat):Int)) G1:=fun ty dc sc=>by
    rw [hG1]
    refine oy (P:=Tryz.prog) w.drew _ _ ty _ 4 48 lB g (off + (i + 1) * 4) _ dc g (off + i * 4) _ sc _ _ (by simp only [Nat.min_def]; split <;> omega) hDl ?_ ?_ ?_ hD1
    · intro j u hu
      show w.cell? _=_
      rw [hcell,Nat.add_assoc]
      rw [hD,List.getElem?_drop] at hu
      exact hcs _ u hu
    · intro j hj
      show (w.cell? _).isSome=true
      rw [hcell,Array.getElem?_eq_getElem (by omega)]; rfl
    · intro j hj
      show w.frozen? _=false
      exact uN.free ⟨fz,hg,hfz⟩ (by omega)
  have hcp2:∀ ty dc,(Builtin.copy_ #[28,28] ty #[.slice (some ⟨g,off + i * 4,none⟩) (n + 1 - i) dc,.slice (some ⟨vb,0,none⟩) 1 1]).run Tryz.prog G1 = .ok (goInt 1) (G1.setCells g (off + i * 4) xc):=fun ty dc=>by
    have hg1:G1.heap[g]? = some (.cells c1 69 fz):=by rw [hG1]; exact a1
    refine oy (P:=Tryz.prog) G1 _ _ ty _ 4 48 lB g (off + i * 4) _ dc vb 0 1 1 1 xc (by simp only [Nat.min_def]; split <;> omega) (by rw [hxl]) ?_ ?_ ?_ hx1
    · intro j u hu
      rw [cell_of_row _ vb _ _ _ _ hv1]
      simpa using hu
    · intro j hj
      rw [cell_of_row _ g _ _ _ _ hg1,Array.getElem?_eq_getElem (by omega)]; rfl
    · intro j hj
      exact uN.free ⟨fz,hg1,by rw [a2]; exact hfz⟩ (by omega)
  have hov:∀ lb cb,(callFunc 109 #[.slice (some ⟨vb,0,none⟩) 1 1,.slice (some ⟨g,off + (i + 1) * 4,none⟩) lb cb]).run Tryz.prog w = .ok (.value (.bool false)) w:=fun lb cb=>by
    rw [run_callFunc_extern Tryz.func109 (by kernel_rfl) (by kernel_rfl) (by kernel_rfl) (e:=Extern.SlicesOverlaps.overlaps #[28,28] #[4]) (by kernel_rfl),
      Lib.run_overlaps_apart w 28 4 69 Tryz.underlying28 4 (fun _=>by kernel_rfl) ⟨vb,0,none⟩ ⟨g,off + (i + 1) * 4,none⟩ 1 1 lb cb hne 69 69 4 cs.size
        (by simp [World.shape?,hv,hxl]) (by simp [World.shape?,hg]) (by omega) (by simp [World.frozen?,hv]) (by simp [World.frozen?,hv])]
    rfl
  have hz2:¬ ((i:Int)=(n:Int)):=by omega
  have hw1:IntKind.i64.wrap ((i:Int) + 1)=(i:Int) + 1:=IntWalk.i64_in _ (by omega)
  have hb1:(0:Int)≤(i:Int) + 1:=by omega
  have htn:((i:Int) + 1).toNat=i + 1:=by omega
  have hb2:¬ (c=i + 1):=by omega
  have hb3:(i:Int)≤(n:Int) + 1:=by omega
  have hb4:¬ (c=i):=by omega
  have hin:i≤n:=by omega
  have HT:=pC hT
  have HD:=pC hD
  have Hg:=pC hg
  have Hv:=pC hv
  have Hv1:=pC hv1
  have HTl:=pC hTl
  have HDl:=pC hDl
  have HG1:=pC hG1
  have Ha1:=pC a1
  have Hb1:=pC b1
  have Hc:=pC hcs
  have Ha:=pC a4
  have Hb:=pC b4
  have Ha3:=pC a3
  have Hb3:=pC b3
  have Ha2:=pC a2
  have Hb2:=pC b2
  have Hcl:=pC hcl
  have Hxl:=pC hxl
  have Hfz:=pC hfz
  clear hT hD hg hv hv1 hTl hDl hG1 a1 b1 hcs a4 b4 a3 b3 hcell a2 b2 hcl hxl hfz hx1 hc1 hD1
  go_enter Tryz.func74,Tryz.ntmps74
  go_wp2_with (simp only [hov])
  go_region_law (refine xD rfl _ _ 28 28 rfl _ _ (by simp [Act.eval,Act.put]) (by simp [Act.eval,Act.put]) (hcp1 _ _ _) ?_)
  go_wp2_with (at_builtin; refine zM _ rfl _ _ 28 28 rfl _ _ rfl rfl (hcp2 _ _) ?_)
  go_ret
  have eT:=HTl.out
  have eD:=HDl.out
  have eX:=Hxl.out
  refine⟨_,rfl,.inr ⟨g,off,n + 1,c,c2,rfl,?_,Nat.zero_le _,⟨fz,Hb1.out,by rw [Hb2.out,Ha2.out]; exact Hfz.out⟩,hroom,hc',by rw [Hb2.out,Ha2.out]; exact hfit,?_⟩,?_,fun k hk=>.inl hk⟩
  · rw [List.length_append,List.length_append,eT,eD,eX]; omega
  · refine AG (cs:=cs) (c1:=c1) (fun j u hu=>?_) (fun j u hu=>?_) (fun j hj=>?_) (fun j u hu=>?_) (fun j hj=>?_)
    · rw [HT.out,List.getElem?_take] at hu
      split at hu
      · exact Hc.out j u hu
      · cases hu
    · have:=Ha.out (by omega) j u hu
      rwa [show off + (i + 1) * 4 + j=off + TT.length + xc.length + j by rw [eT,eX]; omega] at this
    · exact Ha3.out j (.inl (by rw [eT] at hj; omega))
    · have:=Hb.out (by rw [eX,Ha2.out]; omega) j u hu
      rwa [← eT] at this
    · refine Hb3.out j ?_
      rw [eT,eX] at hj
      rw [eX]
      omega
  · have e1:=jT w.drew g (off + (i + 1) * 4) DD
    have e2:=jT G1 g (off + i * 4) xc
    rw [← HG1.out] at e1
    exact World.grownBy.trans (a:=w) (b:=G1) ⟨e1.os,e1.tape,e1.output,e1.size,e1.block⟩ e2
set_option maxHeartbeats 4000000 in
set_option maxRecDepth 100000 in
theorem xZ (cl xc:List Value) (n i g off c:Nat) (cs:Array Value) (fz:Nat×Nat) (w:World) (hi:i < n) (hnc:n≤c) (hroom:c < n + 1) (hc:c≤maxLen) (hl:n≤4294967296) (hcl:cl.length=n * 4) (hxl:xc.length=4) (hx1:∀ u ∈ xc,u.oneCell'=true) (hc1:∀ u ∈ cl,u.oneCell'=true)
    (hg:w.heap[g]? = some (.cells cs 69 fz)) (hfit:off + c * 4≤cs.size) (hcs:∀ j u,cl[j]? = some u→cs[off + j]? = some u)
    (vb:Nat) (hv:w.heap[vb]? = some (.cells xc.toArray 69 (0,0))) :
    Calls Tryz.prog 74 #[.slice (some ⟨g,off,none⟩) n c,.int .i64 i,.slice (some ⟨vb,0,none⟩) 1 1] w fun e w' =>
      ∃ v',e = .returned v'∧jk w' 0 69 4 v' (cl.take (i * 4) ++ xc ++ cl.drop (i * 4))∧w.grownBy w' (some g)∧(∀ k,v'.ownBlock=some k→some g=some k∨w.heap.size≤k):=by
  have hc':=hc
  unfold maxLen at hc
  obtain⟨TT,hT⟩:∃ TT,TT=cl.take (i * 4):=⟨_,rfl⟩
  obtain⟨DD,hD⟩:∃ DD,DD=cl.drop (i * 4):=⟨_,rfl⟩
  have hTl:TT.length=i * 4:=by rw [hT,List.length_take,hcl]; omega
  have hDl:DD.length=(n - i) * 4:=by rw [hD,List.length_drop,hcl]; omega
  rw [← hT,← hD]
  have hD1:∀ u ∈ DD,u.oneCell'=true:=fun u hu=>hc1 u (by rw [hD] at hu; exact List.mem_of_mem_drop hu)
  have hcell:∀ o,w.cell? ⟨g,o,none⟩=cs[o]?:=fun o=>cell_of_row w g o cs _ _ hg
  have hgl:g < w.heap.size:=(Array.getElem?_eq_some_iff.1 hg).1
  have hvl:vb < w.heap.size:=(Array.getElem?_eq_some_iff.1 hv).1
  obtain⟨_,⟨i0,z,hi0,hz0,hsize,hby,hzs⟩,_⟩:=lB
  have hold:(Builtin.firstCells i0.size i (.slice (some ⟨g,off,none⟩) i c)).run Tryz.prog w.drew = .ok TT.toArray w.drew:=by
    rw [hsize]
    exact run_firstCells_some w.drew 4 i ⟨g,off,none⟩ i c _ hTl (fun j u hu=>by
      rw [Addr.add_lit]
      show w.cell? _=_
      rw [hcell]
      rw [hT,List.getElem?_take] at hu
      split at hu
      · exact hcs j u hu
      · cases hu)
  have hk:i + (n + 1 - i)=n + 1:=by omega
  obtain⟨G,hG⟩:∃ G,G=grownCap w (n + 1) c 69:=⟨_,rfl⟩
  obtain⟨ROW,hROW⟩:∃ ROW:Array Value,ROW=TT.toArray ++ Builtin.zeroCells z.cells (n + 1 - i) ++ Builtin.zeroCells z.cells (G - (n + 1)):=⟨_,rfl⟩
  have hGn:n + 1≤G:=by rw [hG]; exact grownCap_ge w _ _ _
  have hG63:G≤maxLen:=by rw [hG]; exact grownCap_le_maxLen w _ _ _ (by unfold maxLen; omega)
  have hRl:ROW.size=G * 4:=by
    rw [hROW]
    simp only [Array.size_append,List.size_toArray,size_zeroCells,hzs,hTl]
    omega
  have hrz:∀ ty,(Builtin.append_ #[28,3] ty #[.slice (some ⟨g,off,none⟩) i c,.int .i64 ((n:Int) + 1 - (i:Int))]).run Tryz.prog w =
      .ok (.slice (some ⟨w.heap.size,0,none⟩) (n + 1) G) (w.drew.alloc (.cells ROW 69)):=fun ty=>by
    have h:=Lib.run_append_grow_zeros w 28 3 ty 69 i0 z .i64 .i64 Tryz.underlying28 Tryz.underlying3 hi0 hz0 (some ⟨g,off,none⟩) i c _ hold (n + 1 - i) (by omega) (by omega) (by omega) (by omega) (by rw [hby]; omega) (by rw [hby,hk]; exact growslice_fits hroom (by omega))
    rw [hk,← hG,← hROW] at h
    rw [show (n:Int) + 1 - (i:Int)=((n + 1 - i:Nat):Int) by omega]
    exact h
  obtain⟨W1,hW1⟩:∃ W1,W1=w.drew.alloc (.cells ROW 69):=⟨_,rfl⟩
  have hW1g:W1.heap[w.heap.size]? = some (.cells ROW 69 (0,0)):=by rw [hW1]; exact heap_alloc_new w.drew _
  have hW1o:∀ k,k < w.heap.size→W1.heap[k]? = w.heap[k]?:=fun k hk=>by rw [hW1]; exact Below.heap_alloc w.drew _ k hk
  rw [← hW1] at hrz
  have hcpA:∀ ty dc,(Builtin.copy_ #[28,28] ty #[.slice (some ⟨w.heap.size,i * 4,none⟩) (n + 1 - i) dc,.slice (some ⟨vb,0,none⟩) 1 1]).run Tryz.prog W1 = .ok (goInt 1) (W1.setCells w.heap.size (i * 4) xc):=fun ty dc=>by
    refine oy (P:=Tryz.prog) W1 _ _ ty _ 4 48 lB w.heap.size (i * 4) _ dc vb 0 1 1 1 xc (by simp only [Nat.min_def]; split <;> omega) (by rw [hxl]) ?_ ?_ ?_ hx1
    · intro j u hu
      rw [cell_of_row _ vb _ _ _ _ ((hW1o vb hvl).trans hv)]
      simpa using hu
    · intro j hj
      rw [cell_of_row _ _ _ _ _ _ hW1g,Array.getElem?_eq_getElem (by omega)]; rfl
    · intro j hj
      simp [World.frozen?,hW1g]
  obtain⟨c1,a1,a2,a3,a4⟩:=dG w.heap.size _ (0,0) xc (i * 4) W1 ROW hW1g
  obtain⟨W2,hW2⟩:∃ W2,W2=W1.setCells w.heap.size (i * 4) xc:=⟨_,rfl⟩
  rw [← hW2] at a1 hcpA
  have hcpB:∀ ty dc sc,(Builtin.copy_ #[28,28] ty #[.slice (some ⟨w.heap.size,(i + 1) * 4,none⟩) (n - i) dc,.slice (some ⟨g,off + i * 4,none⟩) (n - i) sc]).run Tryz.prog W2.drew = .ok (goInt ((n - i:Nat):Int)) (W2.drew.setCells w.heap.size ((i + 1) * 4) DD):=fun ty dc sc=>by
    refine oy (P:=Tryz.prog) W2.drew _ _ ty _ 4 48 lB w.heap.size ((i + 1) * 4) _ dc g (off + i * 4) _ sc _ _ (by simp only [Nat.min_def]; split <;> omega) hDl ?_ ?_ ?_ hD1
    · intro j u hu
      show W2.cell? _=_
      rw [hW2,World.cell?_of_block (a:=⟨g,_,none⟩) (mO _ _ _ W1 g (by omega)),World.cell?_of_block (a:=⟨g,_,none⟩) (hW1o g hgl),hcell,Nat.add_assoc]
      rw [hD,List.getElem?_drop] at hu
      exact hcs _ u hu
    · intro j hj
      show (W2.cell? _).isSome=true
      rw [cell_of_row _ _ _ _ _ _ a1,Array.getElem?_eq_getElem (by omega)]; rfl
    · intro j hj
      show W2.frozen? _=false
      simp [World.frozen?,a1]
  obtain⟨c2,b1,b2,b3,b4⟩:=dG w.heap.size _ (0,0) DD ((i + 1) * 4) W2.drew c1 a1
  have hz2:¬ ((i:Int)=(n:Int)):=by omega
  have hz3:(c:Int) < (n:Int) + 1:=by omega
  have hw1:IntKind.i64.wrap ((i:Int) + 1)=(i:Int) + 1:=IntWalk.i64_in _ (by omega)
  have hb1:(0:Int)≤(i:Int) + 1:=by omega
  have htn:((i:Int) + 1).toNat=i + 1:=by omega
  have hb3:(i:Int)≤(n:Int) + 1:=by omega
  have hb4:¬ (c=i):=by omega
  have hin:i≤n:=by omega
  have hGi:¬ (G=i):=by omega
  have hGim:¬ (G=i + 1):=by omega
  have hG63':=hG63
  unfold maxLen at hG63
  have HT:=pC hT
  have HD:=pC hD
  have HTl:=pC hTl
  have HDl:=pC hDl
  have Hb1:=pC b1
  have Hc:=pC hcs
  have Ha:=pC a4
  have Hb:=pC b4
  have Ha3:=pC a3
  have Hb3:=pC b3
  have Ha2:=pC a2
  have Hb2:=pC b2
  have HR:=pC hRl
  have HROW:=pC hROW
  have HW1:=pC hW1
  have HW2:=pC hW2
  have Hxl:=pC hxl
  clear hT hD hg hv hTl hDl a1 b1 hcs a4 b4 a3 b3 hcell a2 b2 hRl hROW hW1 hW2 hG hold hk hW1g hW1o hi0 hz0 hsize hby hzs hcl hxl hx1 hc1 hD1
  go_enter Tryz.func74,Tryz.ntmps74
  go_wp2_with (first
    | (at_builtin; refine wE _ rfl _ _ _ _ rfl _ _ rfl rfl (hrz _) ?_)
    | (at_builtin; refine zM _ rfl _ _ 28 28 rfl _ _ rfl rfl (hcpA _ _) ?_))
  go_region_law (refine xD rfl _ _ 28 28 rfl _ _ (by simp [Act.eval,Act.put]) (by simp [Act.eval,Act.put]) (hcpB _ _ _) ?_)
  go_wp2
  go_ret
  have eT:=HTl.out
  have eD:=HDl.out
  have eX:=Hxl.out
  refine⟨.slice (some ⟨w.heap.size,0,none⟩) (n + 1) G,rfl,.inr ⟨w.heap.size,0,n + 1,G,c2,rfl,?_,Nat.zero_le _,uN.of Hb1.out,hGn,hG63',by rw [Hb2.out,Ha2.out,HR.out]; omega,?_⟩,?_,fun k hk=>.inr (Nat.le_of_eq (Option.some.inj hk))⟩
  · rw [List.length_append,List.length_append,eT,eD,eX]; omega
  · refine zE (cs:=ROW) (c1:=c1) (fun j u hu=>?_) (fun j u hu=>?_) (fun j hj=>?_) (fun j u hu=>?_) (fun j hj=>?_)
    · have hj:=(List.getElem?_eq_some_iff.1 hu).1
      rw [HROW.out,Nat.zero_add,Array.append_assoc,Array.getElem?_append_left (by simpa using hj)]
      simpa using hu
    · have:=Ha.out (by rw [eX,HR.out]; omega) j u hu
      rwa [Nat.zero_add,eT]
    · refine Ha3.out j ?_
      rw [eT,eX] at hj
      rw [eX]
      omega
    · have:=Hb.out (by rw [eD,Ha2.out,HR.out]; omega) j u hu
      rwa [show (i + 1) * 4 + j=0 + TT.length + xc.length + j by rw [eT,eX]; omega] at this
    · exact Hb3.out j (.inl (by rw [eT,eX] at hj; omega))
  · have e0:w.grownBy W1 (some g):=by rw [HW1.out]; exact⟨rfl,rfl,rfl,by simp,fun k hk _=>Below.heap_alloc w.drew _ k hk⟩
    have e1:=jT W1 w.heap.size (i * 4) xc
    have e2:=jT W2.drew w.heap.size ((i + 1) * 4) DD
    rw [← HW2.out] at e1
    refine⟨?_,?_,?_,?_,?_⟩
    · exact e2.os.trans (e1.os.trans e0.os)
    · exact e2.tape.trans (e1.tape.trans e0.tape)
    · exact e2.output.trans (e1.output.trans e0.output)
    · exact Nat.le_trans e0.size (Nat.le_trans e1.size e2.size)
    · intro k hk hne
      have hk1:=Nat.lt_of_lt_of_le hk e0.size
      have hk2:=Nat.lt_of_lt_of_le hk1 e1.size
      have hne':some k ≠ some w.heap.size:=fun e=>by injection e; omega
      exact (e2.block k hk2 hne').trans ((e1.block k hk1 hne').trans (e0.block k hk hne))
theorem y7 (cl xc:List Value) (n:Nat) (v:Value) (i:Nat) (w:World) (hown:jk w 0 69 4 v cl) (hcl:cl.length=n * 4) (hxl:xc.length=4) (hx1:∀ u ∈ xc,u.oneCell'=true) (hc1:∀ u ∈ cl,u.oneCell'=true) (hi:i≤n) (hl:n≤4294967296)
    (vb:Nat) (hv:w.heap[vb]? = some (.cells xc.toArray 69 (0,0))) (hne:v.ownBlock ≠ some vb) :
    Calls Tryz.prog 74 #[v,.int .i64 i,.slice (some ⟨vb,0,none⟩) 1 1] w fun e w' =>
      ∃ v',e = .returned v'∧jk w' 0 69 4 v' (cl.take (i * 4) ++ xc ++ cl.drop (i * 4))∧w.grownBy w' v.ownBlock∧(∀ k,v'.ownBlock=some k→v.ownBlock=some k∨w.heap.size≤k):=by
  rcases Nat.lt_or_ge i n with h | h
  · have ho:=hown
    rcases hown with⟨rfl,h0⟩|⟨g,off,m,cap,cs,rfl,h1,hb,hg,hnc,hc,hsz,hcs⟩
    · rw [h0] at hcl
      simp at hcl
      omega
    · obtain rfl:m=n:=by omega
      obtain⟨fz,hg,hfz⟩:=hg
      have hne':vb ≠ g:=fun e=>hne (by simp [Value.ownBlock,e])
      rcases Nat.lt_or_ge cap (m + 1) with h2 | h2
      · exact xZ cl xc m i g off cap cs fz w h hnc h2 hc hl hcl hxl hx1 hc1 hg hsz hcs vb hv
      · exact x4 cl xc m i g off cap cs fz w h h2 hc hl hcl hxl hx1 hc1 hg hfz hsz hcs vb hv hne'
  · obtain rfl:i=n:=by omega
    have e1:cl.take (i * 4) ++ xc ++ cl.drop (i * 4)=cl ++ xc:=by
      rw [← hcl,List.take_length,List.drop_length,List.append_nil]
    rw [e1]
    exact y8 cl xc i v w hown hcl hxl hx1 hl vb hv
theorem Aj {α:Type} {R:aN α} (hR:R.size=4) (T:Nat→Prop) (W0:World) (v:Value) (cl:List Value) (vb:Nat) (xc:List Value) (xs:List α) (x:α) (i:Int) (hD:vd T W0 [.own v 69 R.size cl,.box vb xc 69]) (hv:aB R (dT T [.own v 69 R.size cl,.box vb xc 69]) W0 cl xs) (hx:R.rel (dT T [.own v 69 R.size cl,.box vb xc 69]) W0 xc x)
    (h0:decide (0≤i)=true) (h1:decide (i≤xs.length)=true) (hr:br (xs.length + 1)=true):aW Tryz.prog (MD [.own v 69 R.size cl,.box vb xc 69]) 74 [v,.int .i64 i,.slice (some ⟨vb,0,none⟩) 1 1] W0 (fun v' w'=>∃ cl',aB R (dT T [.own v' 69 R.size cl']) w' cl' (xs.take i.toNat ++ x :: xs.drop i.toNat)∧n7 W0 w' [.own v 69 R.size cl,.box vb xc 69] [.own v' 69 R.size cl']):=by
  have h0:=of_decide_eq_true h0
  have h1:=of_decide_eq_true h1
  have hr:=wq hr
  obtain⟨k,rfl⟩:∃ k:Nat,i=k:=⟨i.toNat,by omega⟩
  have hown:=(hD.own _ List.mem_cons_self).1
  have hbox:W0.heap[vb]? = some (.cells xc.toArray 69 (0,0)):=hD.own (.box vb xc 69) (by simp)
  have hap:=(List.pairwise_cons.1 hD.apart).1 (.box vb xc 69) (by simp)
  have hne:v.ownBlock ≠ some vb:=fun e=>hap vb e rfl
  have hpos:0 < R.size:=by rw [hR]; omega
  have hx1:=hv.cell hpos
  have hcl:=hv.1
  rw [hR] at hown hcl
  refine (y7 cl xc xs.length v k W0 hown hcl (by rw [R.len hx,hR]) (fun u hu=>R.one hx u hu) hx1 (by omega) (by omega) vb hbox hne).mono ?_
  rintro e w' ⟨v',rfl,g1,g2,g3⟩
  have hk:=Kt.grown g2
  have hkM:Kt (MD [.own v 69 R.size cl,.box vb xc 69]) W0 w':=hk.mono fun j hj=>⟨_,List.mem_cons_self,hj⟩
  have hN:n7 W0 w' [.own v 69 R.size cl,.box vb xc 69] [.own v' 69 R.size (cl.take (k * 4) ++ xc ++ cl.drop (k * 4))]:=by
    refine⟨fun r hr=>?_,fun r hr j hj=>?_,ro _⟩
    · simp only [List.mem_cons,List.not_mem_nil,or_false] at hr
      subst hr
      refine⟨?_,hpos⟩
      rw [hR]; exact g1
    · simp only [List.mem_cons,List.not_mem_nil,or_false] at hr
      subst hr
      rcases g3 j hj with h | h
      · exact .inl ⟨_,List.mem_cons_self,h⟩
      · exact .inr h
  refine⟨v',rfl,hkM,_,?_,hN⟩
  have hlo:=hv.cut (Nat.zero_le k) (by omega:k≤xs.length)
  have hhi:=hv.cut (by omega:k≤xs.length) (Nat.le_refl _)
  have e8:k * R.size=k * 4:=by rw [hR]
  rw [Nat.zero_mul,List.drop_zero,List.drop_zero,e8] at hlo
  rw [List.take_length,List.take_of_length_le (by rw [hv.1]; exact Nat.le_refl _),e8] at hhi
  have h3:=(hlo.append (aB.one_ hx)).append hhi
  rw [show ((k:Int)).toNat=k by omega,show xs.take k ++ x :: xs.drop k=xs.take k ++ [x] ++ xs.drop k by simp]
  refine h3.keep (hkM.mono fun j hj=>.inr hj) fun j hj=>?_
  rcases hj with hj | ⟨r,hr,hj⟩
  · exact .inl (.inl hj)
  · rcases hN.from_ r hr j hj with h | h
    · exact .inl (.inr h)
    · exact .inr h
end
end Go.Proofs.YtmfcloapbgfhaaaGreatDoor
