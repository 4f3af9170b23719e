/- Texts of the proof, joined (3). -/
import Derived.Test.YtmfcloapbgfhaaaGreatDoorA1
import Derived.Test.YtmfcloapbgfhaaaGreatDoorA2
set_option linter.unusedVariables false
set_option linter.unusedSimpArgs false
set_option linter.unusedSectionVars false
namespace Go.Proofs.YtmfcloapbgfhaaaGreatDoor
section
set_option maxRecDepth 100000
set_option maxHeartbeats 4000000
open Go.RowKit
noncomputable section
def lD (b:LN):Option Bool:=some (decide ((b.length:Int)≤400))
theorem yd (T:Nat→Prop) (W0:World) (hT:TW T W0) (b:LN) (d:Value) (c:aA (aN.int .i64) T W0 d b) (y:Bool) (hM:lD b=some y):aW Tryz.prog No 5 [d] W0 (fun v w'=>v = .bool y):=by
 refine en Tryz.func5 Tryz.ntmps5 hT fun a hS=>?_;replace hS:=hS.fS (aA.dn c);unfold lD at hM;exact fz
def cI:Option Int:=some ((-1))
def aO (c:LI) (f:aI→Option Bool) (b:Int):Option (Fl (Int) (Fl (Unit) Int)):=cond (decide ((b:Int) < (c.length:Int))) ((be c b).bind fun d=>(f d).bind fun e=>cond e (some (.out (.out b))) (some (.go (IntKind.i64.wrap (b + 1))))) (some (.out (.go ())))
def bP (b:aI→Option Bool) (c:LI):Option Int:=(loop (fun s:Int=>aO c b s) 0).bind fun r=>Fl.el r (fun s=>cI) (fun y=>some (y))
theorem jU (T:Nat→Prop) (W0:World) (hT:TW T W0) (hLv:cU T W0) (f_1g:Nat) (f:aL Tryz.prog f_1g=true) (f_1k:List Value) (f_1P:bU) (d:aI→Option Bool) (m:∀ (T:Nat→Prop) (W0:World) (hT:TW T W0) (hLv:cU T W0) (hP:f_1P.p T W0) (q:aI) (y:Bool) (hM:d q=some y),aW Tryz.prog No f_1g ([.agg (mW q).toArray] ++ f_1k) W0 (fun v w'=>v = .bool y)) (e:f_1P.p T W0) (c:LI) (i:Value) (o:aA ad T W0 i c) (y:Int) (hM:bP d c=some y):aW Tryz.prog No 138 [i,.func (.func f_1g) #[] f_1k.toArray] W0 (fun v w'=>v = .int .i64 y):=by
 refine en Tryz.func138 Tryz.ntmps138 hT fun a hS=>?_;replace hS:=((hS.fact f_1P (bU.dn _ e)).fact bv (cU.dn hLv)).fS (aA.dn o);unfold bP at hM;refine ah hS fun a hS=>?_;refine aG (J:=fun a w=>St W0 No T 19 [] [] [bv,f_1P] a w∧cI=some y) ?_ ?_
 ·skip;refine ah hS fun a hS=>?_;obtain⟨A,n,hMo1⟩:=bd hM;refine bu _ (fun s a w=>∃ (b:Int),b=s∧St W0 No T 19 [(0,i),(1,.func (.func f_1g) #[] f_1k.toArray),(7,.int .i64 (c.length:Int)),(8,.int .i64 b)] [] [aJ ad i c,bv,f_1P] a w) n ⟨_,rfl,hS.mt [] [0,1,2]⟩ ?_;rintro s a w u ⟨b,rfl,hS⟩ hM hf1;have hM:aO c d b=some u:=hM;unfold aO at hM;refine ah hS fun a hS=>?_;refine az ?_;rcases cd hM with⟨k,hM⟩|⟨k,hM⟩
  ·refine ah hS fun a hS=>?_;refine az ?_;refine ah hS fun a hS=>?_;obtain⟨j,g,hM⟩:=bd hM;refine wl rfl (bc (R:=ad) hS sg rL rfl rfl 0 rfl g rfl fun r x t l a hS=>?_);obtain rfl:=l;refine ah hS fun a hS=>?_;obtain⟨z,h,hM⟩:=bd hM;refine wl rfl (rU (cap:=f_1k) hS rfl f rfl rfl (m _ _ hS.dlt (hS.get 2 rfl) (hS.get 3 rfl) j _ h) fun _ w hR a hk hA=>?_);obtain rfl:=hR;have hS:=bV hA;exact fz
  exact fz
 rintro a w ⟨hS,hM⟩;unfold cI at hM;exact fz
def cO (c:aI) (b:ae):Option Bool:=some ((c.Key.Kind:Int) == b.Kind && c.Key.Text.toList == b.Text.toList)
theorem tJ (T:Nat→Prop) (W0:World) (hT:TW T W0) (d:aI) (b:ae) (c:Nat) (e:(l6 c 0 (aM b)).p T W0) (y:Bool) (hM:cO d b=some y):aW Tryz.prog No 139 [.agg (mW d).toArray,pt c 0] W0 (fun v w'=>v = .bool y):=by
 refine en Tryz.func139 Tryz.ntmps139 hT fun a hS=>?_;replace hS:=hS.fact (l6 c 0 (aM b)) (bU.dn _ e);unfold cO at hM;refine ah hS fun a hS=>?_;refine kb hS fun f g a w hk hS=>?_;refine ah hS fun a hS=>?_;refine wl rfl (ky (v:=.bool ((d.Key.Kind:Int) == b.Kind && d.Key.Text.toList == b.Text.toList)) hS (wP hS rfl rfl) rfl rfl fun a hS=>?_);exact fz
def k6 (c:ai) (e:ae):Option aI:=(bP (fun f=>cO f e) c.Inputs).bind fun b=>cond (decide ((b:Int) < 0)) (some ((aI.mk (ae.mk 0 (ByteArray.mk #[])) (ByteArray.mk #[]) 0))) ((be c.Inputs b).bind fun d=>some (d))
theorem uV (T:Nat→Prop) (W0:World) (hT:TW T W0) (hLv:cU T W0) (c:ai) (d:ae) (l:Value) (m:Value) (j:aA ad T W0 l c.Inputs) (k:aA aa T W0 m c.Records) (y:aI) (hM:k6 c d=some y):aW Tryz.prog No 108 [.agg (aQ c l m).toArray,.agg (aM d).toArray] W0 (fun v w'=>v = .agg (mW y).toArray):=by
 refine en Tryz.func108 Tryz.ntmps108 hT fun a hS=>?_;replace hS:=((hS.fact bv (cU.dn hLv)).fS (aA.dn j)).fS (aA.dn k);unfold k6 at hM;refine ah hS fun a hS=>?_;refine kb hS fun n s a w hk hS=>?_;refine kb hS fun b t a w hk hS=>?_;refine ka hS qV fun o u a w hk hS=>?_;refine ah hS fun a hS=>?_;replace hS:=hS.freezeBox 1 rfl;refine qy hS (zQ (vs:=[pt b 0]) hS rfl) fun a hS=>?_;obtain⟨z,f,hM⟩:=bd hM;refine kc hS Iw (jU _ _ hS.dlt (hS.get 3 rfl) 139 Ix [pt b 0] (Ec (l6 b 0 (aM d)) w8) (fun i=>cO i d) (fun T W0 hT hLv hP i y hM=>tJ T W0 hT i d b hP.1 y hM) ⟨(hS.get 0 rfl),trivial⟩ c.Inputs _ (hS.get 2 rfl) _ f) fun _ w hR a hk hA=>?_;obtain rfl:=hR;have hS:=bV hA;refine ah hS fun a hS=>?_;refine az ?_;refine ah hS fun a hS=>?_;rcases cd hM with⟨g,hM⟩|⟨g,hM⟩
 ·refine ah hS fun a hS=>?_;refine qy hS (bj (ps:=[]) hS Du qV rfl (us:=[]) trivial (ws:=[.int .i64 0,.string (ByteArray.mk #[]),.string (ByteArray.mk #[]),.int .i64 0]) rfl) fun a hS=>?_;refine go hS fun a w hS=>?_;cases hM
  refine aE hS rfl (rC 0 hS) ?_;exact rfl
 refine ah hS fun a hS=>?_;obtain⟨r,e,hM⟩:=bd hM;refine wl rfl (bc (R:=ad) hS sg rL rfl rfl 2 rfl e rfl fun p x q h a hS=>?_);obtain rfl:=h;refine go hS fun a w hS=>?_;cases hM
 refine aE hS rfl (rC 0 hS) ?_;exact rfl
def mN (c:ai) (d:ae):Option ByteArray:=(k6 c d).bind fun b=>some (b.Value)
theorem wh (T:Nat→Prop) (W0:World) (hT:TW T W0) (hLv:cU T W0) (b:ai) (c:ae) (g:Value) (h:Value) (e:aA ad T W0 g b.Inputs) (f:aA aa T W0 h b.Records) (y:ByteArray) (hM:mN b c=some y):aW Tryz.prog No 71 [.agg (aQ b g h).toArray,.agg (aM c).toArray] W0 (fun v w'=>v = .string y):=by
 refine en Tryz.func71 Tryz.ntmps71 hT fun a hS=>?_;replace hS:=((hS.fact bv (cU.dn hLv)).fS (aA.dn e)).fS (aA.dn f);unfold mN at hM;refine ah hS fun a hS=>?_;refine kb hS fun i k a w hk hS=>?_;refine kb hS fun j l a w hk hS=>?_;refine ah hS fun a hS=>?_;obtain⟨m,d,hM⟩:=bd hM;refine kc hS If (uV _ _ hS.dlt (hS.get 2 rfl) b c _ _ (hS.get 1 rfl) (hS.get 0 rfl) _ d) fun _ w hR a hk hA=>?_;obtain rfl:=hR;have hS:=bV hA;refine qy hS (wG hS rfl Tryz.underlying69 rfl rfl Fq rfl rfl (fun _=>rfl)) fun a hS=>?_;exact fz
def tY:Option Int:=some (0)
def pV (c:LN) (b:Int):Option (Fl (Int) (Fl (Unit) Int)):=cond (decide ((b:Int) < (c.length:Int))) ((be c b).bind fun d=>cond ((d:Int) != 0) (some (.out (.out d))) (some (.go (IntKind.i64.wrap (b + 1))))) (some (.out (.go ())))
def vw (b:LN):Option Int:=(loop (fun s:Int=>pV b s) 0).bind fun r=>Fl.el r (fun s=>tY) (fun y=>some (y))
theorem CN (T:Nat→Prop) (W0:World) (hT:TW T W0) (b:LN) (e:Value) (i:aA (aN.int .i64) T W0 e b) (y:Int) (hM:vw b=some y):aW Tryz.prog No 97 [e] W0 (fun v w'=>v = .int .i64 y):=by
 refine en Tryz.func97 Tryz.ntmps97 hT fun a hS=>?_;replace hS:=hS.fS (aA.dn i);unfold vw at hM;refine ah hS fun a hS=>?_;refine aG (J:=fun a w=>St W0 No T 18 [(3,.int .i64 0)] [] [] a w∧tY=some y) ?_ ?_
 ·skip;refine ah hS fun a hS=>?_;obtain⟨o,h,hMo1⟩:=bd hM;refine bu _ (fun s a w=>∃ (c:Int),c=s∧St W0 No T 18 [(3,.int .i64 0),(6,e),(7,.int .i64 (b.length:Int)),(8,.int .i64 c)] [] [aJ (aN.int .i64) e b] a w) h ⟨_,rfl,hS.mt [] [0]⟩ ?_;rintro s a w m ⟨c,rfl,hS⟩ hM hf1;have hM:pV b c=some m:=hM;unfold pV at hM;refine ah hS fun a hS=>?_;refine az ?_;rcases cd hM with⟨f,hM⟩|⟨f,hM⟩
  ·refine ah hS fun a hS=>?_;refine az ?_;refine ah hS fun a hS=>?_;obtain⟨l,d,hM⟩:=bd hM;refine wl rfl (bc (R:=(aN.int .i64)) hS Ck yu rfl rfl 0 rfl d rfl fun j n k g a hS=>?_);obtain rfl:=g;exact fz
  exact fz
 rintro a w ⟨hS,hM⟩;unfold tY at hM;exact fz
def kE (b:Int):Option Bool:=some ((b:Int) != b)
theorem qM (T:Nat→Prop) (W0:World) (hT:TW T W0) (b:Int) (y:Bool) (hM:kE b=some y):aW Tryz.prog No 135 [.int .i64 b] W0 (fun v w'=>v = .bool y):=by
 refine en Tryz.func135 Tryz.ntmps135 hT fun a hS=>?_;unfold kE at hM;exact fz
def nG (c:Int) (d:Int):Option Int:=(kE c).bind fun e=>(kE d).bind fun b=>cond e (cond b (some (0)) (some ((-1)))) (cond b (some (1)) (cond (decide ((c:Int) < d)) (some ((-1))) (cond (decide ((d:Int) < c)) (some (1)) (some (0)))))
theorem wL (T:Nat→Prop) (W0:World) (hT:TW T W0) (b:Int) (c:Int) (y:Int) (hM:nG b c=some y):aW Tryz.prog No 98 [.int .i64 b,.int .i64 c] W0 (fun v w'=>v = .int .i64 y):=by
 refine en Tryz.func98 Tryz.ntmps98 hT fun a hS=>?_;unfold nG at hM;refine ah hS fun a hS=>?_;obtain⟨i,d,hM⟩:=bd hM;refine kc hS FQ (qM _ _ hS.dlt b _ d) fun _ w hR a hk hA=>?_;obtain rfl:=hR;have hS:=bV hA;refine ah hS fun a hS=>?_;obtain⟨j,e,hM⟩:=bd hM;refine kc hS FQ (qM _ _ hS.dlt c _ e) fun _ w hR a hk hA=>?_;obtain rfl:=hR;have hS:=bV hA;refine ah hS fun a hS=>?_;refine az ?_;refine ah hS fun a hS=>?_;rcases cd hM with⟨f,hM⟩|⟨f,hM⟩
 ·refine ah hS fun a hS=>?_;refine az ?_;exact fz
 refine ah hS fun a hS=>?_;refine az ?_;refine ah hS fun a hS=>?_;rcases cd hM with⟨g,hM⟩|⟨g,hM⟩
 ·exact fz
 refine ah hS fun a hS=>?_;refine az ?_;refine ah hS fun a hS=>?_;rcases cd hM with⟨h,hM⟩|⟨h,hM⟩
 ·exact fz
 refine ah hS fun a hS=>?_;refine az ?_;exact fz
def pu (b:ae) (c:ae):Option Int:=(nG b.Kind c.Kind).bind fun d=>(pW b.Text c.Text).bind fun e=>(vw ([d,e])).bind fun f=>some (f)
theorem rX (T:Nat→Prop) (W0:World) (hT:TW T W0) (hLv:cU T W0) (d:ae) (e:ae) (y:Int) (hM:pu d e=some y):aW Tryz.prog No 63 [.agg (aM d).toArray,.agg (aM e).toArray] W0 (fun v w'=>v = .int .i64 y):=by
 refine en Tryz.func63 Tryz.ntmps63 hT fun a hS=>?_;replace hS:=hS.fact bv (cU.dn hLv);unfold pu at hM;refine ah hS fun a hS=>?_;refine kb hS fun i l a w hk hS=>?_;refine kb hS fun j m a w hk hS=>?_;refine ah hS fun a hS=>?_;refine az ?_;refine dr [] hS fun w hQ hS=>?_;refine gE [0,1,2,3,5,6,7,8] hS fun a hS=>?_;obtain⟨b,f,hM⟩:=bd hM;refine ec 4 hS Ko (wL _ _ hS.dlt d.Kind e.Kind _ f) fun _ w hR a hk hA=>?_;obtain rfl:=hR;have hS:=bV hA;obtain⟨c,g,hM⟩:=bd hM;refine ec 9 hS IQ (uE _ _ hS.dlt (hS.get 0 rfl) d.Text e.Text _ g) fun _ w hR a hk hA=>?_;obtain rfl:=hR;have hS:=bV hA;refine e1 10 (aT (ps:=[(0,.tmp 9),(1,.tmp 14)]) hS EE JH (zl:=[.int .i64 0,.int .i64 0]) (by kernel_rfl) rfl (us:=[[.int .i64 b],[.int .i64 c]]) ⟨rfl,⟨rfl,trivial⟩⟩ (ws:=[.int .i64 b,.int .i64 c]) rfl rfl rfl rfl fun k a w hk hS=>⟨fc (hk),?_⟩);replace hS:=hS.lit (R:=(aN.int .i64)) (us:=[.int .i64 b,.int .i64 c]) (xs:=[b,c]) 0 rfl (by decide) ((aB.one_ (R:=(aN.int .i64)) (x:=b) rfl).append (aB.one_ (R:=(aN.int .i64)) (x:=c) rfl)) rfl rfl;have hL:=hS;replace hL:=hL.freeze (R:=(aN.int .i64)) 0 rfl 0 rfl;obtain⟨n,h,hM⟩:=bd hM;refine ec 11 hS Kn (CN _ _ hL.dlt ([b,c]) _ (hL.get 0 rfl) _ h) fun _ w hR a hk hA=>?_;obtain rfl:=hR;have hS:=bV hA;refine gE [12] hS fun a hS=>?_;refine eD ?_;exact fz
def qv (b:Bool):Option Bool:=some (b)
def nq (b:Int):Option Bool:=cond (decide ((30:Int)≤b)) (qv (decide ((b:Int)≤32))) (qv false)
theorem xm (T:Nat→Prop) (W0:World) (hT:TW T W0) (c:Int) (y:Bool) (hM:nq c=some y):aW Tryz.prog No 102 [.int .i64 c] W0 (fun v w'=>v = .bool y):=by
 refine en Tryz.func102 Tryz.ntmps102 hT fun a hS=>?_;unfold nq at hM;refine ah hS fun a hS=>?_;refine aG (J:=fun a w=>∃ (b:Bool),St W0 No T 9 [(2,.bool b)] [] [] a w∧qv b=some y) ?_ ?_
 ·exact fz
 rintro a w ⟨b,hS,hM⟩;unfold qv at hM;exact fz
def lC (c:ae):Option Int:=(nq c.Kind).bind fun d=>cond (!(d)) (some ((-1))) ((vk c.Text).bind fun b=>cond b.2 (some ((-1))) (cond (decide ((b.1:Int) < 0)) (some ((-1))) (cond (decide ((99:Int) < b.1)) (some ((-1))) ((uI b.1).bind fun e=>cond (!(e.toList == c.Text.toList)) (some ((-1))) (some (b.1))))))
theorem x8 (T:Nat→Prop) (W0:World) (hT:TW T W0) (hLv:cU T W0) (b:ae) (y:Int) (hM:lC b=some y):aW Tryz.prog No 103 [.agg (aM b).toArray] W0 (fun v w'=>v = .int .i64 y):=by
 refine en Tryz.func103 Tryz.ntmps103 hT fun a hS=>?_;replace hS:=hS.fact bv (cU.dn hLv);unfold lC at hM;refine ah hS fun a hS=>?_;refine kb hS fun m n a w hk hS=>?_;refine ah hS fun a hS=>?_;refine az ?_;refine ah hS fun a hS=>?_;obtain⟨o,f,hM⟩:=bd hM;refine kc hS FI (xm _ _ hS.dlt b.Kind _ f) fun _ w hR a hk hA=>?_;obtain rfl:=hR;have hS:=bV hA;refine ah hS fun a hS=>?_;rcases cd hM with⟨j,hM⟩|⟨j,hM⟩
 ·exact fz
 refine ah hS fun a hS=>?_;obtain⟨e,g,hM⟩:=bd hM;refine kc hS Iu (Ej _ _ hS.dlt (hS.get 0 rfl) b.Text _ g) fun _ w hR a hk hA=>?_;obtain⟨q,he,d⟩:=hR;obtain rfl:=he.symm;have hS:=hA [] (fun r hr=>by cases hr) List.Pairwise.nil;refine ah hS fun a hS=>?_;refine az ?_;refine az ?_;refine dr [] hS fun w hQ hS=>?_;refine gE [0] hS fun a hS=>?_;refine dy 1 (v:=.bool e.2) rfl (by kernel_rfl) (by kernel_rfl) (by kernel_rfl) rfl hQ hS (Fu hS rfl d IZ) rfl rfl rfl fun a hS=>?_;refine gE [2] hS fun a hS=>?_;rcases cd hM with⟨k,hM⟩|⟨k,hM⟩
 ·refine gE [3,4,5,6,7,8,9,10,11,12,13,14,15,16] hS fun a hS=>?_;refine eD ?_;exact fz
 refine gE [3,4,5,6] hS fun a hS=>?_;rcases cd hM with⟨l,hM⟩|⟨l,hM⟩
 ·refine gE [7,8,9,10,11,12,13,14,15,16] hS fun a hS=>?_;refine eD ?_;exact fz
 refine gE [7,8,9,10] hS fun a hS=>?_;rcases cd hM with⟨c,hM⟩|⟨c,hM⟩
 ·refine gE [11,12,13,14,15,16] hS fun a hS=>?_;refine eD ?_;exact fz
 refine gE [11,13,14] hS fun a hS=>?_;obtain⟨p,h,hM⟩:=bd hM;refine cy (i:=12) rfl (by kernel_rfl) hS rfl rfl rfl c (a8 hS Es rfl rfl (u5 _ _ hS.dlt (hS.get 0 rfl) e.1 _ h) fun _ w hR a hk hA=>⟨fc (hk),?_⟩);obtain rfl:=hR;have hS:=bV hA;refine gE [15,16] hS fun a hS=>?_;refine eD ?_;exact fz
def iD (b:Bool):Option Bool:=some (b)
def mj (b:Int):Option Bool:=cond (decide ((1:Int)≤b)) (iD (decide ((b:Int)≤22))) (iD false)
theorem rc (T:Nat→Prop) (W0:World) (hT:TW T W0) (c:Int) (y:Bool) (hM:mj c=some y):aW Tryz.prog No 104 [.int .i64 c] W0 (fun v w'=>v = .bool y):=by
 refine en Tryz.func104 Tryz.ntmps104 hT fun a hS=>?_;unfold mj at hM;refine ah hS fun a hS=>?_;refine aG (J:=fun a w=>∃ (b:Bool),St W0 No T 9 [(2,.bool b)] [] [] a w∧iD b=some y) ?_ ?_
 ·exact fz
 rintro a w ⟨b,hS,hM⟩;unfold iD at hM;exact fz
def jX (b:Bool):Option Bool:=some (b)
def oo (b:ae) (c:Bool):Option Bool:=(mj b.Kind).bind fun d=>cond d (cond (decide (((b.Text.size:Int):Int)≤1073741824)) (cond (!(c)) (jX true) (jX (b.Text.toList == (ByteArray.mk #[]).toList))) (jX false)) (jX false)
def fh (b:ae):Option Bool:=(nq b.Kind).bind fun c=>cond c ((lC b).bind fun d=>some (decide ((0:Int)≤d))) (cond ((b.Kind:Int) == 1) (oo b true) (oo b ((b.Kind:Int) == 21)))
theorem pv (T:Nat→Prop) (W0:World) (hT:TW T W0) (hLv:cU T W0) (b:ae) (y:Bool) (hM:fh b=some y):aW Tryz.prog No 68 [.agg (aM b).toArray] W0 (fun v w'=>v = .bool y):=by
 refine en Tryz.func68 Tryz.ntmps68 hT fun a hS=>?_;replace hS:=hS.fact bv (cU.dn hLv);unfold fh at hM;refine ah hS fun a hS=>?_;refine kb hS fun e j a w hk hS=>?_;refine ah hS fun a hS=>?_;refine az ?_;refine ah hS fun a hS=>?_;obtain⟨l,g,hM⟩:=bd hM;refine kc hS FI (xm _ _ hS.dlt b.Kind _ g) fun _ w hR a hk hA=>?_;obtain rfl:=hR;have hS:=bV hA;refine ah hS fun a hS=>?_;rcases cd hM with⟨i,hM⟩|⟨i,hM⟩
 ·refine ah hS fun a hS=>?_;obtain⟨m,h,hM⟩:=bd hM;refine kc hS Ic (x8 _ _ hS.dlt (hS.get 0 rfl) b _ h) fun _ w hR a hk hA=>?_;obtain rfl:=hR;have hS:=bV hA;exact fz
 refine ah hS fun a hS=>?_;refine aG (J:=fun a w=>∃ (c:Bool),St W0 No T 36 [(1,pt e 0),(3,.bool c)] [.box e (aM b) 44] [bv] a w∧oo b c=some y) ?_ ?_
 ·exact fz
 rintro a w ⟨c,hS,hM⟩;unfold oo at hM;refine aG (J:=fun a w=>∃ (d:Bool),St W0 No T 36 [(2,.bool d)] [] [bv] a w∧jX d=some y) ?_ ?_
 ·skip;refine ah hS fun a hS=>?_;obtain⟨k,f,hM⟩:=bd hM;refine kc hS FJ (rc _ _ hS.dlt b.Kind _ f) fun _ w hR a hk hA=>?_;obtain rfl:=hR;have hS:=bV hA;exact fz
 rintro a w ⟨d,hS,hM⟩;unfold jX at hM;exact fz
def mi (b:Bool):Option Bool:=some (b)
def mZ (b:ae):Option Bool:=cond ((b.Kind:Int) == 1) (mi true) (cond ((b.Kind:Int) == 2) (mi true) (mi ((b.Kind:Int) == 30)))
theorem rb (T:Nat→Prop) (W0:World) (hT:TW T W0) (c:ae) (y:Bool) (hM:mZ c=some y):aW Tryz.prog No 69 [.agg (aM c).toArray] W0 (fun v w'=>v = .bool y):=by
 refine en Tryz.func69 Tryz.ntmps69 hT fun a hS=>?_;unfold mZ at hM;refine ah hS fun a hS=>?_;refine kb hS fun d e a w hk hS=>?_;refine ah hS fun a hS=>?_;refine aG (J:=fun a w=>∃ (b:Bool),St W0 No T 16 [(2,.bool b)] [] [] a w∧mi b=some y) ?_ ?_
 ·exact fz
 rintro a w ⟨b,hS,hM⟩;unfold mi at hM;exact fz
def jg:Option Bool:=some (false)
def dB (b:Bool):Option Bool:=cond b (some (true)) (jg)
def mn (b:Int):Option Bool:=cond ((b:Int) == 7) (dB ((b:Int) == 7)) (cond ((b:Int) == 14) (dB ((b:Int) == 14)) (cond ((b:Int) == 17) (dB ((b:Int) == 17)) (dB ((b:Int) == 18))))
theorem uj (T:Nat→Prop) (W0:World) (hT:TW T W0) (c:Int) (y:Bool) (hM:mn c=some y):aW Tryz.prog No 161 [.int .i64 c] W0 (fun v w'=>v = .bool y):=by
 refine en Tryz.func161 Tryz.ntmps161 hT fun a hS=>?_;unfold mn at hM;refine ah hS fun a hS=>?_;refine aG (J:=fun a w=>St W0 No T 9 [] [] [] a w∧jg=some y) ?_ ?_
 ·skip;refine ah hS fun a hS=>?_;refine aG (J:=fun a w=>∃ (b:Bool),St W0 No T 9 [(4,.bool b)] [] [] a w∧dB b=some y) ?_ ?_
  ·exact fz
  rintro a w ⟨b,hS,hM⟩;unfold dB at hM;exact fz
 rintro a w ⟨hS,hM⟩;unfold jg at hM;exact fz
def iQ (b:Bool):Option Bool:=some (b)
def oX (b:ae):Option Bool:=cond ((b.Kind:Int) == 32) (iQ true) ((mj b.Kind).bind fun c=>cond c ((mn b.Kind).bind fun d=>iQ d) (iQ false))
theorem x7 (T:Nat→Prop) (W0:World) (hT:TW T W0) (c:ae) (y:Bool) (hM:oX c=some y):aW Tryz.prog No 132 [.agg (aM c).toArray] W0 (fun v w'=>v = .bool y):=by
 refine en Tryz.func132 Tryz.ntmps132 hT fun a hS=>?_;unfold oX at hM;refine ah hS fun a hS=>?_;refine kb hS fun h i a w hk hS=>?_;refine ah hS fun a hS=>?_;refine aG (J:=fun a w=>∃ (b:Bool),St W0 No T 16 [(2,.bool b)] [] [] a w∧iQ b=some y) ?_ ?_
 ·skip;refine ah hS fun a hS=>?_;rcases cd hM with⟨d,hM⟩|⟨d,hM⟩
  ·exact fz
  refine ah hS fun a hS=>?_;obtain⟨j,f,hM⟩:=bd hM;refine wg hS rfl rfl rfl d (a8 hS FJ rfl rfl (rc _ _ hS.dlt c.Kind _ f) fun _ w hR a hk hA=>?_);obtain rfl:=hR;have hS:=bV hA;refine ah hS fun a hS=>?_;rcases cd hM with⟨e,hM⟩|⟨e,hM⟩
  ·refine ah hS fun a hS=>?_;obtain⟨k,g,hM⟩:=bd hM;refine wg hS rfl rfl rfl e (a8 hS IA rfl rfl (uj _ _ hS.dlt c.Kind _ g) fun _ w hR a hk hA=>?_);obtain rfl:=hR;have hS:=bV hA;exact fz
  exact fz
 rintro a w ⟨b,hS,hM⟩;unfold iQ at hM;exact fz
def jw (c:ae):Option Bool:=(fh c).bind fun b=>some (!(b))
theorem ul (T:Nat→Prop) (W0:World) (hT:TW T W0) (hLv:cU T W0) (b:ae) (y:Bool) (hM:jw b=some y):aW Tryz.prog No 133 [.agg (aM b).toArray] W0 (fun v w'=>v = .bool y):=by
 refine en Tryz.func133 Tryz.ntmps133 hT fun a hS=>?_;replace hS:=hS.fact bv (cU.dn hLv);unfold jw at hM;refine ah hS fun a hS=>?_;refine kb hS fun d e a w hk hS=>?_;refine ah hS fun a hS=>?_;obtain⟨f,c,hM⟩:=bd hM;refine kc hS Ev (pv _ _ hS.dlt (hS.get 0 rfl) b _ c) fun _ w hR a hk hA=>?_;obtain rfl:=hR;have hS:=bV hA;exact fz
def pD:Option Int:=some ((-1))
def kI (c:LK) (f:ae→Option Bool) (b:Int):Option (Fl (Int) (Fl (Unit) Int)):=cond (decide ((b:Int) < (c.length:Int))) ((be c b).bind fun d=>(f d).bind fun e=>cond e (some (.out (.out b))) (some (.go (IntKind.i64.wrap (b + 1))))) (some (.out (.go ())))
def oQ (b:ae→Option Bool) (c:LK):Option Int:=(loop (fun s:Int=>kI c b s) 0).bind fun r=>Fl.el r (fun s=>pD) (fun y=>some (y))
theorem xY (T:Nat→Prop) (W0:World) (hT:TW T W0) (hLv:cU T W0) (f_1g:Nat) (f:aL Tryz.prog f_1g=true) (f_1k:List Value) (f_1P:bU) (d:ae→Option Bool) (m:∀ (T:Nat→Prop) (W0:World) (hT:TW T W0) (hLv:cU T W0) (hP:f_1P.p T W0) (q:ae) (y:Bool) (hM:d q=some y),aW Tryz.prog No f_1g ([.agg (aM q).toArray] ++ f_1k) W0 (fun v w'=>v = .bool y)) (e:f_1P.p T W0) (c:LK) (i:Value) (o:aA ac T W0 i c) (y:Int) (hM:oQ d c=some y):aW Tryz.prog No 162 [i,.func (.func f_1g) #[] f_1k.toArray] W0 (fun v w'=>v = .int .i64 y):=by
 refine en Tryz.func162 Tryz.ntmps162 hT fun a hS=>?_;replace hS:=((hS.fact f_1P (bU.dn _ e)).fact bv (cU.dn hLv)).fS (aA.dn o);unfold oQ at hM;refine ah hS fun a hS=>?_;refine aG (J:=fun a w=>St W0 No T 19 [] [] [bv,f_1P] a w∧pD=some y) ?_ ?_
 ·skip;refine ah hS fun a hS=>?_;obtain⟨A,n,hMo1⟩:=bd hM;refine bu _ (fun s a w=>∃ (b:Int),b=s∧St W0 No T 19 [(0,i),(1,.func (.func f_1g) #[] f_1k.toArray),(7,.int .i64 (c.length:Int)),(8,.int .i64 b)] [] [aJ ac i c,bv,f_1P] a w) n ⟨_,rfl,hS.mt [] [0,1,2]⟩ ?_;rintro s a w u ⟨b,rfl,hS⟩ hM hf1;have hM:kI c d b=some u:=hM;unfold kI at hM;refine ah hS fun a hS=>?_;refine az ?_;rcases cd hM with⟨k,hM⟩|⟨k,hM⟩
  ·refine ah hS fun a hS=>?_;refine az ?_;refine ah hS fun a hS=>?_;obtain⟨j,g,hM⟩:=bd hM;refine wl rfl (bc (R:=ac) hS jd dd rfl rfl 0 rfl g rfl fun r x t l a hS=>?_);obtain rfl:=l;refine ah hS fun a hS=>?_;obtain⟨z,h,hM⟩:=bd hM;refine wl rfl (rU (cap:=f_1k) hS rfl f rfl rfl (m _ _ hS.dlt (hS.get 2 rfl) (hS.get 3 rfl) j _ h) fun _ w hR a hk hA=>?_);obtain rfl:=hR;have hS:=bV hA;exact fz
  exact fz
 rintro a w ⟨hS,hM⟩;unfold pD at hM;exact fz
def kF (c:ae→Option Bool) (d:LK):Option Bool:=(oQ c d).bind fun b=>some (decide ((0:Int)≤b))
theorem uP (T:Nat→Prop) (W0:World) (hT:TW T W0) (hLv:cU T W0) (f_1g:Nat) (e:aL Tryz.prog f_1g=true) (f_1k:List Value) (f_1P:bU) (b:ae→Option Bool) (g:∀ (T:Nat→Prop) (W0:World) (hT:TW T W0) (hLv:cU T W0) (hP:f_1P.p T W0) (j:ae) (y:Bool) (hM:b j=some y),aW Tryz.prog No f_1g ([.agg (aM j).toArray] ++ f_1k) W0 (fun v w'=>v = .bool y)) (d:f_1P.p T W0) (c:LK) (i:Value) (h:aA ac T W0 i c) (y:Bool) (hM:kF b c=some y):aW Tryz.prog No 134 [i,.func (.func f_1g) #[] f_1k.toArray] W0 (fun v w'=>v = .bool y):=by
 refine en Tryz.func134 Tryz.ntmps134 hT fun a hS=>?_;replace hS:=((hS.fact f_1P (bU.dn _ d)).fact bv (cU.dn hLv)).fS (aA.dn h);unfold kF at hM;refine ah hS fun a hS=>?_;obtain⟨k,f,hM⟩:=bd hM;refine kc hS IB (xY _ _ hS.dlt (hS.get 1 rfl) f_1g e f_1k f_1P b g (hS.get 2 rfl) c _ (hS.get 0 rfl) _ f) fun _ w hR a hk hA=>?_;obtain rfl:=hR;have hS:=bV hA;exact fz
def dK (b:Bool):Option Bool:=some (b)
def cN (b:an) (c:Bool):Option Bool:=cond c (some (false)) (cond (decide ((0:Int)≤b.Changed)) (cond (decide ((b.Changed:Int)≤b.Verified)) (cond (decide ((b.Verified:Int)≤1073741824)) (cond (decide ((1:Int)≤b.Cost)) (cond (decide ((b.Cost:Int)≤1073741824)) ((kF jw b.Reads).bind fun d=>dK (!(d))) (dK false)) (dK false)) (dK false)) (dK false)) (dK false))
def mo (b:an):Option Bool:=(fh b.Key).bind fun c=>cond (!(c)) (cN b true) ((mZ b.Key).bind fun d=>cond d (cN b true) (cond (decide ((1073741824:Int) < (b.Value.size:Int))) (cN b true) (cond (decide ((4000:Int) < (b.Reads.length:Int))) (cN b true) (cond b.Dirty ((oX b.Key).bind fun e=>cN b (!(e))) (cN b false)))))
theorem vY (T:Nat→Prop) (W0:World) (hT:TW T W0) (hLv:cU T W0) (b:an) (m:Value) (x:aA ac T W0 m b.Reads) (y:Bool) (hM:mo b=some y):aW Tryz.prog No 96 [.agg (a6 b m).toArray] W0 (fun v w'=>v = .bool y):=by
 refine en Tryz.func96 Tryz.ntmps96 hT fun a hS=>?_;replace hS:=(hS.fact bv (cU.dn hLv)).fS (aA.dn x);unfold mo at hM;refine ah hS fun a hS=>?_;refine kb hS fun e z a w hk hS=>?_;refine ah hS fun a hS=>?_;refine az ?_;refine aG (J:=fun a w=>∃ (d:Bool),St W0 No T 67 [(1,pt e 0),(34,.bool d)] [.box e (a6 b m) 84] [aJ ac m b.Reads,bv] a w∧cN b d=some y) ?_ ?_
 ·skip;refine ah hS fun a hS=>?_;obtain⟨B,j,hM⟩:=bd hM;refine kc hS Ev (pv _ _ hS.dlt (hS.get 1 rfl) b.Key _ j) fun _ w hR a hk hA=>?_;obtain rfl:=hR;have hS:=bV hA;refine ah hS fun a hS=>?_;rcases cd hM with⟨f,hM⟩|⟨f,hM⟩
  ·exact fz
  refine ah hS fun a hS=>?_;obtain⟨C,k,hM⟩:=bd hM;refine wg hS rfl rfl rfl f (a8 hS Gy rfl rfl (rb _ _ hS.dlt b.Key _ k) fun _ w hR a hk hA=>?_);obtain rfl:=hR;have hS:=bV hA;refine ah hS fun a hS=>?_;rcases cd hM with⟨n,hM⟩|⟨n,hM⟩
  ·exact fz
  refine ah hS fun a hS=>?_;rcases cd hM with⟨o,hM⟩|⟨o,hM⟩
  ·exact fz
  refine ah hS fun a hS=>?_;rcases cd hM with⟨p,hM⟩|⟨p,hM⟩
  ·exact fz
  refine ah hS fun a hS=>?_;rcases cd hM with⟨g,hM⟩|⟨g,hM⟩
  ·refine ah hS fun a hS=>?_;obtain⟨D,l,hM⟩:=bd hM;refine wg hS rfl rfl rfl g (a8 hS Ir rfl rfl (x7 _ _ hS.dlt b.Key _ l) fun _ w hR a hk hA=>?_);obtain rfl:=hR;have hS:=bV hA;exact fz
  exact fz
 rintro a w ⟨d,hS,hM⟩;unfold cN at hM;rcases cd hM with⟨q,hM⟩|⟨q,hM⟩
 ·exact fz
 refine ah hS fun a hS=>?_;refine aG (J:=fun a w=>∃ (c:Bool),St W0 No T 67 [(2,.bool c)] [] [bv] a w∧dK c=some y) ?_ ?_
 ·skip;refine ah hS fun a hS=>?_;rcases cd hM with⟨r,hM⟩|⟨r,hM⟩
  ·refine ah hS fun a hS=>?_;rcases cd hM with⟨s,hM⟩|⟨s,hM⟩
   ·refine ah hS fun a hS=>?_;rcases cd hM with⟨t,hM⟩|⟨t,hM⟩
    ·refine ah hS fun a hS=>?_;rcases cd hM with⟨u,hM⟩|⟨u,hM⟩
     ·refine ah hS fun a hS=>?_;rcases cd hM with⟨h,hM⟩|⟨h,hM⟩
      ·refine ah hS fun a hS=>?_;obtain⟨A,i,hM⟩:=bd hM;refine wg hS rfl rfl rfl h (a8 hS It rfl rfl (uP _ _ hS.dlt (hS.get 1 rfl) 133 Is [] w8 jw (fun T W0 hT hLv _ E y hM=>ul T W0 hT hLv E y hM) trivial b.Reads _ (hS.get 0 rfl) _ i) fun _ w hR a hk hA=>?_);obtain rfl:=hR;have hS:=bV hA;exact fz
      exact fz
     exact fz
    exact fz
   exact fz
  exact fz
 rintro a w ⟨c,hS,hM⟩;unfold dK at hM;exact fz
def kw (b:LR):Option Bool:=some (decide ((b.length:Int)≤4000))
def cV (b:Int) (c:Bool):Option (Fl (Int) (Fl (Unit) Bool)):=cond c (some (.out (.out false))) (some (.go (IntKind.i64.wrap (b + 1))))
def eP (d:LR) (b:Int):Option (Fl (Int) (Fl (Unit) Bool)):=cond (decide ((b:Int) < (d.length:Int))) ((be d b).bind fun c=>(mo c).bind fun f=>cond (!(f)) (cV b true) (cond (decide ((0:Int) < b)) ((be d (IntKind.i64.wrap (b - 1))).bind fun e=>(pu e.Key c.Key).bind fun g=>cV b (decide ((0:Int)≤g))) (cV b false))) (some (.out (.go ())))
def gP (b:LR):Option Bool:=(loop (fun s:Int=>eP b s) 0).bind fun r=>Fl.el r (fun s=>kw b) (fun y=>some (y))
theorem sQ (T:Nat→Prop) (W0:World) (hT:TW T W0) (hLv:cU T W0) (b:LR) (d:Value) (C:aA aa T W0 d b) (y:Bool) (hM:gP b=some y):aW Tryz.prog No 61 [d] W0 (fun v w'=>v = .bool y):=by
 refine en Tryz.func61 Tryz.ntmps61 hT fun a hS=>?_;replace hS:=(hS.fact bv (cU.dn hLv)).fS (aA.dn C);unfold gP at hM;refine ah hS fun a hS=>?_;refine aG (J:=fun a w=>St W0 No T 35 [(0,d)] [] [aJ aa d b,bv] a w∧kw b=some y) ?_ ?_
 ·skip;refine ah hS fun a hS=>?_;obtain⟨O,k,hMo1⟩:=bd hM;refine bu _ (fun s a w=>∃ (c:Int),c=s∧St W0 No T 35 [(0,d),(5,d),(6,.int .i64 (b.length:Int)),(7,.int .i64 c)] [] [aJ aa d b,bv] a w) k ⟨_,rfl,hS.mt [] [0,1]⟩ ?_;rintro s a w B ⟨c,rfl,hS⟩ hM hf1;have hM:eP b c=some B:=hM;unfold eP at hM;refine ah hS fun a hS=>?_;refine az ?_;rcases cd hM with⟨r,hM⟩|⟨r,hM⟩
  ·refine ah hS fun a hS=>?_;refine az ?_;refine ah hS fun a hS=>?_;obtain⟨g,h,hM⟩:=bd hM;refine wl rfl (bc (R:=aa) hS n4 k8 rfl rfl 0 rfl h rfl fun D I F t a hS=>?_);obtain⟨M,rfl,n⟩:=t;replace hS:=hS.fS n;refine ah hS fun a hS=>?_;refine ka hS ft fun E H a w hk hS=>?_;refine go hS fun a w hS=>?_;refine aG (J:=fun a w=>∃ (e:Bool),St W0 No T 35 [(0,d),(5,d),(6,.int .i64 (b.length:Int)),(7,.int .i64 c),(30,.bool e)] [] [aJ aa d b,bv] a w∧cV c e=some B) ?_ ?_
   ·skip;refine dr [] hS fun w hQ hS=>?_;refine gE [0] hS fun a hS=>?_;obtain⟨K,l,hM⟩:=bd hM;refine ec 1 hS Km (vY _ _ hS.dlt (hS.get 3 rfl) g _ (hS.get 0 rfl) _ l) fun _ w hR a hk hA=>?_;obtain rfl:=hR;have hS:=bV hA;refine gE [2,3] hS fun a hS=>?_;rcases cd hM with⟨u,hM⟩|⟨u,hM⟩
    ·refine gE [4,5,6,7,8,9,10,11,12,13,14,15,16,17,18] hS fun a hS=>?_;refine eD ?_;exact⟨_,hS.mt [] [2,3],hM⟩
    refine gE [4,5,6] hS fun a hS=>?_;rcases cd hM with⟨f,hM⟩|⟨f,hM⟩
    ·refine gE [7,8,9] hS fun a hS=>?_;obtain⟨q,j,hM⟩:=bd hM;obtain⟨p,A,G,x,z,hS⟩:=il (R:=aa) hS n4 k8 2 rfl j;obtain⟨N,rfl,o⟩:=x;replace hS:=hS.fS o;refine vG 10 (v:=pt p A) rfl (by kernel_rfl) (by kernel_rfl) (by kernel_rfl) rfl hQ hS (z rfl rfl) rfl rfl rfl f rfl rfl fun a hS=>?_;refine gE [11,12,13,14] hS fun a hS=>?_;obtain⟨L,m,hM⟩:=bd hM;refine cy (i:=15) rfl (by kernel_rfl) hS rfl rfl rfl f (a8 hS Eu rfl rfl (rX _ _ hS.dlt (hS.get 5 rfl) q.Key g.Key _ m) fun _ w hR a hk hA=>⟨fc (hk),?_⟩);obtain rfl:=hR;have hS:=bV hA;refine gE [16,17,18] hS fun a hS=>?_;refine eD ?_;exact⟨_,hS.mt [] [4,5],hM⟩
    refine gE [7,8,9,10,11,12,13,14,15,16,17,18] hS fun a hS=>?_;refine eD ?_;exact⟨_,hS.mt [] [2,3],hM⟩
   rintro a w ⟨e,hS,hM⟩;unfold cV at hM;exact fz
  exact fz
 rintro a w ⟨hS,hM⟩;unfold kw at hM;exact fz
def ji (b:Bool):Option Bool:=some (b)
def hU (b:ae):Option Bool:=(fh b).bind fun c=>cond c ((mZ b).bind fun d=>ji d) (ji false)
theorem qj (T:Nat→Prop) (W0:World) (hT:TW T W0) (hLv:cU T W0) (c:ae) (y:Bool) (hM:hU c=some y):aW Tryz.prog No 62 [.agg (aM c).toArray] W0 (fun v w'=>v = .bool y):=by
 refine en Tryz.func62 Tryz.ntmps62 hT fun a hS=>?_;replace hS:=hS.fact bv (cU.dn hLv);unfold hU at hM;refine ah hS fun a hS=>?_;refine kb hS fun g h a w hk hS=>?_;refine ah hS fun a hS=>?_;refine aG (J:=fun a w=>∃ (b:Bool),St W0 No T 9 [(2,.bool b)] [] [bv] a w∧ji b=some y) ?_ ?_
 ·skip;refine ah hS fun a hS=>?_;obtain⟨i,e,hM⟩:=bd hM;refine kc hS Ev (pv _ _ hS.dlt (hS.get 0 rfl) c _ e) fun _ w hR a hk hA=>?_;obtain rfl:=hR;have hS:=bV hA;refine ah hS fun a hS=>?_;rcases cd hM with⟨d,hM⟩|⟨d,hM⟩
  ·refine ah hS fun a hS=>?_;obtain⟨j,f,hM⟩:=bd hM;refine wg hS rfl rfl rfl d (a8 hS Gy rfl rfl (rb _ _ hS.dlt c _ f) fun _ w hR a hk hA=>?_);obtain rfl:=hR;have hS:=bV hA;exact fz
  exact fz
 rintro a w ⟨b,hS,hM⟩;unfold ji at hM;exact fz
def mX:Option Int:=some ((-1))
def gH (c:LR) (f:an→Option Bool) (b:Int):Option (Fl (Int) (Fl (Unit) Int)):=cond (decide ((b:Int) < (c.length:Int))) ((be c b).bind fun d=>(f d).bind fun e=>cond e (some (.out (.out b))) (some (.go (IntKind.i64.wrap (b + 1))))) (some (.out (.go ())))
def kJ (b:an→Option Bool) (c:LR):Option Int:=(loop (fun s:Int=>gH c b s) 0).bind fun r=>Fl.el r (fun s=>mX) (fun y=>some (y))
theorem uR (T:Nat→Prop) (W0:World) (hT:TW T W0) (hLv:cU T W0) (f_1g:Nat) (f:aL Tryz.prog f_1g=true) (f_1k:List Value) (f_1P:bU) (d:an→Option Bool) (o:∀ (T:Nat→Prop) (W0:World) (hT:TW T W0) (hLv:cU T W0) (hP:f_1P.p T W0) (q:an) (k:Value) (A:aA ac T W0 k q.Reads) (y:Bool) (hM:d q=some y),aW Tryz.prog No f_1g ([.agg (a6 q k).toArray] ++ f_1k) W0 (fun v w'=>v = .bool y)) (e:f_1P.p T W0) (c:LR) (j:Value) (t:aA aa T W0 j c) (y:Int) (hM:kJ d c=some y):aW Tryz.prog No 99 [j,.func (.func f_1g) #[] f_1k.toArray] W0 (fun v w'=>v = .int .i64 y):=by
 refine en Tryz.func99 Tryz.ntmps99 hT fun a hS=>?_;replace hS:=((hS.fact f_1P (bU.dn _ e)).fact bv (cU.dn hLv)).fS (aA.dn t);unfold kJ at hM;refine ah hS fun a hS=>?_;refine aG (J:=fun a w=>St W0 No T 19 [] [] [bv,f_1P] a w∧mX=some y) ?_ ?_
 ·skip;refine ah hS fun a hS=>?_;obtain⟨E,r,hMo1⟩:=bd hM;refine bu _ (fun s a w=>∃ (b:Int),b=s∧St W0 No T 19 [(0,j),(1,.func (.func f_1g) #[] f_1k.toArray),(7,.int .i64 (c.length:Int)),(8,.int .i64 b)] [] [aJ aa j c,bv,f_1P] a w) r ⟨_,rfl,hS.mt [] [0,1,2]⟩ ?_;rintro s a w z ⟨b,rfl,hS⟩ hM hf1;have hM:gH c d b=some z:=hM;unfold gH at hM;refine ah hS fun a hS=>?_;refine az ?_;rcases cd hM with⟨m,hM⟩|⟨m,hM⟩
  ·refine ah hS fun a hS=>?_;refine az ?_;refine ah hS fun a hS=>?_;obtain⟨l,g,hM⟩:=bd hM;refine wl rfl (bc (R:=aa) hS n4 k8 rfl rfl 0 rfl g rfl fun u B x n a hS=>?_);obtain⟨D,rfl,i⟩:=n;replace hS:=hS.fS i;refine ah hS fun a hS=>?_;obtain⟨C,h,hM⟩:=bd hM;refine wl rfl (rU (cap:=f_1k) hS rfl f rfl rfl (o _ _ hS.dlt (hS.get 3 rfl) (hS.get 4 rfl) l _ (hS.get 0 rfl) _ h) fun _ w hR a hk hA=>?_);obtain rfl:=hR;have hS:=bV hA;exact fz
  exact fz
 rintro a w ⟨hS,hM⟩;unfold mX at hM;exact fz
def bC (c:an→Option Bool) (d:LR):Option Bool:=(kJ c d).bind fun b=>some (decide ((0:Int)≤b))
theorem ia (T:Nat→Prop) (W0:World) (hT:TW T W0) (hLv:cU T W0) (f_1g:Nat) (e:aL Tryz.prog f_1g=true) (f_1k:List Value) (f_1P:bU) (b:an→Option Bool) (h:∀ (T:Nat→Prop) (W0:World) (hT:TW T W0) (hLv:cU T W0) (hP:f_1P.p T W0) (i:an) (g:Value) (l:aA ac T W0 g i.Reads) (y:Bool) (hM:b i=some y),aW Tryz.prog No f_1g ([.agg (a6 i g).toArray] ++ f_1k) W0 (fun v w'=>v = .bool y)) (d:f_1P.p T W0) (c:LR) (k:Value) (j:aA aa T W0 k c) (y:Bool) (hM:bC b c=some y):aW Tryz.prog No 64 [k,.func (.func f_1g) #[] f_1k.toArray] W0 (fun v w'=>v = .bool y):=by
 refine en Tryz.func64 Tryz.ntmps64 hT fun a hS=>?_;replace hS:=((hS.fact f_1P (bU.dn _ d)).fact bv (cU.dn hLv)).fS (aA.dn j);unfold bC at hM;refine ah hS fun a hS=>?_;obtain⟨m,f,hM⟩:=bd hM;refine kc hS Kp (uR _ _ hS.dlt (hS.get 1 rfl) f_1g e f_1k f_1P b h (hS.get 2 rfl) c _ (hS.get 0 rfl) _ f) fun _ w hR a hk hA=>?_;obtain rfl:=hR;have hS:=bV hA;exact fz
def gZ (c:an) (b:ai):Option Bool:=some (decide ((b.Revision:Int) < c.Verified))
theorem sY (T:Nat→Prop) (W0:World) (hT:TW T W0) (d:an) (c:ai) (k:Value) (f:Value) (g:Value) (b:Nat) (h:aA ac T W0 k d.Reads) (i:aA ad T W0 f c.Inputs) (j:aA aa T W0 g c.Records) (e:(l6 b 0 (aQ c f g)).p T W0) (y:Bool) (hM:gZ d c=some y):aW Tryz.prog No 65 [.agg (a6 d k).toArray,pt b 0] W0 (fun v w'=>v = .bool y):=by
 refine en Tryz.func65 Tryz.ntmps65 hT fun a hS=>?_;replace hS:=(((hS.fact (l6 b 0 (aQ c f g)) (bU.dn _ e)).fS (aA.dn h)).fS (aA.dn i)).fS (aA.dn j);unfold gZ at hM;refine ah hS fun a hS=>?_;refine kb hS fun b l a w hk hS=>?_;exact fz
def gf (b:ai):Option Bool:=(bC (fun d=>gZ d b) b.Records).bind fun c=>some (!(c))
def bR (b:Int) (c:Bool):Option (Fl (Int) (Fl (Unit) Bool)):=cond c (some (.out (.out false))) (some (.go (IntKind.i64.wrap (b + 1))))
def gg (d:ai) (b:Int):Option (Fl (Int) (Fl (Unit) Bool)):=cond (decide ((b:Int) < (d.Inputs.length:Int))) ((be d.Inputs b).bind fun c=>(hU c.Key).bind fun f=>cond (!(f)) (bR b true) (cond (decide ((0:Int) < b)) ((be d.Inputs (IntKind.i64.wrap (b - 1))).bind fun e=>(pu e.Key c.Key).bind fun g=>cond (decide ((0:Int)≤g)) (bR b true) (cond (decide ((1073741824:Int) < (c.Value.size:Int))) (bR b true) (cond (decide ((c.Changed:Int) < 0)) (bR b true) (bR b (decide ((d.Revision:Int) < c.Changed)))))) (cond (decide ((1073741824:Int) < (c.Value.size:Int))) (bR b true) (cond (decide ((c.Changed:Int) < 0)) (bR b true) (bR b (decide ((d.Revision:Int) < c.Changed))))))) (some (.out (.go ())))
def gY (b:ai):Option Bool:=cond (decide ((b.Revision:Int) < 0)) (some (false)) (cond (decide ((1073741824:Int) < b.Revision)) (some (false)) (cond (decide ((64:Int) < (b.Inputs.length:Int))) (some (false)) ((gP b.Records).bind fun c=>cond (!(c)) (some (false)) ((loop (fun s:Int=>gg b s) 0).bind fun r=>Fl.el r (fun s=>gf b) (fun y=>some (y))))))
theorem qi (T:Nat→Prop) (W0:World) (hT:TW T W0) (hLv:cU T W0) (b:ai) (e:Value) (f:Value) (Q:aA ad T W0 e b.Inputs) (S:aA aa T W0 f b.Records) (y:Bool) (hM:gY b=some y):aW Tryz.prog No 35 [.agg (aQ b e f).toArray] W0 (fun v w'=>v = .bool y):=by
 refine en Tryz.func35 Tryz.ntmps35 hT fun a hS=>?_;replace hS:=((hS.fact bv (cU.dn hLv)).fS (aA.dn Q)).fS (aA.dn S);unfold gY at hM;refine ah hS fun a hS=>?_;refine kb hS fun c Z a w hk hS=>?_;refine ah hS fun a hS=>?_;refine az ?_;refine jV ?_;refine ah hS fun a hS=>?_;rcases cd hM with⟨u,hM⟩|⟨u,hM⟩
 ·exact fz
 refine ah hS fun a hS=>?_;rcases cd hM with⟨x,hM⟩|⟨x,hM⟩
 ·exact fz
 refine ah hS fun a hS=>?_;rcases cd hM with⟨k,hM⟩|⟨k,hM⟩
 ·exact fz
 refine ah hS fun a hS=>?_;obtain⟨a5,q,hM⟩:=bd hM;refine wg hS rfl rfl rfl k (a8 hS J3 rfl rfl (sQ _ _ hS.dlt (hS.get 2 rfl) b.Records _ (hS.get 0 rfl) _ q) fun _ w hR a hk hA=>?_);obtain rfl:=hR;have hS:=bV hA;refine ah hS fun a hS=>?_;rcases cd hM with⟨z,hM⟩|⟨z,hM⟩
 ·exact fz
 refine ah hS fun a hS=>?_;refine aG (J:=fun a w=>St W0 No T 78 [(1,pt c 0)] [.box c (aQ b e f) 31] [aJ ad e b.Inputs,aJ aa f b.Records,bv] a w∧gf b=some y) ?_ ?_
 ·skip;refine ah hS fun a hS=>?_;obtain⟨r1,P,hMo1⟩:=bd hM;refine bu _ (fun s a w=>∃ (d:Int),d=s∧St W0 No T 78 [(1,pt c 0),(26,e),(27,.int .i64 (b.Inputs.length:Int)),(28,.int .i64 d)] [.box c (aQ b e f) 31] [aJ ad e b.Inputs,aJ aa f b.Records,bv] a w) P ⟨_,rfl,hS.mt [0] [1,0,2]⟩ ?_;rintro s a w O ⟨d,rfl,hS⟩ hM hf1;have hM:gg b d=some O:=hM;unfold gg at hM;refine ah hS fun a hS=>?_;refine az ?_;rcases cd hM with⟨A,hM⟩|⟨A,hM⟩
  ·refine ah hS fun a hS=>?_;refine az ?_;refine ah hS fun a hS=>?_;obtain⟨j,l,hM⟩:=bd hM;refine wl rfl (bc (R:=ad) hS sg rL rfl rfl 0 rfl l rfl fun V a1 X B a hS=>?_);obtain rfl:=B;refine ah hS fun a hS=>?_;refine ka hS qV fun W a0 a w hk hS=>?_;refine go hS fun a w hS=>?_;refine aG (J:=fun a w=>∃ (g:Bool),St W0 No T 78 [(1,pt c 0),(26,e),(27,.int .i64 (b.Inputs.length:Int)),(28,.int .i64 d),(71,.bool g)] [.box c (aQ b e f) 31] [aJ ad e b.Inputs,aJ aa f b.Records,bv] a w∧bR d g=some O) ?_ ?_
   ·skip;refine dr [] hS fun w hQ hS=>?_;refine gE [0,1] hS fun a hS=>?_;obtain⟨a3,o,hM⟩:=bd hM;refine ec 2 hS IP (qj _ _ hS.dlt (hS.get 3 rfl) j.Key _ o) fun _ w hR a hk hA=>?_;obtain rfl:=hR;have hS:=bV hA;refine gE [3,4] hS fun a hS=>?_;rcases cd hM with⟨C,hM⟩|⟨C,hM⟩
    ·refine gE [5,6,7,8,9,10,11,12,13,14,15,16,17,18,19,20,21,22,23,24,25,26,27,28,29,30,31,32,33,34,35,36,37,38] hS fun a hS=>?_;refine eD ?_;exact⟨_,hS.mt [1] [1,2,3],hM⟩
    refine gE [5,6,7] hS fun a hS=>?_;rcases cd hM with⟨h,hM⟩|⟨h,hM⟩
    ·refine gE [8,9,10,11] hS fun a hS=>?_;obtain⟨t,m,hM⟩:=bd hM;obtain⟨r,M,Y,D,E,hS⟩:=il (R:=ad) hS sg rL 1 rfl m;obtain rfl:=D;refine vG 12 (v:=pt r M) rfl (by kernel_rfl) (by kernel_rfl) (by kernel_rfl) rfl hQ hS (E rfl rfl) rfl rfl rfl h rfl rfl fun a hS=>?_;refine gE [13,14,15,16] hS fun a hS=>?_;obtain⟨a4,p,hM⟩:=bd hM;refine cy (i:=17) rfl (by kernel_rfl) hS rfl rfl rfl h (a8 hS Eu rfl rfl (rX _ _ hS.dlt (hS.get 4 rfl) t.Key j.Key _ p) fun _ w hR a hk hA=>⟨fc (hk),?_⟩);obtain rfl:=hR;have hS:=bV hA;refine gE [18,19,20,21] hS fun a hS=>?_;rcases cd hM with⟨F,hM⟩|⟨F,hM⟩
     ·refine gE [22,23,24,25,26,27,28,29,30,31,32,33,34,35,36,37,38] hS fun a hS=>?_;refine eD ?_;exact⟨_,hS.mt [1] [2,3,4],hM⟩
     refine gE [22,23,24,25,26,27] hS fun a hS=>?_;rcases cd hM with⟨G,hM⟩|⟨G,hM⟩
     ·refine gE [28,29,30,31,32,33,34,35,36,37,38] hS fun a hS=>?_;refine eD ?_;exact⟨_,hS.mt [1] [2,3,4],hM⟩
     refine gE [28,29,30,31,32] hS fun a hS=>?_;rcases cd hM with⟨H,hM⟩|⟨H,hM⟩
     ·refine gE [33,34,35,36,37,38] hS fun a hS=>?_;refine eD ?_;exact⟨_,hS.mt [1] [2,3,4],hM⟩
     refine gE [33,34,35,36,37,38] hS fun a hS=>?_;refine eD ?_;exact⟨_,hS.mt [1] [2,3,4],hM⟩
    refine gE [8,9,10,11,12,13,14,15,16,17,18,19,20,21,22,23,24,25,26,27] hS fun a hS=>?_;rcases cd hM with⟨I,hM⟩|⟨I,hM⟩
    ·refine gE [28,29,30,31,32,33,34,35,36,37,38] hS fun a hS=>?_;refine eD ?_;exact⟨_,hS.mt [1] [1,2,3],hM⟩
    refine gE [28,29,30,31,32] hS fun a hS=>?_;rcases cd hM with⟨K,hM⟩|⟨K,hM⟩
    ·refine gE [33,34,35,36,37,38] hS fun a hS=>?_;refine eD ?_;exact⟨_,hS.mt [1] [1,2,3],hM⟩
    refine gE [33,34,35,36,37,38] hS fun a hS=>?_;refine eD ?_;exact⟨_,hS.mt [1] [1,2,3],hM⟩
   rintro a w ⟨g,hS,hM⟩;unfold bR at hM;exact fz
  exact fz
 rintro a w ⟨hS,hM⟩;unfold gf at hM;refine ah hS fun a hS=>?_;replace hS:=hS.freezeBox 0 rfl;refine qy hS (zQ (vs:=[pt c 0]) hS rfl) fun a hS=>?_;obtain⟨a2,n,hM⟩:=bd hM;refine kc hS J4 (ia _ _ hS.dlt (hS.get 3 rfl) 65 J5 [pt c 0] (Ec (l6 c 0 (aQ b e f)) (Ec (aJ ad e b.Inputs) (Ec (aJ aa f b.Records) w8))) (fun N=>gZ N b) (fun T W0 hT hLv hP N U L y hM=>sY T W0 hT N b U e f c L hP.2.1 hP.2.2.1 hP.1 y hM) ⟨(hS.get 0 rfl),(hS.get 1 rfl),(hS.get 2 rfl),trivial⟩ b.Records _ (hS.get 2 rfl) _ n) fun _ w hR a hk hA=>?_;obtain rfl:=hR;have hS:=bV hA;exact fz
def cA:Option Int:=some ((-1))
def bD (c:LC) (f:aq→Option Bool) (b:Int):Option (Fl (Int) (Fl (Unit) Int)):=cond (decide ((b:Int) < (c.length:Int))) ((be c b).bind fun d=>(f d).bind fun e=>cond e (some (.out (.out b))) (some (.go (IntKind.i64.wrap (b + 1))))) (some (.out (.go ())))
def bK (b:aq→Option Bool) (c:LC):Option Int:=(loop (fun s:Int=>bD c b s) 0).bind fun r=>Fl.el r (fun s=>cA) (fun y=>some (y))
theorem je (T:Nat→Prop) (W0:World) (hT:TW T W0) (hLv:cU T W0) (f_1g:Nat) (f:aL Tryz.prog f_1g=true) (f_1k:List Value) (f_1P:bU) (d:aq→Option Bool) (m:∀ (T:Nat→Prop) (W0:World) (hT:TW T W0) (hLv:cU T W0) (hP:f_1P.p T W0) (q:aq) (y:Bool) (hM:d q=some y),aW Tryz.prog No f_1g ([.agg (eU q).toArray] ++ f_1k) W0 (fun v w'=>v = .bool y)) (e:f_1P.p T W0) (c:LC) (i:Value) (o:aA aj T W0 i c) (y:Int) (hM:bK d c=some y):aW Tryz.prog No 137 [i,.func (.func f_1g) #[] f_1k.toArray] W0 (fun v w'=>v = .int .i64 y):=by
 refine en Tryz.func137 Tryz.ntmps137 hT fun a hS=>?_;replace hS:=((hS.fact f_1P (bU.dn _ e)).fact bv (cU.dn hLv)).fS (aA.dn o);unfold bK at hM;refine ah hS fun a hS=>?_;refine aG (J:=fun a w=>St W0 No T 19 [] [] [bv,f_1P] a w∧cA=some y) ?_ ?_
 ·skip;refine ah hS fun a hS=>?_;obtain⟨A,n,hMo1⟩:=bd hM;refine bu _ (fun s a w=>∃ (b:Int),b=s∧St W0 No T 19 [(0,i),(1,.func (.func f_1g) #[] f_1k.toArray),(7,.int .i64 (c.length:Int)),(8,.int .i64 b)] [] [aJ aj i c,bv,f_1P] a w) n ⟨_,rfl,hS.mt [] [0,1,2]⟩ ?_;rintro s a w u ⟨b,rfl,hS⟩ hM hf1;have hM:bD c d b=some u:=hM;unfold bD at hM;refine ah hS fun a hS=>?_;refine az ?_;rcases cd hM with⟨k,hM⟩|⟨k,hM⟩
  ·refine ah hS fun a hS=>?_;refine az ?_;refine ah hS fun a hS=>?_;obtain⟨j,g,hM⟩:=bd hM;refine wl rfl (bc (R:=aj) hS sh rK rfl rfl 0 rfl g rfl fun r x t l a hS=>?_);obtain rfl:=l;refine ah hS fun a hS=>?_;obtain⟨z,h,hM⟩:=bd hM;refine wl rfl (rU (cap:=f_1k) hS rfl f rfl rfl (m _ _ hS.dlt (hS.get 2 rfl) (hS.get 3 rfl) j _ h) fun _ w hR a hk hA=>?_);obtain rfl:=hR;have hS:=bV hA;exact fz
  exact fz
 rintro a w ⟨hS,hM⟩;unfold cA at hM;exact fz
def bm (c:aq→Option Bool) (d:LC):Option Bool:=(bK c d).bind fun b=>some (decide ((0:Int)≤b))
theorem dw (T:Nat→Prop) (W0:World) (hT:TW T W0) (hLv:cU T W0) (f_1g:Nat) (e:aL Tryz.prog f_1g=true) (f_1k:List Value) (f_1P:bU) (b:aq→Option Bool) (g:∀ (T:Nat→Prop) (W0:World) (hT:TW T W0) (hLv:cU T W0) (hP:f_1P.p T W0) (j:aq) (y:Bool) (hM:b j=some y),aW Tryz.prog No f_1g ([.agg (eU j).toArray] ++ f_1k) W0 (fun v w'=>v = .bool y)) (d:f_1P.p T W0) (c:LC) (i:Value) (h:aA aj T W0 i c) (y:Bool) (hM:bm b c=some y):aW Tryz.prog No 105 [i,.func (.func f_1g) #[] f_1k.toArray] W0 (fun v w'=>v = .bool y):=by
 refine en Tryz.func105 Tryz.ntmps105 hT fun a hS=>?_;replace hS:=((hS.fact f_1P (bU.dn _ d)).fact bv (cU.dn hLv)).fS (aA.dn h);unfold bm at hM;refine ah hS fun a hS=>?_;obtain⟨k,f,hM⟩:=bd hM;refine kc hS Iv (je _ _ hS.dlt (hS.get 1 rfl) f_1g e f_1k f_1P b g (hS.get 2 rfl) c _ (hS.get 0 rfl) _ f) fun _ w hR a hk hA=>?_;obtain rfl:=hR;have hS:=bV hA;exact fz
def g9 (c:aq):Option Bool:=(hU c.Key).bind fun b=>some (!(b))
theorem sZ (T:Nat→Prop) (W0:World) (hT:TW T W0) (hLv:cU T W0) (b:aq) (y:Bool) (hM:g9 b=some y):aW Tryz.prog No 106 [.agg (eU b).toArray] W0 (fun v w'=>v = .bool y):=by
 refine en Tryz.func106 Tryz.ntmps106 hT fun a hS=>?_;replace hS:=hS.fact bv (cU.dn hLv);unfold g9 at hM;refine ah hS fun a hS=>?_;refine kb hS fun d e a w hk hS=>?_;refine ah hS fun a hS=>?_;obtain⟨f,c,hM⟩:=bd hM;refine kc hS IP (qj _ _ hS.dlt (hS.get 0 rfl) b.Key _ c) fun _ w hR a hk hA=>?_;obtain rfl:=hR;have hS:=bV hA;exact fz
def hO (b:aq):Option Bool:=some (decide ((1073741824:Int) < (b.Value.size:Int)))
theorem s4 (T:Nat→Prop) (W0:World) (hT:TW T W0) (b:aq) (y:Bool) (hM:hO b=some y):aW Tryz.prog No 107 [.agg (eU b).toArray] W0 (fun v w'=>v = .bool y):=by
 refine en Tryz.func107 Tryz.ntmps107 hT fun a hS=>?_;unfold hO at hM;refine ah hS fun a hS=>?_;refine kb hS fun c d a w hk hS=>?_;exact fz
def jS (f:ai) (b:LC):Option Int:=(gY f).bind fun c=>cond (!(c)) (some (42)) (cond (decide ((32:Int) < (b.length:Int))) (some (3)) ((bm g9 b).bind fun d=>cond d (some (40)) ((bm hO b).bind fun e=>cond e (some (3)) (some (0)))))
theorem uo (T:Nat→Prop) (W0:World) (hT:TW T W0) (hLv:cU T W0) (b:ai) (c:LC) (n:Value) (o:Value) (p:Value) (k:aA ad T W0 n b.Inputs) (l:aA aa T W0 o b.Records) (m:aA aj T W0 p c) (y:Int) (hM:jS b c=some y):aW Tryz.prog No 70 [.agg (aQ b n o).toArray,p] W0 (fun v w'=>v = .int .i64 y):=by
 refine en Tryz.func70 Tryz.ntmps70 hT fun a hS=>?_;replace hS:=(((hS.fact bv (cU.dn hLv)).fS (aA.dn k)).fS (aA.dn l)).fS (aA.dn m);unfold jS at hM;refine ah hS fun a hS=>?_;refine kb hS fun q r a w hk hS=>?_;refine ah hS fun a hS=>?_;refine az ?_;refine ah hS fun a hS=>?_;obtain⟨s,d,hM⟩:=bd hM;refine kc hS IK (qi _ _ hS.dlt (hS.get 3 rfl) b _ _ (hS.get 2 rfl) (hS.get 1 rfl) _ d) fun _ w hR a hk hA=>?_;obtain rfl:=hR;have hS:=bV hA;refine ah hS fun a hS=>?_;rcases cd hM with⟨g,hM⟩|⟨g,hM⟩
 ·exact fz
 refine ah hS fun a hS=>?_;rcases cd hM with⟨h,hM⟩|⟨h,hM⟩
 ·exact fz
 refine ah hS fun a hS=>?_;obtain⟨t,e,hM⟩:=bd hM;refine kc hS FK (dw _ _ hS.dlt (hS.get 3 rfl) 106 Id [] w8 g9 (fun T W0 hT hLv _ j y hM=>sZ T W0 hT hLv j y hM) trivial c _ (hS.get 0 rfl) _ e) fun _ w hR a hk hA=>?_;obtain rfl:=hR;have hS:=bV hA;refine ah hS fun a hS=>?_;rcases cd hM with⟨i,hM⟩|⟨i,hM⟩
 ·exact fz
 refine ah hS fun a hS=>?_;obtain⟨u,f,hM⟩:=bd hM;refine kc hS FK (dw _ _ hS.dlt (hS.get 3 rfl) 107 Ie [] w8 hO (fun T W0 hT hLv _ j y hM=>s4 T W0 hT j y hM) trivial c _ (hS.get 0 rfl) _ f) fun _ w hR a hk hA=>?_;obtain rfl:=hR;have hS:=bV hA;exact fz
def cH (b:LI):Option LI:=gd (br (([]:List aI).length + b.length)) <| some ((([]:List aI) ++ b))
theorem lI (T:Nat→Prop) (W0:World) (hT:TW T W0) (d:LI) (m:Value) (l:aA ad T W0 m d) (y:LI) (hM:cH d=some y):aW Tryz.prog No 66 [m] W0 (fun v w'=>∃ (k:Value) (oh:List Value),v=k∧fu ad T W0 w' [aR k oh] 69 k oh y):=by
 refine en Tryz.func66 Tryz.ntmps66 hT fun a hS=>?_;replace hS:=hS.fS (aA.dn l);unfold cH at hM;refine ah hS fun a hS=>?_;refine az ?_;refine ah hS fun a hS=>?_;obtain⟨b,f,g,n⟩:=yC (R:=ad) hS sg 0 rfl;refine wl rfl (ky (v:=.bool b) hS (g rfl) rfl rfl fun a hS=>?_);refine ah hS fun a hS=>?_;rcases CA (b) with c | c
 ·rw [f c] at hM;have hM:some ([])=some y:=hM;refine ah hS fun a hS=>?_;cases hM
  refine aE hS rfl (ap hS rfl aD) ?_;exact⟨.slice none 0 0,[],rfl,ir _ _ _ _ _ _⟩
 refine ah hS fun a hS=>?_;refine wl rfl (ua ad hS wO rfl fun o a w hk hS=>?_);refine ah hS fun a hS=>?_;obtain⟨h,hM⟩:=aS hM;refine wl rfl (bw (R:=ad) (xs:=([]:List aI)) (ys:=d) hS wO (by decide) (by decide) rfl rfl 0 rfl 0 rfl 1 rfl h rfl fun j e a w hk hS=>?_);refine ah hS fun a hS=>?_;cases hM
 refine aE hS rfl (ap hS rfl aD) ?_;exact⟨j,e,rfl,hS.retOwn ⟨.inr (List.mem_of_getElem? (i:=0) rfl),trivial⟩ 0 rfl 0 rfl⟩
def ma (b:LR):Option LR:=gd (br (([]:List an).length + b.length)) <| some ((([]:List an) ++ b))
theorem vu (T:Nat→Prop) (W0:World) (hT:TW T W0) (d:LR) (m:Value) (l:aA aa T W0 m d) (y:LR) (hM:ma d=some y):aW Tryz.prog No 100 [m] W0 (fun v w'=>∃ (k:Value) (oh:List Value),v=k∧fu aa T W0 w' [aH k oh] 84 k oh y):=by
 refine en Tryz.func100 Tryz.ntmps100 hT fun a hS=>?_;replace hS:=hS.fS (aA.dn l);unfold ma at hM;refine ah hS fun a hS=>?_;refine az ?_;refine ah hS fun a hS=>?_;obtain⟨b,f,g,n⟩:=yC (R:=aa) hS n4 0 rfl;refine wl rfl (ky (v:=.bool b) hS (g rfl) rfl rfl fun a hS=>?_);refine ah hS fun a hS=>?_;rcases CA (b) with c | c
 ·rw [f c] at hM;have hM:some ([])=some y:=hM;refine ah hS fun a hS=>?_;cases hM
  refine aE hS rfl (ap hS rfl aD) ?_;exact⟨.slice none 0 0,[],rfl,ir _ _ _ _ _ _⟩
 refine ah hS fun a hS=>?_;refine wl rfl (ua aa hS pZ rfl fun o a w hk hS=>?_);refine ah hS fun a hS=>?_;obtain⟨h,hM⟩:=aS hM;refine wl rfl (bw (R:=aa) (xs:=([]:List an)) (ys:=d) hS pZ (by decide) (by decide) rfl rfl 0 rfl 0 rfl 1 rfl h rfl fun j e a w hk hS=>?_);refine ah hS fun a hS=>?_;cases hM
 refine aE hS rfl (ap hS rfl aD) ?_;exact⟨j,e,rfl,hS.retOwn ⟨.inr (List.mem_of_getElem? (i:=0) rfl),trivial⟩ 0 rfl 0 rfl⟩
def lM (b:LK):Option LK:=gd (br (([]:List ae).length + b.length)) <| some ((([]:List ae) ++ b))
theorem uC (T:Nat→Prop) (W0:World) (hT:TW T W0) (d:LK) (m:Value) (l:aA ac T W0 m d) (y:LK) (hM:lM d=some y):aW Tryz.prog No 111 [m] W0 (fun v w'=>∃ (k:Value) (oh:List Value),v=k∧fu ac T W0 w' [au k oh] 44 k oh y):=by
 refine en Tryz.func111 Tryz.ntmps111 hT fun a hS=>?_;replace hS:=hS.fS (aA.dn l);unfold lM at hM;refine ah hS fun a hS=>?_;refine az ?_;refine ah hS fun a hS=>?_;obtain⟨b,f,g,n⟩:=yC (R:=ac) hS jd 0 rfl;refine wl rfl (ky (v:=.bool b) hS (g rfl) rfl rfl fun a hS=>?_);refine ah hS fun a hS=>?_;rcases CA (b) with c | c
 ·rw [f c] at hM;have hM:some ([])=some y:=hM;refine ah hS fun a hS=>?_;cases hM
  refine aE hS rfl (ap hS rfl aD) ?_;exact⟨.slice none 0 0,[],rfl,ir _ _ _ _ _ _⟩
 refine ah hS fun a hS=>?_;refine wl rfl (ua ac hS gm rfl fun o a w hk hS=>?_);refine ah hS fun a hS=>?_;obtain⟨h,hM⟩:=aS hM;refine wl rfl (bw (R:=ac) (xs:=([]:List ae)) (ys:=d) hS gm (by decide) (by decide) rfl rfl 0 rfl 0 rfl 1 rfl h rfl fun j e a w hk hS=>?_);refine ah hS fun a hS=>?_;cases hM
 refine aE hS rfl (ap hS rfl aD) ?_;exact⟨j,e,rfl,hS.retOwn ⟨.inr (List.mem_of_getElem? (i:=0) rfl),trivial⟩ 0 rfl 0 rfl⟩
def o6 (b:an):Option an:=(lM b.Reads).bind fun c=>some ((an.mk b.Key b.Value c b.Changed b.Verified b.Cost b.Dirty))
theorem yh (T:Nat→Prop) (W0:World) (hT:TW T W0) (b:an) (j:Value) (h:aA ac T W0 j b.Reads) (y:an) (hM:o6 b=some y):aW Tryz.prog No 101 [.agg (a6 b j).toArray] W0 (fun v w'=>∃ (g:Value) (oh:List Value),v = .agg (a6 y g).toArray∧fu ac T W0 w' [au g oh] 44 g oh y.Reads):=by
 refine en Tryz.func101 Tryz.ntmps101 hT fun a hS=>?_;replace hS:=hS.fS (aA.dn h);unfold o6 at hM;refine ah hS fun a hS=>?_;refine kb hS fun k m a w hk hS=>?_;refine ka hS ft fun l n a w hk hS=>?_;refine ah hS fun a hS=>?_;obtain⟨o,d,hM⟩:=bd hM;refine kc hS FL (uC _ _ hS.dlt b.Reads _ (hS.get 0 rfl) _ d) fun _ w hR a hk hA=>?_;obtain⟨f,e,he,c⟩:=hR;obtain rfl:=he.symm;have hS:=oI hA c;refine go hS fun a w hS=>?_;cases hM
 refine aE hS rfl (rC 1 hS) ?_;exact⟨f,e,rfl,hS.retOwn ⟨.inr (List.mem_of_getElem? (i:=0) rfl),trivial⟩ 0 rfl 0 rfl⟩
def o5 (b:LR):Option LR:=some (b)
def jv (e:LR) (c:LR) (b:Int):Option (Fl (LR×Int) (LR)):=cond (decide ((b:Int) < (e.length:Int))) ((be c b).bind fun d=>(o6 d).bind fun f=>(be c b).bind fun g=>some (.go ((c.set (Int.toNat b) f),IntKind.i64.wrap (b + 1)))) (some (.out c))
def nL (c:LR):Option LR:=(ma c).bind fun b=>(loop (fun s:LR×Int=>jv b s.1 s.2) (b,0)).bind fun r=>o5 r
theorem wR (T:Nat→Prop) (W0:World) (hT:TW T W0) (o:LR) (P:Value) (O:aA aa T W0 P o) (y:LR) (hM:nL o=some y):aW Tryz.prog No 67 [P] W0 (fun v w'=>∃ (M:Value) (oh:List Value),v=M∧fu aa T W0 w' [aH M oh] 84 M oh y):=by
 refine en Tryz.func67 Tryz.ntmps67 hT fun a hS=>?_;replace hS:=hS.fS (aA.dn O);unfold nL at hM;refine ah hS fun a hS=>?_;obtain⟨p,t,hM⟩:=bd hM;refine kc hS Ia (vu _ _ hS.dlt o _ (hS.get 0 rfl) _ t) fun _ w hR a hk hA=>?_;obtain⟨b,V,he,m⟩:=hR;obtain rfl:=he.symm;have hS:=oI hA m;refine ah hS fun a hS=>?_;refine aG (J:=fun a w=>∃ (g:LR) (c:LV),St W0 No T 22 [(3,b)] [aH b c] [am aa c g] a w∧o5 g=some y) ?_ ?_
 ·skip;refine ah hS fun a hS=>?_;obtain⟨r1,N,hMo1⟩:=bd hM;refine bu _ (fun s a w=>∃ (e:LR) (d:Int) (f:LV),(e,d)=s∧St W0 No T 22 [(3,b),(8,b),(9,.int .i64 (p.length:Int)),(10,.int .i64 d)] [aH b f] [am aa f e] a w) N ⟨_,_,_,rfl,hS.mt [0] [0]⟩ ?_;rintro s a w f1 ⟨e,d,f,rfl,hS⟩ hM hf1;have hM:jv p e d=some f1:=hM;unfold jv at hM;refine ah hS fun a hS=>?_;refine az ?_;rcases cd hM with⟨B,hM⟩|⟨B,hM⟩
  ·refine ah hS fun a hS=>?_;refine az ?_;refine ah hS fun a hS=>?_;obtain⟨l,r,hM⟩:=bd hM;refine wl rfl (cR (R:=aa) hS n4 k8 rfl rfl 0 rfl 0 rfl r rfl fun Q a2 a4 W C D E a hS=>?_);obtain⟨I,rfl,x⟩:=C;replace hS:=hS.fS x;refine qy hS (bL (k:=0) hS k8 0 rfl D E rfl id (us:=(a6 l I)) rfl rfl (fun h=>by cases h)) fun a hS=>?_;refine ka hS ft fun S a1 a w hk hS=>?_;refine go hS fun a w hS=>?_;obtain⟨q,u,hM⟩:=bd hM;refine kc hS Ib (yh _ _ hS.dlt l _ (hS.get 0 rfl) _ u) fun _ w hR a hk hA=>?_;obtain⟨K,X,he,n⟩:=hR;obtain rfl:=he.symm;have hS:=oI hA n;obtain⟨A,j,hM⟩:=bd hM;refine wl rfl (cR (R:=aa) hS n4 k8 rfl rfl 2 rfl 2 rfl j rfl fun U a3 a5 Y F G H a hS=>?_);obtain⟨L,rfl,z⟩:=F;replace hS:=(hS.fS z).freeze (R:=ac) 0 rfl 1 rfl;refine wl rfl (oU (R:=aa) (k:=0) (cs:=(a6 A L)) (us:=(a6 q K)) (x':=q) hS rfl rfl rfl k8 1 rfl 4 rfl G H j (⟨_,rfl,(hS.get 1 rfl)⟩) rfl rfl (⟨_,rfl,(hS.get 0 rfl)⟩) fun Z w hk hS=>?_);exact fz
  exact fz
 rintro a w ⟨g,c,hS,hM⟩;unfold o5 at hM;refine ah hS fun a hS=>?_;cases hM
 refine aE hS rfl (ap hS rfl aD) ?_;exact⟨b,c,rfl,hS.retOwn ⟨.inr (List.mem_of_getElem? (i:=0) rfl),trivial⟩ 0 rfl 0 rfl⟩
def db (b:ai):Option ai:=(cH b.Inputs).bind fun c=>(nL b.Records).bind fun d=>some ((ai.mk b.Revision c d))
theorem eN (T:Nat→Prop) (W0:World) (hT:TW T W0) (b:ai) (r:Value) (s:Value) (p:aA ad T W0 r b.Inputs) (q:aA aa T W0 s b.Records) (y:ai) (hM:db b=some y):aW Tryz.prog No 36 [.agg (aQ b r s).toArray] W0 (fun v w'=>∃ (f:Value) (qT:List Value) (g:Value) (yF:List Value),v = .agg (aQ y f g).toArray∧fu ad T W0 w' [aR f qT,aH g yF] 69 f qT y.Inputs∧fu aa T W0 w' [aR f qT,aH g yF] 84 g yF y.Records∧(∀ k,f.ownBlock=some k→g.ownBlock ≠ some k)):=by
 refine en Tryz.func36 Tryz.ntmps36 hT fun a hS=>?_;replace hS:=(hS.fS (aA.dn p)).fS (aA.dn q);unfold db at hM;refine ah hS fun a hS=>?_;refine kb hS fun c u a w hk hS=>?_;refine ka hS l4 fun t x a w hk hS=>?_;refine ah hS fun a hS=>?_;refine az ?_;refine dr [(7,.blk (some c)),(9,.blk (some c))] hS fun w hQ hS=>?_;refine gE [0,1,3,4] hS fun a hS=>?_;obtain⟨z,h,hM⟩:=bd hM;refine ec 2 hS J6 (lI _ _ hS.dlt b.Inputs _ (hS.get 1 rfl) _ h) fun _ w hR a hk hA=>?_;obtain⟨n,l,he,d⟩:=hR;obtain rfl:=he.symm;have hS:=oI hA d;refine gE [6] hS fun a hS=>?_;obtain⟨A,j,hM⟩:=bd hM;refine ec 5 hS J7 (wR _ _ hS.dlt b.Records _ (hS.get 1 rfl) _ j) fun _ w hR a hk hA=>?_;obtain⟨o,m,he,e⟩:=hR;obtain rfl:=he.symm;have hS:=oI hA e;refine es 7 hS fun w hS=>?_;refine gE [8] hS fun a hS=>?_;refine es 9 hS fun w hS=>?_;refine eD ?_;refine go hS fun a w hS=>?_;cases hM
 refine aE hS rfl (rC 2 hS) ?_;exact⟨n,l,o,m,rfl,hS.retOwn ⟨.inr (List.mem_of_getElem? (i:=1) rfl),⟨.inr (List.mem_of_getElem? (i:=0) rfl),trivial⟩⟩ 1 rfl 1 rfl,hS.retOwn ⟨.inr (List.mem_of_getElem? (i:=1) rfl),⟨.inr (List.mem_of_getElem? (i:=0) rfl),trivial⟩⟩ 0 rfl 0 rfl,(hS.apart2 1 rfl 0 rfl (by decide))⟩
def ba (c:Int) (b:Bool):Option (Int×Bool):=some ((c,b))
def bp (d:LI) (c:ae) (e:aI→ae→Option Int) (b:Int):Option (Int×Bool):=cond (decide ((b:Int) < (d.length:Int))) ((be d b).bind fun f=>(e f c).bind fun g=>ba b ((g:Int) == 0)) (ba b false)
def bq (h:LI) (d:ae) (e:aI→ae→Option Int) (b:Int) (c:Int):Option (Fl (Int×Int) (Int)):=cond (decide ((b:Int) < c)) ((be h (IntKind.i64.wrap (zB .u64 (IntKind.u64.wrap (IntKind.i64.wrap (b + c))) 1))).bind fun f=>(e f d).bind fun g=>cond (decide ((g:Int) < 0)) (some (.go (IntKind.i64.wrap ((IntKind.i64.wrap (zB .u64 (IntKind.u64.wrap (IntKind.i64.wrap (b + c))) 1)) + 1),c))) (some (.go (b,IntKind.i64.wrap (zB .u64 (IntKind.u64.wrap (IntKind.i64.wrap (b + c))) 1))))) (some (.out b))
def aV (c:aI→ae→Option Int) (d:LI) (b:ae):Option (Int×Bool):=(loop (fun s:Int×Int=>bq d b c s.1 s.2) (0,(d.length:Int))).bind fun r=>bp d b c r
theorem eS (T:Nat→Prop) (W0:World) (hT:TW T W0) (hLv:cU T W0) (cmp_g:Nat) (j:aL Tryz.prog cmp_g=true) (cmp_k:List Value) (cmp_P:bU) (f:aI→ae→Option Int) (m:∀ (T:Nat→Prop) (W0:World) (hT:TW T W0) (hLv:cU T W0) (hP:cmp_P.p T W0) (L:aI) (M:ae) (y:Int) (hM:f L M=some y),aW Tryz.prog No cmp_g ([.agg (mW L).toArray,.agg (aM M).toArray] ++ cmp_k) W0 (fun v w'=>v = .int .i64 y)) (hPcmp_:cmp_P.p T W0) (c:LI) (b:ae) (n:Value) (K:aA ad T W0 n c) (y:Int×Bool) (hM:aV f c b=some y):aW Tryz.prog No 72 [n,.agg (aM b).toArray,.func (.func cmp_g) #[] cmp_k.toArray] W0 (fun v w'=>v = .tuple #[.int .i64 y.1,.bool y.2]):=by
 refine en Tryz.func72 Tryz.ntmps72 hT fun a hS=>?_;replace hS:=((hS.fact cmp_P (bU.dn _ hPcmp_)).fact bv (cU.dn hLv)).fS (aA.dn K);unfold aV at hM;refine ah hS fun a hS=>?_;refine kb hS fun e Q a w hk hS=>?_;refine ah hS fun a hS=>?_;refine aG (J:=fun a w=>∃ (d:Int),St W0 No T 49 [(0,n),(2,.func (.func cmp_g) #[] cmp_k.toArray),(4,pt e 0),(8,.int .i64 (c.length:Int)),(9,.int .i64 d)] [.box e (aM b) 44] [aJ ad n c,bv,cmp_P] a w∧bp c b f d=some y) ?_ ?_
 ·skip;refine ah hS fun a hS=>?_;obtain⟨V,I,hMo1⟩:=bd hM;refine bu _ (fun s a w=>∃ (g:Int) (h:Int),(g,h)=s∧St W0 No T 49 [(0,n),(2,.func (.func cmp_g) #[] cmp_k.toArray),(4,pt e 0),(8,.int .i64 (c.length:Int)),(9,.int .i64 g),(10,.int .i64 h)] [.box e (aM b) 44] [aJ ad n c,bv,cmp_P] a w) I ⟨_,_,rfl,hS.mt [0] [0,1,2]⟩ ?_;rintro s a w P ⟨g,h,rfl,hS⟩ hM hf1;have hM:bq c b f g h=some P:=hM;unfold bq at hM;refine az ?_;refine ah hS fun a hS=>?_;rcases cd hM with⟨B,hM⟩|⟨B,hM⟩
  ·refine ah hS fun a hS=>?_;refine qy hS (JA hS rfl rfl rfl) fun a hS=>?_;refine ah hS fun a hS=>?_;refine az ?_;refine dr [] hS fun w hQ hS=>?_;refine gE [0,1,2] hS fun a hS=>?_;obtain⟨A,q,hM⟩:=bd hM;obtain⟨u,G,N,C,D,hS⟩:=il (R:=ad) hS sg rL 0 rfl q;obtain rfl:=C;refine dy 3 (v:=pt u G) rfl (by kernel_rfl) (by kernel_rfl) (by kernel_rfl) rfl hQ hS (D rfl rfl) rfl rfl rfl fun a hS=>?_;refine gE [4,5] hS fun a hS=>?_;obtain⟨U,t,hM⟩:=bd hM;refine e1 6 (rU (cap:=cmp_k) hS rfl j rfl rfl (m _ _ hS.dlt (hS.get 2 rfl) (hS.get 3 rfl) A b _ t) fun _ w hR a hk hA=>⟨fc (hk),?_⟩);obtain rfl:=hR;have hS:=bV hA;refine gE [7] hS fun a hS=>?_;refine eD ?_;exact fz
  exact fz
 rintro a w ⟨d,hS,hM⟩;unfold bp at hM;refine aG (J:=fun a w=>∃ (k:Bool),St W0 No T 49 [(6,.int .i64 d),(7,.bool k)] [] [bv,cmp_P] a w∧ba d k=some y) ?_ ?_
 ·skip;refine dr [] hS fun w hQ hS=>?_;refine gE [0,1,2,3,4] hS fun a hS=>?_;rcases cd hM with⟨l,hM⟩|⟨l,hM⟩
  ·refine gE [5,6,7] hS fun a hS=>?_;obtain⟨z,o,hM⟩:=bd hM;obtain⟨x,H,O,E,F,hS⟩:=il (R:=ad) hS sg rL 0 rfl o;obtain rfl:=E;refine vG 8 (v:=pt x H) rfl (by kernel_rfl) (by kernel_rfl) (by kernel_rfl) rfl hQ hS (F rfl rfl) rfl rfl rfl l rfl rfl fun a hS=>?_;refine gE [9,10] hS fun a hS=>?_;obtain⟨S,r,hM⟩:=bd hM;refine cy (i:=11) rfl (by kernel_rfl) hS rfl rfl rfl l (rU (cap:=cmp_k) hS rfl j rfl rfl (m _ _ hS.dlt (hS.get 2 rfl) (hS.get 3 rfl) z b _ r) fun _ w hR a hk hA=>⟨fc (hk),?_⟩);obtain rfl:=hR;have hS:=bV hA;refine gE [12,13,14,15] hS fun a hS=>?_;refine eD ?_;exact⟨_,hS.mt [] [2,3],hM⟩
  refine gE [5,6,7,8,9,10,11,12,13,14,15] hS fun a hS=>?_;refine eD ?_;exact⟨_,hS.mt [] [1,2],hM⟩
 rintro a w ⟨k,hS,hM⟩;unfold ba at hM;refine ah hS fun a hS=>?_;cases hM
 refine aE hS Tryz.results72 (ap hS rfl (ap hS rfl aD)) ?_;exact rfl
def du (d:aI) (c:ae):Option Int:=(pu d.Key c).bind fun b=>some (b)
theorem sX (T:Nat→Prop) (W0:World) (hT:TW T W0) (hLv:cU T W0) (c:aI) (b:ae) (y:Int) (hM:du c b=some y):aW Tryz.prog No 73 [.agg (mW c).toArray,.agg (aM b).toArray] W0 (fun v w'=>v = .int .i64 y):=by
 refine en Tryz.func73 Tryz.ntmps73 hT fun a hS=>?_;replace hS:=hS.fact bv (cU.dn hLv);unfold du at hM;refine ah hS fun a hS=>?_;refine kb hS fun e g a w hk hS=>?_;refine kb hS fun f h a w hk hS=>?_;refine ah hS fun a hS=>?_;obtain⟨i,d,hM⟩:=bd hM;refine kc hS Eu (rX _ _ hS.dlt (hS.get 0 rfl) c.Key b _ d) fun _ w hR a hk hA=>?_;obtain rfl:=hR;have hS:=bV hA;exact fz
def eG (d:ai) (b:ai) (e:Bool) (c:LI):Option (ai×Int):=cond (!(e)) (some (((ai.mk b.Revision c b.Records),0))) (cond (decide ((64:Int) < (c.length:Int))) ((db d).bind fun f=>some ((f,45))) (cond ((d.Revision:Int) == 1073741824) ((db d).bind fun g=>some ((g,3))) (some (((ai.mk (IntKind.i64.wrap (b.Revision + 1)) c b.Records),0)))))
def bZ (f:ai) (g:Bool) (b:LI) (d:ae) (e:ByteArray):Option (Bool×LI):=(mN f d).bind fun h=>cond (h.toList == e.toList) (some (g,b)) ((aV du b d).bind fun c=>cond c.2 ((be b c.1).bind fun i=>some (true,(b.set (Int.toNat c.1) (aI.mk d e (IntKind.i64.wrap (f.Revision + 1)))))) (gd (decide (0≤c.1)) <| gd (decide ((c.1:Int)≤b.length)) <| gd (br (b.length + 1)) <| some (true,(List.take (Int.toNat c.1) b ++ (aI.mk d e (IntKind.i64.wrap (f.Revision + 1))) :: List.drop (Int.toNat c.1) b))))
def jh (b:ai) (d:LB):Option (ai×Int):=(db b).bind fun c=>(uk (fun (s:Bool×LI) (k:ae) (v:ByteArray)=>bZ b s.1 s.2 k v) d (false,c.Inputs)).bind fun r=>eG b c r.1 r.2
def eH (e:LC) (d:LB) (b:Int):Option (Fl (LB×Int) (LB)):=cond (decide ((b:Int) < (e.length:Int))) ((be e b).bind fun c=>some (.go ((cT aC c.Key c.Value d),IntKind.i64.wrap (b + 1)))) (some (.out d))
def gX (b:ai) (d:LC):Option (ai×Int):=(jS b d).bind fun c=>cond ((c:Int) != 0) ((db b).bind fun e=>some ((e,c))) ((loop (fun s:LB×Int=>eH d s.1 s.2) (([]:LB),0)).bind fun r=>jh b r)
theorem kp (T:Nat→Prop) (W0:World) (hT:TW T W0) (hLv:cU T W0) (b:ai) (G:LC) (D:Value) (F:Value) (v3:Value) (ea:aA ad T W0 D b.Inputs) (ed:aA aa T W0 F b.Records) (eg:aA aj T W0 v3 G) (y:ai×Int) (hM:gX b G=some y):aW Tryz.prog No 38 [.agg (aQ b D F).toArray,v3] W0 (fun v w'=>∃ (v4:Value) (tX:List Value) (v6:Value) (vt:List Value),v = .tuple #[.agg (aQ y.1 v4 v6).toArray,.int .i64 y.2]∧fu ad T W0 w' [aR v4 tX,aH v6 vt] 69 v4 tX y.1.Inputs∧fu aa T W0 w' [aR v4 tX,aH v6 vt] 84 v6 vt y.1.Records∧(∀ k,v4.ownBlock=some k→v6.ownBlock ≠ some k)):=by
 refine en Tryz.func38 Tryz.ntmps38 hT fun a hS=>?_;replace hS:=(((hS.fact bv (cU.dn hLv)).fS (aA.dn ea)).fS (aA.dn ed)).fS (aA.dn eg);unfold gX at hM;refine ah hS fun a hS=>?_;refine kb hS fun j f4 a w hk hS=>?_;refine ka hS l4 fun l f6 a w hk hS=>?_;refine ah hS fun a hS=>?_;refine az ?_;refine ah hS fun a hS=>?_;obtain⟨g8,ax,hM⟩:=bd hM;refine kc hS J8 (uo _ _ hS.dlt (hS.get 3 rfl) b G _ _ _ (hS.get 2 rfl) (hS.get 1 rfl) (hS.get 0 rfl) _ ax) fun _ w hR a hk hA=>?_;obtain rfl:=hR;have hS:=bV hA;refine ah hS fun a hS=>?_;rcases cd hM with⟨c1,hM⟩|⟨c1,hM⟩
 ·refine ah hS fun a hS=>?_;obtain⟨gb,b0,hM⟩:=bd hM;refine kc hS Ae (eN _ _ hS.dlt b _ _ (hS.get 2 rfl) (hS.get 1 rfl) _ b0) fun _ w hR a hk hA=>?_;obtain⟨dk,b5,dl,b6,he,W,X,B⟩:=hR;obtain rfl:=he.symm;have hS:=s7 hA W X B;refine go hS fun a w hS=>?_;cases hM
  refine aE hS Tryz.results38 (a7 hS rfl 2 rfl ez rfl (fun h=>by cases h) (ap hS rfl aD)) ?_;exact⟨dk,b5,dl,b6,rfl,hS.retOwn ⟨.inr (List.mem_of_getElem? (i:=0) rfl),⟨.inr (List.mem_of_getElem? (i:=1) rfl),trivial⟩⟩ 0 rfl 1 rfl,hS.retOwn ⟨.inr (List.mem_of_getElem? (i:=0) rfl),⟨.inr (List.mem_of_getElem? (i:=1) rfl),trivial⟩⟩ 1 rfl 0 rfl,(hS.apart2 0 rfl 1 rfl (by decide))⟩
 refine ah hS fun a hS=>?_;refine wl rfl (vR ac true aN.str false hS rfl fun n fd a w hk hS=>?_);refine ah hS fun a hS=>?_;refine aG (J:=fun a w=>∃ (C:LB) (m:AM) (g:Nat),St W0 No T 100 [(2,pt j 0),(4,pt l 0),(7,.map (some n))] [om n m g,.box j (aQ b D F) 31,.box l [.int .i64 0,.slice none 0 0,.slice none 0 0] 31] [iv m C,uz m g,aJ ad D b.Inputs,aJ aa F b.Records,bv] a w∧jh b C=some y) ?_ ?_
 ·skip;refine ah hS fun a hS=>?_;obtain⟨r1,a4,hMo1⟩:=bd hM;refine bu _ (fun s a w=>∃ (M:LB) (K:Int) (I:AM) (Q:Nat),(M,K)=s∧St W0 No T 100 [(2,pt j 0),(4,pt l 0),(7,.map (some n)),(26,v3),(27,.int .i64 (G.length:Int)),(28,.int .i64 K)] [om n I Q,.box j (aQ b D F) 31,.box l [.int .i64 0,.slice none 0 0,.slice none 0 0] 31] [iv I M,uz I Q,aJ aj v3 G,aJ ad D b.Inputs,aJ aa F b.Records,bv] a w) a4 ⟨_,_,_,_,rfl,hS.mt [0,2,1] [1,0,2,4,3,5]⟩ ?_;rintro s a w f1 ⟨M,K,I,Q,rfl,hS⟩ hM hf1;have hM:eH G M K=some f1:=hM;unfold eH at hM;refine ah hS fun a hS=>?_;refine az ?_;rcases cd hM with⟨c2,hM⟩|⟨c2,hM⟩
  ·refine ah hS fun a hS=>?_;refine az ?_;refine ah hS fun a hS=>?_;obtain⟨H,ab,hM⟩:=bd hM;refine wl rfl (bc (R:=aj) hS sh rK rfl rfl 2 rfl ab rfl fun el g0 er c3 a hS=>?_);obtain rfl:=c3;refine ah hS fun a hS=>?_;refine ka hS k9 fun em fl a w hk hS=>?_;refine go hS fun a w hS=>?_;refine wl rfl (x6 hS n9 cc 1 rfl 1 rfl 2 rfl (c:=(aM H.Key)) (cv:=[.string H.Value]) (key:=H.Key) (val:=H.Value) rfl rfl rfl rfl rfl fun f2 et w hk hS=>?_);exact fz
  exact fz
 rintro a w ⟨C,m,g,hS,hM⟩;unfold jh at hM;refine ah hS fun a hS=>?_;obtain⟨o,af,hM⟩:=bd hM;refine kc hS Ae (eN _ _ hS.dlt b _ _ (hS.get 2 rfl) (hS.get 3 rfl) _ af) fun _ w hR a hk hA=>?_;obtain⟨ds,b8,p,r,he,Y,Z,B⟩:=hR;obtain rfl:=he.symm;have hS:=s7 hA Y Z B;refine ka hS l4 fun x fn a w hk hS=>?_;refine go hS fun a w hS=>?_;refine aG (J:=fun a w=>∃ (P:Bool) (S:LI) (E:Value) (z:LV),St W0 No T 100 [(2,pt j 0),(4,pt l 0),(10,pt x 0),(11,.bool P)] [.box j (aQ b D F) 31,.box l [.int .i64 0,.slice none 0 0,.slice none 0 0] 31,aR E z,aH p r,.box x (aQ o E p) 31] [aJ ad D b.Inputs,aJ aa F b.Records,am ad z S,am aa r o.Records,bv] a w∧eG b o P S=some y) ?_ ?_
 ·skip;refine ah hS fun a hS=>?_;refine wl rfl (E3 hS rfl n9 3 rfl rfl fun O fr a w hk hS=>?_);refine ah hS fun a hS=>?_;obtain⟨r1,a4,hMo1⟩:=bd hM;refine HP (fun (s:Bool×LI) (k:ae) (v:ByteArray)=>bZ b s.1 s.2 k v) (fun s rest a w=>∃ (q:Bool) (f:LI) (U:(Array Nat)) (t:Value) (A:LV),(q,f)=s∧pj m U C=rest∧St W0 No T 100 [(2,pt j 0),(4,pt l 0),(10,pt x 0),(11,.bool q),(41,pt O 0)] [om n m g,.obj O (.mapIter (some n) g U g),.box j (aQ b D F) 31,.box l [.int .i64 0,.slice none 0 0,.slice none 0 0] 31,aR t A,aH p r,.box x (aQ o t p) 31] [iv m C,uz m g,aJ ad D b.Inputs,aJ aa F b.Records,am ad A f,am aa r o.Records,bv] a w) (Av a4) ⟨false,o.Inputs,(#[]),ds,b8,rfl,Ay (hS.mapOk 2 rfl).1,(hS.meet [4,0,5,6,2,3,1] (by decide) ⟨rfl,rfl,rfl,rfl,rfl,trivial⟩ ⟨rfl,rfl,rfl,rfl,rfl,rfl,rfl,trivial⟩ ⟨⟨2,rfl⟩,⟨3,rfl⟩,⟨4,rfl⟩,⟨5,rfl⟩,⟨1,rfl⟩,⟨0,rfl⟩,⟨6,rfl⟩,trivial⟩)⟩ ?_;rintro s rest a w ⟨q,f,U,t,A,rfl,rfl,hS⟩ hrest;refine ah hS fun a hS=>?_;refine wl rfl (Hq hS rfl rfl 0 rfl 1 rfl (by decide) 0 rfl 1 rfl (fun c4 a hS=>?_) (fun d e ex eT N a w hk c5 c9 L hS=>?_))
  ·have hr:=Fh c4 hrest;subst hr;refine ah hS fun a hS=>?_;refine az ?_;refine ah hS fun a hS=>?_;have hM:eG b o q f=some y:=hMo1;exact⟨_,_,_,_,hS.mt [2,3,4,5,6] [2,3,4,5,6],hM⟩
  obtain rfl:=c5;obtain rfl:=c9;obtain⟨s1,hM,hrest⟩:=BR L hrest;have hM:bZ b q f d e=some s1:=hM;unfold bZ at hM;refine ah hS fun a hS=>?_;refine az ?_;refine ah hS fun a hS=>?_;refine qy hS (Ft hS rfl 0 rfl 1 rfl 2 rfl 0 rfl) fun a hS=>?_;refine ah hS fun a hS=>?_;refine ka hS gh fun b2 fs a w hk hS=>?_;refine go hS fun a w hS=>?_;refine az ?_;refine ah hS fun a hS=>?_;obtain⟨g7,ao,hM⟩:=bd hM;refine kc hS J9 (wh _ _ hS.dlt (hS.get 7 rfl) b d _ _ (hS.get 3 rfl) (hS.get 4 rfl) _ ao) fun _ w hR a hk hA=>?_;obtain rfl:=hR;have hS:=bV hA;refine ah hS fun a hS=>?_;rcases cd hM with⟨ca,hM⟩|⟨ca,hM⟩
  ·refine ah hS fun a hS=>?_;cases hM
   exact⟨(q,f),_,yp L,hrest,q,f,N,t,A,rfl,rfl,(hS.meet [1,2,3,4,5,6,7] (by decide) ⟨rfl,rfl,rfl,rfl,rfl,trivial⟩ ⟨rfl,rfl,rfl,rfl,rfl,rfl,rfl,trivial⟩ ⟨⟨1,rfl⟩,⟨2,rfl⟩,⟨3,rfl⟩,⟨4,rfl⟩,⟨5,rfl⟩,⟨6,rfl⟩,⟨7,rfl⟩,trivial⟩)⟩
  refine ah hS fun a hS=>?_;refine qy hS (bj (ps:=[(0,.tmp 52),(1,.tmp 53),(2,.tmp 56)]) hS Du qV rfl (us:=[(aM d),[.string e],[.int .i64 (IntKind.i64.wrap (b.Revision + 1))]]) ⟨rfl,⟨rfl,⟨rfl,trivial⟩⟩⟩ (ws:=[.int .i64 d.Kind,.string d.Text,.string e,.int .i64 (IntKind.i64.wrap (b.Revision + 1))]) rfl) fun a hS=>?_;refine ka hS qV fun b3 fM a w hk hS=>?_;refine go hS fun a w hS=>?_;have hL:=hS;replace hL:=hL.freeze (R:=ad) 6 rfl 5 rfl;obtain⟨u,av,hM⟩:=bd hM;refine kc hS Ka (eS _ _ hL.dlt (hL.get 8 rfl) 73 Kb [] w8 du (fun T W0 hT hLv _ x0 x1 y hM=>sX T W0 hT hLv x0 x1 y hM) trivial f d _ (hL.get 0 rfl) _ av) fun _ w hR a hk hA=>?_;obtain rfl:=hR;have hS:=bV hA;refine ah hS fun a hS=>?_;rcases cd hM with⟨cb,hM⟩|⟨cb,hM⟩
  ·refine ah hS fun a hS=>?_;obtain⟨c0,V,hM⟩:=bd hM;refine wl rfl (cR (R:=ad) hS sg rL rfl rfl 6 rfl 5 rfl V rfl fun eq g1 g2 eX ch ck cl a hS=>?_);obtain rfl:=ch;refine wl rfl (oU (R:=ad) (k:=0) (cs:=(mW c0)) (us:=[.int .i64 d.Kind,.string d.Text,.string e,.int .i64 (IntKind.i64.wrap (b.Revision + 1))]) (x':=(aI.mk d e (IntKind.i64.wrap (b.Revision + 1)))) hS rfl rfl rfl rL 6 rfl 5 rfl ck cl V rfl rfl rfl rfl fun b9 w hk hS=>?_);refine ah hS fun a hS=>?_;cases hM
   exact⟨(true,(f.set (Int.toNat u.1) (aI.mk d e (IntKind.i64.wrap (b.Revision + 1))))),_,yp L,hrest,true,(f.set (Int.toNat u.1) (aI.mk d e (IntKind.i64.wrap (b.Revision + 1)))),N,t,b9,rfl,rfl,(hS.meet [2,3,4,5,6,7,8] (by decide) ⟨rfl,rfl,rfl,rfl,rfl,trivial⟩ ⟨rfl,rfl,rfl,rfl,rfl,rfl,rfl,trivial⟩ ⟨⟨2,rfl⟩,⟨3,rfl⟩,⟨4,rfl⟩,⟨5,rfl⟩,⟨0,rfl⟩,⟨7,rfl⟩,⟨8,rfl⟩,trivial⟩)⟩
  refine ah hS fun a hS=>?_;refine wl rfl (aT (ps:=[(0,.tmp 74)]) hS wO qV (zl:=[.int .i64 0,.string (ByteArray.mk #[]),.string (ByteArray.mk #[]),.int .i64 0]) (by kernel_rfl) rfl (us:=[[.int .i64 d.Kind,.string d.Text,.string e,.int .i64 (IntKind.i64.wrap (b.Revision + 1))]]) ⟨rfl,trivial⟩ (ws:=[.int .i64 d.Kind,.string d.Text,.string e,.int .i64 (IntKind.i64.wrap (b.Revision + 1))]) rfl rfl rfl rfl fun b4 a w hk hS=>?_);obtain⟨co,hM⟩:=aS hM;obtain⟨d0,hM⟩:=aS hM;obtain⟨d1,hM⟩:=aS hM;replace hS:=hS.re [7,0] [1,2,3,4,5,6,8,9];have d2:ad.rel (dT T ([aR t A,.box b4 [.int .i64 d.Kind,.string d.Text,.string e,.int .i64 (IntKind.i64.wrap (b.Revision + 1))] 69] ++ [.box b3 [.int .i64 d.Kind,.string d.Text,.string e,.int .i64 (IntKind.i64.wrap (b.Revision + 1))] 69,.box b2 (aM d) 44,om n m g,.obj O (.mapIter (some n) g N g),.box j (aQ b D F) 31,.box l [.int .i64 0,.slice none 0 0,.slice none 0 0] 31,aH p r,.box x (aQ o t p) 31])) w [.int .i64 d.Kind,.string d.Text,.string e,.int .i64 (IntKind.i64.wrap (b.Revision + 1))] (aI.mk d e (IntKind.i64.wrap (b.Revision + 1))):=rfl;refine wl rfl (cu hS Kc rfl rfl (Aj (R:=ad) rfl _ _ _ _ _ _ _ _ _ hS.dok (hS.getD 5 rfl) (ad.keep d2 (Kt.refl _ _) (fun k hk=>.inl ((vB k).1 hk))) co d0 d1) fun e2 w hR a hk hA=>?_);obtain⟨bb,d3,d4⟩:=hR;have hS:=hA _ d4;replace hS:=hS.fR (d3.keep (Kt.refl _ _) (aw _));refine go hS fun a w hS=>?_;cases hM
  exact⟨(true,(List.take (Int.toNat u.1) f ++ (aI.mk d e (IntKind.i64.wrap (b.Revision + 1))) :: List.drop (Int.toNat u.1) f)),_,yp L,hrest,true,(List.take (Int.toNat u.1) f ++ (aI.mk d e (IntKind.i64.wrap (b.Revision + 1))) :: List.drop (Int.toNat u.1) f),N,e2,bb,rfl,rfl,(hS.meet [3,4,5,6,0,7,8] (by decide) ⟨rfl,rfl,rfl,rfl,rfl,trivial⟩ ⟨rfl,rfl,rfl,rfl,rfl,rfl,rfl,trivial⟩ ⟨⟨2,rfl⟩,⟨3,rfl⟩,⟨4,rfl⟩,⟨5,rfl⟩,⟨0,rfl⟩,⟨7,rfl⟩,⟨8,rfl⟩,trivial⟩)⟩
 rintro a w ⟨P,S,E,z,hS,hM⟩;unfold eG at hM;refine az ?_;refine ah hS fun a hS=>?_;rcases cd hM with⟨d6,hM⟩|⟨d6,hM⟩
 ·refine go hS fun a w hS=>?_;cases hM
  refine aE hS Tryz.results38 (a7 hS rfl 1 rfl ez rfl (fun h=>by cases h) (ap hS rfl aD)) ?_;exact⟨E,z,p,r,rfl,hS.retOwn ⟨.inr (List.mem_of_getElem? (i:=2) rfl),⟨.inr (List.mem_of_getElem? (i:=3) rfl),trivial⟩⟩ 2 rfl 2 rfl,hS.retOwn ⟨.inr (List.mem_of_getElem? (i:=2) rfl),⟨.inr (List.mem_of_getElem? (i:=3) rfl),trivial⟩⟩ 3 rfl 3 rfl,(hS.apart2 2 rfl 3 rfl (by decide))⟩
 refine ah hS fun a hS=>?_;rcases cd hM with⟨da,hM⟩|⟨da,hM⟩
 ·refine ah hS fun a hS=>?_;obtain⟨g5,ag,hM⟩:=bd hM;refine kc hS Ae (eN _ _ hS.dlt b _ _ (hS.get 0 rfl) (hS.get 1 rfl) _ ag) fun _ w hR a hk hA=>?_;obtain⟨e3,bi,e4,bl,he,a0,a1,B⟩:=hR;obtain rfl:=he.symm;have hS:=s7 hA a0 a1 B;refine go hS fun a w hS=>?_;cases hM
  refine aE hS Tryz.results38 (a7 hS rfl 3 rfl ez rfl (fun h=>by cases h) (ap hS rfl aD)) ?_;exact⟨e3,bi,e4,bl,rfl,hS.retOwn ⟨.inr (List.mem_of_getElem? (i:=0) rfl),⟨.inr (List.mem_of_getElem? (i:=1) rfl),trivial⟩⟩ 0 rfl 1 rfl,hS.retOwn ⟨.inr (List.mem_of_getElem? (i:=0) rfl),⟨.inr (List.mem_of_getElem? (i:=1) rfl),trivial⟩⟩ 1 rfl 0 rfl,(hS.apart2 0 rfl 1 rfl (by decide))⟩
 refine ah hS fun a hS=>?_;rcases cd hM with⟨dc,hM⟩|⟨dc,hM⟩
 ·refine ah hS fun a hS=>?_;obtain⟨g6,ak,hM⟩:=bd hM;refine kc hS Ae (eN _ _ hS.dlt b _ _ (hS.get 0 rfl) (hS.get 1 rfl) _ ak) fun _ w hR a hk hA=>?_;obtain⟨e5,bs,e8,bt,he,a2,a3,B⟩:=hR;obtain rfl:=he.symm;have hS:=s7 hA a2 a3 B;refine go hS fun a w hS=>?_;cases hM
  refine aE hS Tryz.results38 (a7 hS rfl 3 rfl ez rfl (fun h=>by cases h) (ap hS rfl aD)) ?_;exact⟨e5,bs,e8,bt,rfl,hS.retOwn ⟨.inr (List.mem_of_getElem? (i:=0) rfl),⟨.inr (List.mem_of_getElem? (i:=1) rfl),trivial⟩⟩ 0 rfl 1 rfl,hS.retOwn ⟨.inr (List.mem_of_getElem? (i:=0) rfl),⟨.inr (List.mem_of_getElem? (i:=1) rfl),trivial⟩⟩ 1 rfl 0 rfl,(hS.apart2 0 rfl 1 rfl (by decide))⟩
 refine go hS fun a w hS=>?_;cases hM
 refine aE hS Tryz.results38 (a7 hS rfl 1 rfl ez rfl (fun h=>by cases h) (ap hS rfl aD)) ?_;exact⟨E,z,p,r,rfl,hS.retOwn ⟨.inr (List.mem_of_getElem? (i:=2) rfl),⟨.inr (List.mem_of_getElem? (i:=3) rfl),trivial⟩⟩ 2 rfl 2 rfl,hS.retOwn ⟨.inr (List.mem_of_getElem? (i:=2) rfl),⟨.inr (List.mem_of_getElem? (i:=3) rfl),trivial⟩⟩ 3 rfl 3 rfl,(hS.apart2 2 rfl 3 rfl (by decide))⟩
end
end
section
open Go.RowKit
open Go.Lib hiding intOf
theorem mg (n:Nat):itoa (n:Int)=decDigits n:=by
  unfold itoa
  first | rw [if_neg (by omega)]; simp | simp
noncomputable def bg (n:Nat):ae:=⟨30,cq n⟩
theorem p9 {n:Nat} (h:n < 1000000000):uI n=some (cq n):=by
  unfold uI Hn
  rw [show (decide (-9223372036854775808≤(n:Int)) && decide ((n:Int)≤9223372036854775807))=true by simp; omega]
  rfl
theorem m7 {n:Nat} (h:n < 100):cW n=some (bg n):=by
  unfold cW
  rw [show decide ((n:Int) < 0)=false by simp,show decide ((99:Int) < (n:Int))=false by simp; omega]
  simp [cond,p9 (show n < 1000000000 by omega),bg]
theorem z7 {n:Nat} (h:n < 1000):vk (cq n)=some ((n:Int),false):=by
  unfold vk
  have hl:(cq n).toList=decDigits n:=by rw [oS,mg]
  have hs:(cq n).size≤140737488355328:=by
    have h1:(cq n).size=(itoa n).length:=by simp [cq,ByteArray.size]
    have:=uZ n 3 (by omega)
    rw [h1,mg]; omega
  rw [show Nat.ble (cq n).size 140737488355328=true from Nat.ble_eq_true_of_le hs,hl,yN (by omega)]
  rfl
theorem zb {n:Nat} (h:n < 100):fh (bg n)=some true:=by
  have h1:nq 30=some true:=by unfold nq; rfl
  have h2:lC (bg n)=some n:=by
    unfold lC bg
    rw [h1]
    simp only [Option.bind_some,z7 (show n < 1000 by omega),p9 (show n < 1000000000 by omega)]
    rw [show decide ((n:Int) < 0)=false by simp,show decide ((99:Int) < (n:Int))=false by simp; omega]
    simp
  unfold fh
  rw [show (bg n).Kind=30 from rfl,h1,h2]
  simp
theorem Hw (n:Int) {m:Nat} (hm:0 < m) (hm2:m≤1000000000):∃ r:Nat,r < m∧rj n m=some (r:Int):=by
  have h1:=Int.tmod_lt_of_pos n (b:=(m:Int)) (by omega)
  have h2 : -(m:Int) < Int.tmod n m:=by
    rcases (show n < 0∨0≤n by omega) with h | h
    · have:=Int.tmod_lt_of_pos (-n) (b:=(m:Int)) (by omega)
      rw [Int.neg_tmod] at this
      omega
    · have:=Int.tmod_nonneg (m:Int) h
      omega
  refine⟨(Int.tmod (Int.tmod n m + m) m).toNat,?_,?_⟩
  · have h3:=Int.tmod_lt_of_pos (Int.tmod n m + m) (b:=(m:Int)) (by omega)
    have h4:=Int.tmod_nonneg (a:=Int.tmod n m + m) (m:Int) (by omega)
    omega
  · unfold rj
    have h4:=Int.tmod_nonneg (a:=Int.tmod n m + m) (m:Int) (by omega)
    rw [show decide ((m:Int) < 1)=false by simp; omega,show ((m:Int) != 0)=true by simp; omega,pm (by omega) (by omega),Int.toNat_of_nonneg h4]
    rfl
theorem BB {n:Nat} (h:n < 1000000000):vk (cq n)=some ((n:Int),false):=by
  unfold vk
  have hl:(cq n).toList=decDigits n:=by rw [oS,mg]
  have hs:(cq n).size≤140737488355328:=by
    have h1:(cq n).size=(itoa n).length:=by simp [cq,ByteArray.size]
    have:=uZ n 9 (by omega)
    rw [h1,mg]; omega
  rw [show Nat.ble (cq n).size 140737488355328=true from Nat.ble_eq_true_of_le hs,hl,yN (by omega)]
  rfl
theorem B5 {k:Int} {n:Nat} (hk:k=30∨k=31∨k=32) (h:n < 100):lC ⟨k,cq n⟩=some n:=by
  have h1:nq k=some true:=by rcases hk with rfl | rfl | rfl <;> (unfold nq; rfl)
  unfold lC
  rw [h1]
  simp only [Option.bind_some,BB (show n < 1000000000 by omega),p9 (show n < 1000000000 by omega)]
  rw [show decide ((n:Int) < 0)=false by simp,show decide ((99:Int) < (n:Int))=false by simp; omega]
  simp
theorem DZ {k:Int} {n:Nat} (hk:k=30∨k=31∨k=32) (h:n < 100):fh ⟨k,cq n⟩=some true:=by
  have h1:nq k=some true:=by rcases hk with rfl | rfl | rfl <;> (unfold nq; rfl)
  unfold fh
  rw [h1,B5 hk h]
  simp
noncomputable def Bm (r:aK) (n:Nat):ae:=⟨if r.Ring then 32 else 31,cq n⟩
theorem Cb {l:List aK} {n:Nat} (h:n < l.length) (h100:n < 100):jx l n=some (Bm l[n] n):=by
  unfold jx
  rw [show decide ((n:Int) < 0)=false by simp,show decide (((l.length:Int):Int)≤(n:Int))=false by simp; omega,show decide ((99:Int) < (n:Int))=false by simp; omega,bB h,p9 (by omega)]
  simp only [Option.bind_some,cond_false]
  unfold nM Bm
  cases l[n].Ring <;> simp
theorem Cj (s:ByteArray):s.toList.length=s.size:=by rw [ByteArray.toList_eq]; rfl
theorem BQ (c:UInt8) (r:List UInt8) (n:Nat):dx (c :: r) n=if (decide (48≤c.toNat) && decide (c.toNat≤57))=true then dx r (10 * n + (c.toNat - 48)) else -1:=rfl
theorem Di:(ByteArray.mk #[]).toList=[]:=by rw [ByteArray.toList_eq]
theorem CQ (s:ByteArray):iW s=some (tg s.toList):=by
  have hsz:=Cj s
  have j3t:cD s true=some (-1):=by unfold cD; rfl
  have j3f:s.size≤9→cD s false=some (dx s.toList 0):=fun h9=>by
    unfold cD
    simp only [cond_false]
    have key:∃ r,loop (fun s_1:Int×Int=>fk s s_1.1 s_1.2) (0,0)=some r∧Fl.el r (fun s=>fj s) (fun y=>some y)=some (dx s.toList 0):=?_
    · obtain⟨r,h1,h2⟩:=key
      rw [h1]; exact h2
    refine oC (fun k st=>∃ m:Nat,st=((m:Int),(k:Int))∧dx (s.toList.drop k) m=dx s.toList 0∧m < 10 ^ k)
      (fun r=>Fl.el r (fun s=>fj s) (fun y=>some y)=some (dx s.toList 0)) s.size (fun k st hk hI=>?_) (fun st hI=>?_) ⟨0,rfl,rfl,by simp⟩
    · obtain⟨m,rfl,e,hm⟩:=hI
      have hk':k < s.toList.length:=by omega
      rw [List.drop_eq_getElem_cons hk'] at e
      unfold fk
      rw [show decide ((k:Int) < (s.size:Int))=true by simpa using hk,bB hk']
      simp only [cond_true,Option.bind_some]
      have hp:(10:Nat) ^ k≤10 ^ 8:=Nat.pow_le_pow_right (by omega) (by omega)
      have hq:(10:Nat) ^ 8=100000000:=rfl
      have hu:=(s.toList[k]).toNat_lt
      rw [BQ] at e
      by_cases h48:((s.toList[k]).toNat:Int) < 48
      · rw [show decide (((s.toList[k]).toNat:Int) < 48)=true by simpa using h48]
        rw [if_neg (by simp; omega)] at e
        exact .inr ⟨_,rfl,by rw [← e]; rfl⟩
      · rw [show decide (((s.toList[k]).toNat:Int) < 48)=false by simpa using h48]
        by_cases h57:(57:Int) < ((s.toList[k]).toNat:Int)
        · rw [show decide ((57:Int) < ((s.toList[k]).toNat:Int))=true by simpa using h57]
          rw [if_neg (by simp; omega)] at e
          exact .inr ⟨_,rfl,by rw [← e]; rfl⟩
        · rw [show decide ((57:Int) < ((s.toList[k]).toNat:Int))=false by simpa using h57]
          rw [if_pos (by simp; omega)] at e
          simp only [cond_false]
          have hw:IntKind.u8.wrap (((s.toList[k]).toNat:Int) - 48)=(((s.toList[k]).toNat - 48:Nat):Int):=by rw [IntKind.wrap_u8]; omega
          rw [hw,show IntKind.i64.wrap (10 * (m:Int))=((10 * m:Nat):Int) from (pm (by omega) (by omega)).trans (by omega),show IntKind.i64.wrap (((s.toList[k]).toNat - 48:Nat):Int)=(((s.toList[k]).toNat - 48:Nat):Int) from pm (by omega) (by omega),
            pm (by omega) (by omega),pm (by omega) (by omega)]
          exact .inl ⟨_,rfl,10 * m + ((s.toList[k]).toNat - 48),by simp,e,by rw [Nat.pow_succ]; omega⟩
    · obtain⟨m,rfl,e,hm⟩:=hI
      rw [← hsz,List.drop_length] at e
      unfold fk
      rw [show decide ((s.size:Int) < (s.size:Int))=false by simp]
      exact⟨_,rfl,by simp only [Fl.el,fj]; rw [← e]; rfl⟩
  unfold iW tg
  have hz:(s.toList == (ByteArray.mk #[]).toList)=decide (s.toList=[]):=by rw [Di]; cases s.toList <;> rfl
  rw [hz]
  by_cases h0:s.toList=[]
  · rw [if_pos (.inl h0),decide_eq_true h0]; exact j3t
  · rw [decide_eq_false h0]
    simp only [cond_false]
    by_cases h9:9 < s.toList.length
    · rw [if_pos (.inr (.inl h9)),show decide ((9:Int) < (s.size:Int))=true by simp; omega]; exact j3t
    · rw [show decide ((9:Int) < (s.size:Int))=false by simp; omega]
      have hl:0 < s.toList.length:=List.length_pos_iff.2 h0
      have h1:be s.toList (0:Int)=some (s.toList.getD 0 0):=by
        have:=bB hl
        simp only [Int.natCast_zero] at this
        rw [this,List.getD_eq_getElem?_getD,List.getElem?_eq_getElem hl]; rfl
      rw [h1]
      simp only [cond_false,Option.bind_some]
      by_cases h48:s.toList.getD 0 0=48
      · rw [h48,show (((48:UInt8).toNat:Int) == 48)=true from rfl]
        simp only [cond_true,true_and]
        have hq:(!(s.toList == (ByteArray.mk #[48]).toList))=decide (s.toList ≠ [48]):=by rw [show (ByteArray.mk #[48]).toList=[48] from by rw [ByteArray.toList_eq]]; by_cases h:s.toList=[48] <;> simp [h]
        rw [hq]
        by_cases h:s.toList=[48]
        · rw [decide_eq_false (fun h2=>h2 h),j3f (by omega),if_neg (by rintro (h2 | h2 | h2); exact h0 h2; exact h9 h2; exact h2 h)]
        · rw [decide_eq_true h,if_pos (.inr (.inr h))]; exact j3t
      · have h48':((s.toList.getD 0 0).toNat:Int) ≠ 48:=fun h=>h48 (UInt8.toNat_inj.1 (by have:(48:UInt8).toNat=48:=rfl; omega))
        rw [show (((s.toList.getD 0 0).toNat:Int) == 48)=false by simpa using h48']
        simp only [cond_false]
        rw [j3f (by omega),if_neg (by rintro (h2 | h2 | h2); exact h0 h2; exact h9 h2; exact h48 h2.1)]
def Aq (k:ae):Int:=if 30≤k.Kind∧k.Kind≤32 then Fc 99 k.Text.toList else -1
theorem pi (k:ae):f7 k=some (Aq k):=by
  unfold f7 Aq Fc
  rw [CQ]
  simp only [Option.bind_some]
  unfold fW
  have:=EC k.Text.toList
  by_cases h1:30≤k.Kind <;> by_cases h2:k.Kind≤32 <;> by_cases h3:tg k.Text.toList≤99 <;> simp [h1,h2,h3]
end
section
open Go.RowKit
open Go.Lib hiding intOf
section
variable {σ ρ α:Type} {B:σ→Option (Fl σ ρ)}
theorem rY (st:Nat→σ) (m:Nat) {s0:σ} (h0:s0=st 0) {r:ρ} (hgo:∀ k,k < m→B (st k)=some (.go (st (k + 1)))) (hout:B (st m)=some (.out r)):loop B s0=some r:=by
  subst h0
  exact u7 (fun k s=>s=st k) r m (fun k s hk hs=>.inl ⟨st (k + 1),by rw [hs]; exact hgo k hk,rfl⟩) (fun s hs=>by rw [hs]; exact hout) rfl
theorem qx {xs:List α} (p:α→Bool) (st:Nat→σ) {s0:σ} (h0:s0=st 0) {y:Nat→α→ρ} {n:ρ} (hgo:∀ k x,xs[k]? = some x→p x=false→B (st k)=some (.go (st (k + 1))))
    (hy:∀ k x,xs[k]? = some x→p x=true→B (st k)=some (.out (y k x))) (hn:B (st xs.length)=some (.out n)) :
    (∃ k x,xs[k]? = some x∧p x=true∧(∀ j z,j < k→xs[j]? = some z→p z=false)∧loop B s0=some (y k x))∨(∀ z ∈ xs,p z=false)∧loop B s0=some n:=by
  by_cases h:xs.findIdx p < xs.length
  · have e:=List.getElem?_eq_getElem h
    have hp:=List.findIdx_getElem (w:=h)
    have hb:∀ j z,j < xs.findIdx p→xs[j]? = some z→p z=false:=fun j z hj hz=>by
      have:=List.not_of_lt_findIdx hj
      obtain⟨h1,h2⟩:=List.getElem?_eq_some_iff.1 hz
      rw [h2] at this; simpa using this
    refine .inl ⟨_,_,e,hp,hb,rY st _ h0 (fun k hk=>?_) (hy _ _ e hp)⟩
    have hk2:k < xs.length:=by omega
    exact hgo k _ (List.getElem?_eq_getElem hk2) (hb k _ hk (List.getElem?_eq_getElem hk2))
  · have hb:∀ j z,xs[j]? = some z→p z=false:=fun j z hz=>by
      obtain⟨h1,h2⟩:=List.getElem?_eq_some_iff.1 hz
      have:=List.not_of_lt_findIdx (p:=p) (xs:=xs) (i:=j) (by omega)
      rw [h2] at this; simpa using this
    refine .inr ⟨fun z hz=>?_,rY st xs.length h0 (fun k hk=>hgo k _ (List.getElem?_eq_getElem hk) (hb k _ (List.getElem?_eq_getElem hk))) hn⟩
    obtain⟨i,hi⟩:=List.mem_iff_getElem?.1 hz
    exact hb i z hi
theorem zj {xs:List α} (p:α→Bool) (st:Nat→σ) {s0:σ} (h0:s0=st 0) {y n:ρ} (hgo:∀ k x,xs[k]? = some x→p x=false→B (st k)=some (.go (st (k + 1))))
    (hy:∀ k x,xs[k]? = some x→p x=true→B (st k)=some (.out y)) (hn:B (st xs.length)=some (.out n)):loop B s0=some (if xs.any p then y else n):=by
  rcases qx p st h0 (y:=fun _ _=>y) hgo hy hn with⟨k,x,h1,h2,_,h3⟩|⟨h1,h2⟩
  · rw [if_pos (List.any_eq_true.2 ⟨x,List.mem_of_getElem? h1,h2⟩)]; exact h3
  · rw [if_neg (fun h=>by obtain⟨x,hx,e⟩:=List.any_eq_true.1 h; rw [h1 x hx] at e; cases e)]; exact h2
theorem bT {xs:List α} (st:Nat→σ) {s0:σ} (h0:s0=st 0) {r:ρ} (hgo:∀ k x,xs[k]? = some x→B (st k)=some (.go (st (k + 1)))) (hout:B (st xs.length)=some (.out r)):loop B s0=some r :=
  rY st xs.length h0 (fun k hk=>hgo k _ (List.getElem?_eq_getElem hk)) hout
theorem d7 {β γ:Type} {m:Option β} {v:β} {f:β→Option γ} {y:Option γ} (h:m=some v) (k:f v=y):m.bind f=y:=by subst h; exact k
end
theorem aU {α:Type} (xs:List α) (k:Nat):be xs (k:Int)=xs[k]?:=by simp [be]
theorem dlt {k n:Nat} (h:k < n):decide ((k:Int) < (n:Int))=true:=decide_eq_true (by omega)
theorem Ah {k n:Nat} (h:¬ k < n):decide ((k:Int) < (n:Int))=false:=decide_eq_false (by omega)
theorem eJ {α:Type} {xs:List α} {k:Nat} {x:α} (h:xs[k]? = some x):decide ((k:Int) < (xs.length:Int))=true:=dlt (List.getElem?_eq_some_iff.1 h).1
theorem bA (n:Nat):decide ((n:Int) < (n:Int))=false:=Ah (Nat.lt_irrefl _)
theorem cB {k:Nat} (h:k≤9223372036854775806):IntKind.i64.wrap ((k:Int) + 1)=((k + 1:Nat):Int):=by rw [pm (by omega) (by omega)]; omega
theorem aY {α:Type} {xs:List α} {k:Nat} {x:α} (h:xs[k]? = some x):k < xs.length:=(List.getElem?_eq_some_iff.1 h).1
theorem bG {α:Type} {xs:List α} {k:Nat} {x:α} (h:xs[k]? = some x):xs.take (k + 1)=xs.take k ++ [x]:=by
  rw [List.take_add_one,h]; rfl
theorem qN {α:Type} (p:α→Bool) (xs:List α) (k:Nat):((xs.take k).filter p).length≤xs.length :=
  Nat.le_trans (List.length_filter_le _ _) (by rw [List.length_take]; omega)
theorem DN {α:Type} {xs:List α} {k:Nat} {x:α} (h:xs[k]? = some x):xs.set k x=xs:=by
  obtain⟨h1,h2⟩:=List.getElem?_eq_some_iff.1 h
  rw [← h2]; exact List.set_getElem_self h1
def Rm (n:Nat):Prop:=n≤1000000000
theorem r9 {α:Type} {xs:List α} {a:Nat} (h:a≤xs.length):oz xs (a:Int) (xs.length:Int)=some (xs.drop a):=by
  rw [Bn h (Nat.le_refl _),List.take_length]
theorem ql {α:Type} {xs:List α} {a:Nat} (h:a≤xs.length):oz xs 0 (a:Int)=some (xs.take a):=by
  have:=Bn (xs:=xs) (Nat.zero_le a) h
  rwa [List.drop_zero] at this
theorem wF {z:Int} (h1 : -1000000000000≤z) (h2:z≤1000000000000):IntKind.i64.wrap z=z:=pm (by omega) (by omega)
end
section
open Go.RowKit
open Go.Lib hiding intOf
structure bM (l:List Int) (at_:Int):Prop where
  low:0≤at_
  high:at_≤l.length
  len:l.length≤400
theorem cP {l:List Int} {i:Int} (h:bM l i) {n:Int} (h1:1≤n) (h2:n≤1000000000):Ok (bF ⟨l,i⟩ n) fun r=>0≤r.1∧r.1 < n∧bM r.2.L r.2.At:=by
  unfold bF
  refine Ok.cond (fun h3=>Ok.ret ⟨by omega,by omega,h⟩) (fun h3=>?_)
  have h3:i < l.length:=by simpa using h3
  have:=h.low; have:=h.high; have:=h.len
  dsimp only
  rw [show IntKind.i64.wrap (i + 1)=i + 1 from pm (by omega) (by omega),pm (by omega) (by omega)]
  refine Ok.get (by simpa using h.low) (by simpa using h3) fun v _ _=>?_
  obtain⟨m,rfl⟩:∃ m:Nat,n=m:=⟨n.toNat,by omega⟩
  obtain⟨r,hr,e⟩:=Hw v (m:=m) (by omega) (by omega)
  exact Ok.eq e (Ok.ret ⟨by simp,by simp; omega,⟨by simp; omega,by simp; omega,h.len⟩⟩)
theorem Bt {l:List Int} {i:Int} (h:bM l i) {ws:List ByteArray} (h1:1≤ws.length) (h2:ws.length≤1000):Ok (oB ⟨l,i⟩ ws) fun r=>r.1 ∈ ws∧bM r.2.L r.2.At:=by
  unfold oB
  refine Ok.bind (cP h (by omega) (by omega)) fun r hr=>Ok.get hr.1 hr.2.1 fun v _ hv=>Ok.ret ⟨hv,hr.2.2⟩
end
section
open Go.RowKit
open Go.Lib hiding intOf
def ZZ (rs:List Bool):Nat→Nat
  | 0=>0
  | a + 1=>if rs[a]? = some true then ZZ rs a else a + 1
def BU (rs:List Bool):Nat→Nat→Nat
  | 0,b=>b
  | f + 1,b=>if rs[b]? = some true then BU rs f (b + 1) else b
theorem ya (rs:List Bool) (a:Nat):ZZ rs (a + 1)=if rs[a]? = some true then ZZ rs a else a + 1:=rfl
theorem y5 (rs:List Bool) (f b:Nat):BU rs (f + 1) b=if rs[b]? = some true then BU rs f (b + 1) else b:=rfl
theorem xn (rs:List Bool):∀ a,ZZ rs a≤a
  | 0=>Nat.le_refl _
  | a + 1=>by
    have:=xn rs a
    unfold ZZ
    split <;> omega
theorem CZ (rs:List Bool):∀ f b,b≤BU rs f b∧BU rs f b≤b + f
  | 0,b=>⟨Nat.le_refl _,Nat.le_refl _⟩
  | f + 1,b=>by
    have:=CZ rs f (b + 1)
    unfold BU
    split <;> omega
def blk (rs:List Bool) (n:Nat):Nat×Nat:=if rs[n]? = some true then (ZZ rs n,BU rs (rs.length - (n + 1)) (n + 1)) else (n,n + 1)
theorem Cz {rs:List Bool} {n:Nat} (h:n < rs.length):(blk rs n).1≤n∧n < (blk rs n).2∧(blk rs n).2≤rs.length:=by
  have h1:=xn rs n
  have h2:=CZ rs (rs.length - (n + 1)) (n + 1)
  unfold blk
  split <;> simp only [] <;> omega
theorem tV {rs:List Bool} {n:Nat} (h:rs[n]? = some false):blk rs n=(n,n + 1):=by simp [blk,h]
def bk (l:List aK):List Bool:=l.map (·.Ring)
theorem nX {l:List aK} {n:Nat} (h:n < l.length):(bk l)[n]? = some l[n].Ring:=by simp [bk,h]
theorem xw {l:List aK} {n:Nat} (h:n < l.length) (hl:l.length≤1000000):lR l n=some (((blk (bk l) n).1:Int),((blk (bk l) n).2:Int)):=by
  unfold lR
  rw [show decide ((n:Int) < 0)=false by simp,show decide (((l.length:Int):Int)≤(n:Int))=false by simp; omega]
  simp only [cond_false,Option.bind_some]
  have hr:=nX h
  cases hb:l[n].Ring with
  | false =>
    rw [hb] at hr
    have h1:loop (fun s:Int=>eh l n s) (n:Int)=some (n:Int):=nJ (by
      unfold eh; rw [bB h]; simp only [Option.bind_some,hb,cond_false])
    have h2:loop (fun s:Int=>ef l n s) ((n:Int) + 1)=some ((n:Int) + 1):=nJ (by
      unfold ef; rw [bB h]; simp only [Option.bind_some,hb,cond_false])
    rw [h1]
    unfold jB jA
    rw [Option.bind_some,pm (by omega) (by omega),h2,tV hr]
    rfl
  | true =>
    rw [hb] at hr
    have h1:loop (fun s:Int=>eh l n s) (n:Int)=some ((ZZ (bk l) n:Nat):Int):=by
      refine u7 (I:=fun k s=>∃ a:Nat,a + k=n∧s=(a:Int)∧ZZ (bk l) a=ZZ (bk l) n) _ n ?_ ?_ ⟨n,rfl,rfl,rfl⟩
      · rintro k _ hk ⟨a,ha,rfl,e⟩
        unfold eh
        obtain⟨c,rfl⟩:∃ c,a=c + 1:=⟨a - 1,by omega⟩
        have hc:c < l.length:=by omega
        rw [bB h,show decide ((0:Int) < ((c + 1:Nat):Int))=true by simp <;> omega,pm (by omega) (by omega),show (((c + 1:Nat):Int) - 1)=(c:Int) by omega,bB hc]
        simp only [cond_true,Option.bind_some,hb]
        have hr2:=nX hc
        rw [ya,hr2] at e
        cases hb2:l[c].Ring with
        | true=>rw [hb2,if_pos rfl] at e; exact .inl ⟨_,rfl,c,by omega,rfl,e⟩
        | false=>rw [hb2,if_neg (by simp)] at e; right; rw [← e]; rfl
      · rintro _ ⟨a,ha,rfl,e⟩
        obtain rfl:a=0:=by omega
        unfold eh
        rw [bB h,← e]
        simp only [Option.bind_some,hb,cond_true]
        rfl
    have h2:loop (fun s:Int=>ef l n s) ((n + 1:Nat):Int)=some ((BU (bk l) ((bk l).length - (n + 1)) (n + 1):Nat):Int):=by
      have hlen:(bk l).length=l.length:=by simp [bk]
      rw [hlen]
      refine u7 (I:=fun k s=>∃ a:Nat,a=n + 1 + k∧a≤l.length∧s=(a:Int)∧BU (bk l) (l.length - a) a=BU (bk l) (l.length - (n + 1)) (n + 1)) _ (l.length - (n + 1)) ?_ ?_ ⟨n + 1,rfl,h,rfl,rfl⟩
      · rintro k _ hk ⟨a,ha,hal,rfl,e⟩
        unfold ef
        have hc:a < l.length:=by omega
        rw [bB h,show decide ((a:Int) < (l.length:Int))=true by simp; omega,bB hc,pm (by omega) (by omega)]
        simp only [cond_true,Option.bind_some,hb]
        have hr2:=nX hc
        rw [show l.length - a=(l.length - (a + 1)) + 1 by omega] at e
        rw [y5,hr2] at e
        cases hb2:l[a].Ring with
        | true=>rw [hb2,if_pos rfl] at e; exact .inl ⟨_,rfl,a + 1,by omega,by omega,by simp,e⟩
        | false=>rw [hb2,if_neg (by simp)] at e; right; rw [← e]; rfl
      · rintro _ ⟨a,ha,hal,rfl,e⟩
        obtain rfl:a=l.length:=by omega
        unfold ef
        rw [Nat.sub_self] at e
        rw [bB h,← e]
        simp [BU,hb]
    rw [h1]
    simp only [Option.bind_some]
    unfold jB jA
    rw [pm (by omega) (by omega),show ((n:Int) + 1)=((n + 1:Nat):Int) by omega,h2]
    simp [blk,hr]
structure yI (ring:Bool) (k:Nat) (b:Int) (a:cF):Prop where
  low:0≤a.N
  cell:a.Cell=true→a.N < 4
  rule:a.Cell=false→a.N < b
  pick:a.Pick=true→ring=false∧0 < k
  low2:0≤a.Else
  cell2:a.Cell=true→a.Else < 4
  rule2:a.Cell=false→a.Else < b
  none:a.Pick=false→a.Else=0
structure zX (b:Int) (r:aK):Prop where
  asks:r.Asks.length≤3
  each:∀ k a,r.Asks[k]? = some a→yI r.Ring k b a
  ring:r.Ring=true→r.Final=5∧0≤r.C∧r.C≤16
  plain:r.Ring=false→1≤r.Final∧r.Final≤4∧0≤r.C∧r.C≤5
def yG (rs:List Bool) (i:Nat):Nat:=if rs[i]? = some true then (blk rs i).2 else i
structure bz (l:List aK):Prop where
  low:2≤l.length
  high:l.length≤8
  each:∀ i r,l[i]? = some r→zX (yG (bk l) i) r
def zT (ring:Bool) (b k:Int) (ks:List cF):Fl (Int×List Int×Int×List cF) (List Int×Int×List cF)→Prop
  | .go s=>s.1=k - 1∧bM s.2.1 s.2.2.1∧∃ a,yI ring ks.length b a∧s.2.2.2=ks ++ [a]
  | .out _=>False
section
variable {ring:Bool} {b k:Int} {ks:List cF} {cell:Bool} {most n:Int} {l:List Int} {i:Int}
theorem Jd {pick:Bool} {e:Int} (ha:yI ring ks.length b ⟨cell,pick,n,e⟩) (hd:bM l i) (hk:1≤k∧k≤3) (hl:ks.length≤3):Ok (iR k ks cell n l i pick e) (zT ring b k ks):=by
  unfold iR ny
  exact Ok.gd (dv (by simp; omega)) (Ok.ret ⟨pm (by omega) (by omega),hd,_,ha,rfl⟩)
theorem Je {g:Bool} (hg:g=true→ring=false∧0 < ks.length) (hn:0≤n∧n < most) (hc:cell=true→most=4) (hr:cell=false→most=b) (hm:1≤most∧most≤8) (hd:bM l i) (hk:1≤k∧k≤3) (hl:ks.length≤3) :
    Ok (gr k ks cell most n g l i) (zT ring b k ks):=by
  unfold gr
  refine Ok.cond (fun e=>Ok.bind (cP hd (by omega) (by omega)) fun r hr2=>Jd ⟨hn.1,fun h=>?_,fun h=>?_,fun _=>hg e,hr2.1,fun h=>?_,fun h=>?_,fun h=>by cases h⟩ hr2.2.2 hk hl)
    (fun e=>Jd ⟨hn.1,fun h=>?_,fun h=>?_,fun h=>(by cases h),by simp,fun h=>(by simp),fun h=>?_,fun h=>rfl⟩ hd hk hl)
  all_goals first
    | (have:=hc h; simp only []; omega)
    | (have:=hr h; simp only []; omega)
theorem Jf (hn:0≤n∧n < most) (hc:cell=true→most=4) (hr:cell=false→most=b) (hm:1≤most∧most≤8) (hd:bM l i) (hk:1≤k∧k≤3) (hl:ks.length≤3) :
    Ok (iS ring k ks cell most l i n) (zT ring b k ks):=by
  unfold iS
  refine Ok.cond (fun e=>Ok.cond (fun e2=>Ok.bind (cP hd (by omega) (by omega)) fun r hr2=>Je (fun _=>⟨by simpa using e,by simpa using e2⟩) hn hc hr hm hr2.2.2 hk hl) (fun e2=>?_)) (fun e=>?_)
  all_goals exact Je (fun h=>by cases h) hn hc hr hm hd hk hl
theorem Jg (hc:cell=true→most=4) (hr:cell=false→most=b) (hm:1≤most∧most≤8) (hd:bM l i) (hk:1≤k∧k≤3) (hl:ks.length≤3) :
    Ok (iU ring k ks l i cell most) (zT ring b k ks):=by
  unfold iU
  refine Ok.bind (cP hd (by omega) (by omega)) fun r h1=>?_
  have h8:∀ {g:Bool} {l2:List Int} {i2:Int},bM l2 i2→Ok (iT ring k ks cell most r g l2 i2) (zT ring b k ks):=fun {g l2 i2} h2=>by
    unfold iT
    refine Ok.cond (fun _=>Ok.bind (cP h2 (by omega) (by omega)) fun q h3=>?_) (fun _=>Jf ⟨h1.1,h1.2.1⟩ hc hr hm h2 hk hl)
    have:=h3.1; have:=h3.2.1
    rw [show IntKind.i64.wrap (most - 1)=most - 1 from pm (by omega) (by omega),pm (by omega) (by omega)]
    exact Jf ⟨by omega,by omega⟩ hc hr hm h3.2.2 hk hl
  refine Ok.cond (fun _=>Ok.bind (cP h1.2.2 (by omega) (by omega)) fun q h3=>h8 h3.2.2) (fun _=>h8 h1.2.2)
theorem Jh (hb:0≤b∧b≤8) (hd:bM l i) (hk:1≤k∧k≤3) (hl:ks.length≤3):Ok (gN b ring k l i ks) (zT ring b k ks):=by
  unfold gN
  refine Ok.cond (fun _=>Ok.bind (cP hd (by omega) (by omega)) fun r h1=>?_) (fun e=>by simp at e; omega)
  have h10:∀ {c:Bool},(c=false→1≤b)→Ok (gK b ring k ks r.2.L r.2.At c) (zT ring b k ks):=fun {c} h=>by
    unfold gK
    exact Ok.cond (fun e=>by subst e; exact Jg (fun _=>rfl) (fun h=>by cases h) ⟨by omega,by omega⟩ h1.2.2 hk hl) (fun e=>by subst e; exact Jg (fun h=>by cases h) (fun _=>rfl) ⟨h rfl,hb.2⟩ h1.2.2 hk hl)
  exact Ok.cond (fun _=>h10 fun h=>by cases h) (fun _=>h10 fun h=>by simp at h; omega)
end
def Gl (l:List aK) (n:Nat) (ring:Bool) (b:Int):Fl (List aK×Int×List Int×Int) (List aK×List Int×Int)→Prop
  | .go s=>(∃ r,zX b r∧r.Ring=ring∧s.1=l.set n r)∧s.2.1=n + 1∧bM s.2.2.1 s.2.2.2
  | .out _=>False
theorem Ga {l:List aK} {n:Nat} (h:n < l.length) (hl:l.length≤8) {b:Int} (hb:0≤b∧b≤8) {ring:Bool} {d:List Int} {i:Int} (hd:bM d i) {f c:Int}
    (h5:ring=true→f=5∧0≤c∧c≤16) (h6:ring=false→1≤f∧f≤4∧0≤c∧c≤5):Ok (gL l n b ring d i f c) (Gl l n ring b):=by
  unfold gL
  refine Ok.bind (cP hd (by omega) (by omega)) fun r h1=>?_
  refine Ok.loop (fun k s=>s.1=r.1 - k∧s.2.2.2.length=k∧bM s.2.1 s.2.2.1∧∀ j a,s.2.2.2[j]? = some a→yI ring j b a) (fun q=>q.2.2.length≤3∧bM q.1 q.2.1∧∀ j a,q.2.2[j]? = some a→yI ring j b a) r.1.toNat
    ⟨by simp,rfl,h1.2.2,fun j a e=>by simp at e⟩ (fun k s hk hI=>?_) (fun q hq=>?_)
  · obtain⟨e1,e2,e3,e4⟩:=hI
    have:=h1.1; have:=h1.2.1
    by_cases hz:(0:Int) < s.1
    · refine (Jh hb e3 ⟨by omega,by omega⟩ (by omega)).mono fun y hy=>?_
      cases y with
      | out q=>exact hy.elim
      | go s2 =>
        obtain⟨g1,g2,a,g3,g4⟩:=hy
        refine⟨by omega,by omega,by rw [g4]; simp; omega,g2,fun j x hx=>?_⟩
        rw [g4] at hx
        by_cases hj:j < s.2.2.2.length
        · rw [List.getElem?_append_left hj] at hx; exact e4 j x hx
        · rw [List.getElem?_append_right (by omega)] at hx
          obtain rfl:j=s.2.2.2.length:=by
            rcases Nat.lt_or_ge s.2.2.2.length j with h | h
            · rw [List.getElem?_eq_none (by simp; omega)] at hx; cases hx
            · omega
          simp at hx; subst hx; exact g3
    · unfold gN
      rw [show decide ((0:Int) < s.1)=false by simpa using hz]
      exact Ok.ret ⟨by simp only []; omega,e3,e4⟩
  · unfold kN nx
    refine Ok.get (by omega) (by omega) fun v _ _=>Ok.ret ⟨⟨⟨ring,q.2.2,f,c⟩,⟨hq.1,hq.2.2,h5,h6⟩,rfl,by simp⟩,pm (by omega) (by omega),hq.2.1⟩
theorem Ji {l:List aK} {n:Nat} (h:n < l.length) (hl:l.length≤8) {d:List Int} {i:Int} (hd:bM d i) (l0:List aK) (h0:l0.length=l.length):Ok (gO l0 l n d i) (Gl l n l[n].Ring (yG (bk l) n)):=by
  unfold gO
  rw [show decide ((n:Int) < (l0.length:Int))=true by simp; omega,xw h (by omega)]
  simp only [cond_true,Option.bind_some]
  rw [bB h]
  simp only [Option.bind_some]
  have hb:=Cz (rs:=bk l) (n:=n) (by simpa [bk] using h)
  have hlen:(bk l).length=l.length:=by simp [bk]
  have h14:∀ {b:Int},0≤b∧b≤8→Ok (gM l n d i b) (Gl l n l[n].Ring b):=fun {b} hb=>by
    unfold gM
    rw [bB h,Option.bind_some]
    refine Ok.bind (cP hd (by omega) (by omega)) fun r h1=>Ok.bind (cP h1.2.2 (by omega) (by omega)) fun q h2=>?_
    have:=h1.1; have:=h1.2.1; have:=h2.1; have:=h2.2.1
    rw [pm (by omega) (by omega)]
    unfold ml
    refine Ok.cond (fun e=>Ok.bind (cP h2.2.2 (by omega) (by omega)) fun p h3=>Ok.get h3.1 (by simpa using h3.2.1) fun v _ hv=>?_) (fun e=>?_)
    · refine Ga h hl hb h3.2.2 (fun _=>⟨rfl,?_⟩) (fun e2=>by rw [e] at e2; cases e2)
      simp only [List.mem_cons,List.not_mem_nil,or_false] at hv
      omega
    · exact Ga h hl hb h2.2.2 (fun e2=>by rw [e] at e2; cases e2) (fun _=>⟨by omega,by omega,by omega,by omega⟩)
  have hr:=nX h
  unfold yG
  rw [hr]
  cases e:l[n].Ring with
  | true=>rw [e] at h14; simp only [Bool.not_true,cond_false,if_true]; exact h14 ⟨by omega,by omega⟩
  | false=>rw [e] at h14 hr; rw [tV hr]; simp only [Bool.not_false,cond_true]; exact h14 ⟨by omega,by omega⟩
theorem Cf {l:List aK} {n:Nat} {r:aK} (h:n < l.length) (e:r.Ring=l[n].Ring):bk (l.set n r)=bk l:=by
  unfold bk
  rw [List.map_set,e]
  apply List.ext_getElem (by simp)
  intro j h1 h2
  by_cases hj:n=j
  · subst hj; simp
  · simp [hj]
theorem DH {d:List Int} {i:Int} (hd:bM d i):Ok (o0 ⟨d,i⟩) fun y=>bz y.1∧bM y.2.L y.2.At:=by
  unfold o0
  refine Ok.bind (cP hd (by omega) (by omega)) fun r h1=>?_
  have:=h1.1; have:=h1.2.1
  rw [pm (by omega) (by omega)]
  refine Ok.loop (fun k s=>s.1.length=k∧s.2.1=2 + r.1 - k∧bM s.2.2.1 s.2.2.2) (fun q=>2≤q.1.length∧q.1.length≤8∧bM q.2.1 q.2.2) (2 + r.1).toNat ⟨rfl,by simp,h1.2.2⟩ (fun k s hk hI=>?_) (fun q hq=>?_)
  · obtain⟨e1,e2,e3⟩:=hI
    unfold mm
    refine Ok.cond (fun e=>Ok.bind (cP e3 (by omega) (by omega)) fun q h2=>Ok.gd (dv (by simp; omega)) (Ok.ret ?_)) (fun e=>Ok.ret ?_)
    · have e:(0:Int) < s.2.1:=by simpa using e
      exact⟨by omega,by simp [e1],by dsimp only; rw [pm (by omega) (by omega)]; omega,h2.2.2⟩
    · have e:¬ (0:Int) < s.2.1:=by simpa using e
      exact⟨by dsimp only; omega,by dsimp only; omega,e3⟩
  · obtain⟨q1,q2,q3⟩:=hq
    unfold ju
    refine Ok.loop (fun k s=>s.1.length=q.1.length∧s.2.1=k∧bM s.2.2.1 s.2.2.2∧bk s.1=bk q.1∧∀ j r,j < k→s.1[j]? = some r→zX (yG (bk q.1) j) r) (fun p=>bz p.1∧bM p.2.1 p.2.2) q.1.length ⟨rfl,rfl,q3,rfl,fun j r h=>by omega⟩ (fun k s hk hI=>?_) (fun p hp=>?_)
    · obtain⟨e1,e2,e3,e4,e5⟩:=hI
      by_cases hz:k < q.1.length
      · have hz1:k < s.1.length:=by omega
        rw [e2]
        refine (Ji hz1 (by omega) e3 q.1 e1.symm).mono fun y hy=>?_
        cases y with
        | out q=>exact hy.elim
        | go s2 =>
          obtain⟨⟨x,g1,g2,g3⟩,g4,g5⟩:=hy
          refine⟨hz,by rw [g3]; simpa using e1,by rw [g4]; simp,g5,by rw [g3,Cf hz1 g2]; exact e4,fun j r hj hr=>?_⟩
          rw [g3] at hr
          by_cases hjk:k=j
          · subst hjk
            rw [List.getElem?_set_self hz1] at hr
            injection hr with hr; subst hr
            rw [e4] at g1; exact g1
          · rw [List.getElem?_set_ne hjk] at hr
            exact e5 j r (by omega) hr
      · unfold gO
        rw [show decide ((s.2.1:Int) < (q.1.length:Int))=false by simp; omega]
        refine Ok.ret ⟨⟨by simp only []; omega,by simp only []; omega,fun j r hr=>?_⟩,e3⟩
        rw [e4]
        exact e5 j r (by have:=(List.getElem?_eq_some_iff.1 hr).1; dsimp only at this; omega) hr
    · unfold kM
      exact Ok.ret hp
def Am (rs:List Bool) (i:Nat) (cell:Bool) (n:Int):Bool:=decide (0≤n) && cond cell (decide (n≤15)) (decide (n < (yG rs i:Int)))
theorem wd {l:List aK} {i:Nat} (h:i < l.length) (hl:l.length≤1000000) (x:cF) (n:Int):oF l (i:Int) x n=some (Am (bk l) i x.Cell n):=by
  unfold oF Am
  cases x.Cell with
  | true =>
    rw [cond_true,cond_true]
    cases decide (0≤n) <;> rfl
  | false =>
    rw [cond_false,cond_false,xw h hl,Option.bind_some]
    dsimp only
    have hr:=nX h
    rw [bB h,Option.bind_some]
    unfold yG
    rw [hr]
    cases hg:l[i].Ring with
    | true =>
      rw [if_pos rfl]
      unfold kg kf
      cases decide (0≤n) <;> rfl
    | false =>
      rw [hg] at hr
      rw [if_neg (by simp),tV hr]
      unfold kg kf
      cases decide (0≤n) <;> rfl
def Gp (rs:List Bool) (i:Nat) (ring first:Bool) (a:cF):Bool:=Am rs i a.Cell a.N && cond a.Pick (!ring && !first && Am rs i a.Cell a.Else) ((a.Else:Int) == 0)
theorem vV {ρ:Type} {B:Int→Option (Fl Int ρ)} (n:Nat) (p:Nat→Bool) {y r:ρ} (hgo:∀ k,k < n→p k=false→B (k:Int)=some (.go ((k + 1:Nat):Int))) (hy:∀ k,k < n→p k=true→B (k:Int)=some (.out y)) (hn:B (n:Int)=some (.out r)):loop B 0=some (if (List.range n).any p then y else r):=by
  have hx:∀ (k x:Nat),(List.range n)[k]? = some x→x=k∧k < n:=fun k x h=>by
    have hk:=aY h
    simp only [List.length_range] at hk
    rw [List.getElem?_range hk] at h
    exact⟨(Option.some.inj h).symm,hk⟩
  refine zj (xs:=List.range n) p (fun k=>(k:Int)) rfl (fun k x h hp=>?_) (fun k x h hp=>?_) (by simpa using hn)
  · obtain⟨rfl,hk⟩:=hx k x h
    exact hgo _ hk hp
  · obtain⟨rfl,hk⟩:=hx k x h
    exact hy _ hk hp
def BC (rs:List Bool) (i:Nat) (r:aK) (k:Nat):Bool:=match r.Asks[k]? with
  | some a=>!Gp rs i r.Ring (((k:Nat):Int) == 0) a
  | none=>false
def xb (rs:List Bool) (i:Nat) (r:aK):Bool:=!((List.range r.Asks.length).any (BC rs i r))
def Bl (rs:List Bool) (i:Nat) (r:aK) (low high most:Int):Bool:=!decide ((6:Int) < (r.Asks.length:Int)) && !decide (r.Final < low) && !decide (high < r.Final) && !decide (r.C < 0) && !decide (most < r.C) && xb rs i r
def Bk (rs:List Bool) (i:Nat) (r:aK):Bool:=cond r.Ring (Bl rs i r 5 5 65535) (Bl rs i r 1 4 999)
def JI (l:List aK):Prop:=l.length≤1000∧∀ r ∈ l,r.Asks.length≤1000
theorem Dy {l:List aK} {i:Nat} (h:i < l.length) (hl:JI l):loop (fun s:Int=>ei l (i:Int) l[i] s) 0=some (cond (xb (bk l) i l[i]) (Fl.go ()) (Fl.out false)):=by
  have hA:=hl.2 _ (List.getElem_mem h)
  have hB:=hl.1
  have hstep:∀ k,(hk:k < l[i].Asks.length)→ei l (i:Int) l[i] (k:Int)=some (cond (BC (bk l) i l[i] k) (.out (.out false)) (.go ((k + 1:Nat):Int))):=fun k hk=>by
    unfold BC
    rw [List.getElem?_eq_getElem hk]
    dsimp only
    unfold ei Gp dC
    rw [dlt hk,cond_true,bB hk,Option.bind_some,wd h (by omega),wd h (by omega),cB (by omega)]
    simp only [Option.bind_some,bne]
    generalize (((k:Nat):Int) == 0)=f
    generalize ((l[i].Asks[k].Else:Int) == 0)=z
    generalize Am (bk l) i l[i].Asks[k].Cell l[i].Asks[k].N=m1
    generalize Am (bk l) i l[i].Asks[k].Cell l[i].Asks[k].Else=m2
    generalize l[i].Asks[k].Pick=pk
    generalize l[i].Ring=rg
    cases pk <;> cases rg <;> cases f <;> cases m1 <;> cases m2 <;> cases z <;> rfl
  have e:=vV (B:=fun s:Int=>ei l (i:Int) l[i] s) l[i].Asks.length (BC (bk l) i l[i]) (y:=Fl.out false) (r:=Fl.go ()) (fun k hk hp=>by rw [hstep k hk,hp]; rfl) (fun k hk hp=>by rw [hstep k hk,hp]; rfl) (by unfold ei; rw [bA]; rfl)
  rw [e]
  unfold xb
  cases (List.range l[i].Asks.length).any (BC (bk l) i l[i]) <;> rfl
def BD (l:List aK) (k:Nat):Bool:=match l[k]? with
  | some r=>!Bk (bk l) k r
  | none=>false
def yz (l:List aK):Bool:=decide ((l.length:Int)≤24) && !((List.range l.length).any (BD l))
theorem Cc {l:List aK} (hl:JI l):nN l=some (yz l):=by
  have hB:=hl.1
  unfold nN yz
  have hstep:∀ k,(hk:k < l.length)→fB l (k:Int)=some (cond (BD l k) (.out (.out false)) (.go ((k + 1:Nat):Int))):=fun k hk=>by
    have hj:fA (k:Int) l[k]=some (cond ((cond l[k].Ring (!decide (l[k].Final < 5) && !decide (5 < l[k].Final) && !decide (l[k].C < 0) && !decide (65535 < l[k].C)) (!decide (l[k].Final < 1) && !decide (4 < l[k].Final) && !decide (l[k].C < 0) && !decide (999 < l[k].C)))) (.go ((k + 1:Nat):Int)) (.out (.out false))):=by
      unfold fA cL mw
      rw [cB (by omega)]
      cases hrg:l[k].Ring
      · cases decide (l[k].Final < 1) <;> cases decide (4 < l[k].Final) <;> cases decide (l[k].C < 0) <;> cases decide (999 < l[k].C) <;> rfl
      · by_cases h5:l[k].Final=5
        · rw [show ((l[k].Final:Int) != 5)=false by simp [h5],decide_eq_false (show ¬ l[k].Final < 5 by omega),decide_eq_false (show ¬ 5 < l[k].Final by omega)]
          cases decide (l[k].C < 0) <;> cases decide (65535 < l[k].C) <;> rfl
        · rw [show ((l[k].Final:Int) != 5)=true by simp [h5]]
          rcases (show l[k].Final < 5∨5 < l[k].Final by omega) with h | h
          · rw [decide_eq_true h]; rfl
          · rw [decide_eq_true h]; simp
    unfold BD
    rw [List.getElem?_eq_getElem hk]
    dsimp only
    unfold fB Bk Bl
    rw [dlt hk,cond_true,bB hk,Option.bind_some,Dy hk hl,Option.bind_some]
    have hel:∀ z:Bool,(cond z (Fl.go ()) (Fl.out false):Fl Unit Bool).el (fun s=>fA (k:Int) l[k]) (fun y=>some (.out (.out y)))=cond z (fA (k:Int) l[k]) (some (.out (.out false))):=fun z=>by cases z <;> rfl
    rw [hel,hj]
    generalize xb (bk l) k l[k]=z
    generalize decide ((6:Int) < (l[k].Asks.length:Int))=d6
    cases l[k].Ring
    · simp only [cond_false]
      generalize decide (l[k].Final < 1)=d1
      generalize decide (4 < l[k].Final)=d2
      generalize decide (l[k].C < 0)=d3
      generalize decide (999 < l[k].C)=d4
      cases z <;> cases d6 <;> cases d1 <;> cases d2 <;> cases d3 <;> cases d4 <;> rfl
    · simp only [cond_true]
      generalize decide (l[k].Final < 5)=d1
      generalize decide (5 < l[k].Final)=d2
      generalize decide (l[k].C < 0)=d3
      generalize decide (65535 < l[k].C)=d4
      cases z <;> cases d6 <;> cases d1 <;> cases d2 <;> cases d3 <;> cases d4 <;> rfl
  rw [vV (B:=fun s:Int=>fB l s) l.length (BD l) (y:=Fl.out false) (r:=Fl.go ()) (fun k hk hp=>by rw [hstep k hk,hp]; rfl) (fun k hk hp=>by rw [hstep k hk,hp]; rfl) (by unfold fB; rw [bA]; rfl)]
  unfold mr
  cases (List.range l.length).any (BD l) <;> simp [Fl.el]
theorem Al {l:List aK} (h:bz l):yz l=true:=by
  unfold yz
  have h8:=h.high
  rw [decide_eq_true (by omega),Bool.true_and,Bool.not_eq_true',List.any_eq_false]
  intro i hi
  have hi:=List.mem_range.1 hi
  unfold BD
  have hg:=List.getElem?_eq_getElem hi
  rw [hg]
  dsimp only
  have hR:=h.each i l[i] hg
  have ha:xb (bk l) i l[i]=true:=by
    unfold xb
    rw [Bool.not_eq_true',List.any_eq_false]
    intro k hk
    have hk:=List.mem_range.1 hk
    unfold BC
    have hka:=List.getElem?_eq_getElem hk
    rw [hka]
    dsimp only
    have hA:=hR.each k _ hka
    generalize l[i].Asks[k]=a at hA
    unfold Gp Am
    have hn:=hA.low
    have he:=hA.low2
    rw [decide_eq_true hn,decide_eq_true he,Bool.true_and,Bool.true_and]
    have c1:cond a.Cell (decide (a.N≤15)) (decide (a.N < (yG (bk l) i:Int)))=true:=by
      cases hc:a.Cell
      · exact decide_eq_true (hA.rule hc)
      · have:=hA.cell hc
        exact decide_eq_true (by omega)
    have c2:cond a.Cell (decide (a.Else≤15)) (decide (a.Else < (yG (bk l) i:Int)))=true:=by
      cases hc:a.Cell
      · exact decide_eq_true (hA.rule2 hc)
      · have:=hA.cell2 hc
        exact decide_eq_true (by omega)
    rw [c1,c2,Bool.true_and]
    cases hp:a.Pick
    · rw [hA.none hp]; simp
    · obtain⟨p1,p2⟩:=hA.pick hp
      rw [p1,show (((k:Nat):Int) == 0)=false by simp; omega]; simp
  have hb:Bk (bk l) i l[i]=true:=by
    have hl:=hR.asks
    unfold Bk Bl
    rw [ha,decide_eq_false (show ¬ (6:Int) < (l[i].Asks.length:Int) by omega)]
    cases hr:l[i].Ring
    · obtain⟨q1,q2,q3,q4⟩:=hR.plain hr
      rw [cond_false,decide_eq_false (show ¬ l[i].Final < 1 by omega),decide_eq_false (show ¬ 4 < l[i].Final by omega),decide_eq_false (show ¬ l[i].C < 0 by omega),decide_eq_false (show ¬ 999 < l[i].C by omega)]; rfl
    · obtain⟨q1,q2,q3⟩:=hR.ring hr
      rw [cond_true,decide_eq_false (show ¬ l[i].Final < 5 by omega),decide_eq_false (show ¬ 5 < l[i].Final by omega),decide_eq_false (show ¬ l[i].C < 0 by omega),decide_eq_false (show ¬ 65535 < l[i].C by omega)]; rfl
  rw [hb]; decide
theorem bz.bnd {l:List aK} (h:bz l):JI l:=⟨by have:=h.high; omega,fun r hr=>by
  obtain⟨i,hi⟩:=List.mem_iff_getElem?.1 hr
  have:=(h.each i r hi).asks; omega⟩
end
section
set_option maxRecDepth 100000
set_option maxHeartbeats 4000000
open Go.RowKit
noncomputable section
def kz:Option Bool:=some (true)
def bO (e:LO) (c:Int) (b:bf) (d:Bool):Option (Fl (LO×Int) (Fl (Unit) Bool)):=cond d (some (.out (.out false))) (some (.go ((cT aC b.Key true e),IntKind.i64.wrap (c + 1))))
def eR (e:ai) (d:LO) (c:Int) (b:bf) (g:(an×Bool)) (f:Bool):Option (Fl (LO×Int) (Fl (Unit) Bool)):=cond b.Running (cond ((b.At:Int) != 0) (bO d c b true) (bO d c b false)) (cond (!(g.2)) (cond ((b.At:Int) != 0) (bO d c b true) (cond (decide ((0:Int) < (b.Reads.length:Int))) (bO d c b true) (cond f ((kV e.Records e.Revision b.Key).bind fun h=>(ge e.Records h).bind fun i=>bO d c b (decide ((i.length:Int) < b.At))) (bO d c b false)))) (cond (decide ((0:Int) < (b.Reads.length:Int))) (bO d c b true) (cond f ((kV e.Records e.Revision b.Key).bind fun j=>(ge e.Records j).bind fun k=>bO d c b (decide ((k.length:Int) < b.At))) (bO d c b false))))
def kA (g:LU) (f:ai) (h:LF) (e:LO) (d:Int):Option (Fl (LO×Int) (Fl (Unit) Bool)):=cond (decide ((d:Int) < (h.length:Int))) ((be h d).bind fun b=>(some ((bQ aC b.Key e).getD false)).bind fun i=>cond i (some (.out (.out false))) ((ce b.Key).bind fun j=>cond j (some (.out (.out false))) ((lU g b.Key).bind fun k=>cond (!(k)) (some (.out (.out false))) (cond ((b.Reads.length:Int) != (b.Answers.length:Int)) (some (.out (.out false))) (cond (decide ((b.At:Int) < 0)) (some (.out (.out false))) ((cn f.Records b.Key).bind fun c=>cond c.2 (cond (!(c.1.Dirty)) (eR f e d b c (decide ((c.1.Verified:Int) < f.Revision))) (eR f e d b c false)) (eR f e d b c false))))))) (some (.out (.go ())))
def gV (b:LU) (c:ai) (d:LF):Option Bool:=(loop (fun s:LO×Int=>kA b c d s.1 s.2) (([]:LO),0)).bind fun r=>Fl.el r (fun s=>kz) (fun y=>some (y))
theorem sV (T:Nat→Prop) (W0:World) (hT:TW T W0) (hLv:cU T W0) (e:LU) (b:ai) (h:LF) (m:Value) (n:Value) (o:Value) (p:Value) (bs:aA ay T W0 m e) (bt:aA ad T W0 n b.Inputs) (c0:aA aa T W0 o b.Records) (c1:aA ar T W0 p h) (y:Bool) (hM:gV e b h=some y):aW Tryz.prog No 123 [m,.agg (aQ b n o).toArray,p] W0 (fun v w'=>v = .bool y):=by
 refine en Tryz.func123 Tryz.ntmps123 hT fun a hS=>?_;replace hS:=((((hS.fact bv (cU.dn hLv)).fS (aA.dn bs)).fS (aA.dn bt)).fS (aA.dn c0)).fS (aA.dn c1);unfold gV at hM;refine ah hS fun a hS=>?_;refine kb hS fun j ch a w hk hS=>?_;refine ah hS fun a hS=>?_;refine wl rfl (ol ac true aN.bool false hS rfl fun k ck a w hk hS=>?_);refine ah hS fun a hS=>?_;refine aG (J:=fun a w=>St W0 No T 121 [] [] [bv] a w∧kz=some y) ?_ ?_
 ·skip;refine ah hS fun a hS=>?_;obtain⟨r1,bl,hMo1⟩:=bd hM;refine bu _ (fun s a w=>∃ (g:LO) (f:Int) (q:AM) (A:Nat),(g,f)=s∧St W0 No T 121 [(0,m),(4,pt j 0),(7,.map (some k)),(14,p),(15,.int .i64 (h.length:Int)),(16,.int .i64 f)] [om k q A,.box j (aQ b n o) 31] [aJ ay m e,sx q g,aJ ar p h,aJ ad n b.Inputs,aJ aa o b.Records,bv] a w) bl ⟨_,_,_,_,rfl,hS.mt [0,1] [4,0,1,3,2,5]⟩ ?_;rintro s a w f1 ⟨g,f,q,A,rfl,hS⟩ hM hf1;have hM:kA e b h g f=some f1:=hM;unfold kA at hM;refine ah hS fun a hS=>?_;refine az ?_;rcases cd hM with⟨ab,hM⟩|⟨ab,hM⟩
  ·refine ah hS fun a hS=>?_;refine az ?_;refine ah hS fun a hS=>?_;obtain⟨d,S,hM⟩:=bd hM;refine wl rfl (bc (R:=ar) hS wv rJ rfl rfl 2 rfl S rfl fun c2 cs c4 af a hS=>?_);obtain⟨P,Q,rfl,a2,a3⟩:=af;replace hS:=(hS.fS a2).fS a3;refine ah hS fun a hS=>?_;refine ka hS qo fun z cl a w hk hS=>?_;refine go hS fun a w hS=>?_;refine az ?_;refine jV ?_;refine ah hS fun a hS=>?_;obtain⟨b9,Z,hM⟩:=bd hM;obtain⟨c5,ag,ak⟩:=dO hS sw cc 1 rfl 4 rfl (c:=(aM d.Key)) (key:=d.Key) rfl H1 (zc:=[.bool false]) rfl rfl Z;obtain rfl:=ag;refine wl rfl (ky (v:=.bool b9) hS (ak rfl rfl id) rfl rfl fun a hS=>?_);refine ah hS fun a hS=>?_;rcases cd hM with⟨C,hM⟩|⟨C,hM⟩
   ·exact fz
   refine ah hS fun a hS=>?_;obtain⟨d2,a0,hM⟩:=bd hM;refine wg hS rfl rfl rfl C (a8 hS vq rfl rfl (c8 _ _ hS.dlt d.Key _ a0) fun _ w hR a hk hA=>?_);obtain rfl:=hR;have hS:=bV hA;refine ah hS fun a hS=>?_;rcases cd hM with⟨D,hM⟩|⟨D,hM⟩
   ·exact fz
   refine ah hS fun a hS=>?_;obtain⟨d3,a1,hM⟩:=bd hM;refine wg hS rfl rfl rfl D (a8 hS FN rfl rfl (sD _ _ hS.dlt (hS.get 8 rfl) e d.Key _ (hS.get 3 rfl) _ a1) fun _ w hR a hk hA=>?_);obtain rfl:=hR;have hS:=bV hA;refine ah hS fun a hS=>?_;rcases cd hM with⟨ao,hM⟩|⟨ao,hM⟩
   ·exact fz
   refine ah hS fun a hS=>?_;rcases cd hM with⟨av,hM⟩|⟨av,hM⟩
   ·exact fz
   refine ah hS fun a hS=>?_;rcases cd hM with⟨ax,hM⟩|⟨ax,hM⟩
   ·exact fz
   refine ah hS fun a hS=>?_;refine wl rfl (ub hS sw cc 1 rfl 4 rfl (c:=(aM d.Key)) (cv:=[.bool true]) (key:=d.Key) (val:=true) rfl rfl rfl rfl rfl fun l B w hk hS=>?_);refine ah hS fun a hS=>?_;obtain⟨O,U,hM⟩:=bd hM;refine kc hS kD (bI _ _ hS.dlt b.Records d.Key _ (hS.get 8 rfl) _ U) fun _ w hR a hk hA=>?_;obtain⟨d4,c9,he,I⟩:=hR;obtain rfl:=he.symm;have hS:=oI hA I;refine ah hS fun a hS=>?_;refine ka hS ft fun c3 co a w hk hS=>?_;refine go hS fun a w hS=>?_;refine aG (J:=fun a w=>∃ (x:Bool),St W0 No T 121 [(0,m),(4,pt j 0),(7,.map (some k)),(9,pt z 0),(11,.bool O.2),(12,.bool x),(14,p),(15,.int .i64 (h.length:Int)),(16,.int .i64 f)] [om k l B,.box j (aQ b n o) 31,.box z (kr d P Q) 131] [aJ ay m e,sx l (cT aC d.Key true g),aJ ar p h,aJ ad n b.Inputs,aJ aa o b.Records,aJ ac P d.Reads,aJ aN.str Q d.Answers,bv] a w∧eR b g f d O x=some f1) ?_ ?_
   ·exact fz
   rintro a w ⟨x,hS,hM⟩;unfold eR at hM;refine aG (J:=fun a w=>∃ (r:Bool),St W0 No T 121 [(0,m),(4,pt j 0),(7,.map (some k)),(14,p),(15,.int .i64 (h.length:Int)),(16,.int .i64 f),(119,.bool r)] [om k l B,.box j (aQ b n o) 31] [aJ ay m e,sx l (cT aC d.Key true g),aJ ar p h,aJ ad n b.Inputs,aJ aa o b.Records,bv] a w∧bO g f d r=some f1) ?_ ?_
   ·skip;refine dr [] hS fun w hQ hS=>?_;refine gE [0,1,2] hS fun a hS=>?_;rcases cd hM with⟨b0,hM⟩|⟨b0,hM⟩
    ·refine gE [3,4,5,6,7,8,9,10,11] hS fun a hS=>?_;rcases cd hM with⟨b1,hM⟩|⟨b1,hM⟩
     ·refine gE [12,13,14,15,16,17,18,19,20,21,22,23,24,25,26,27,28,29,30,31,32,33,34,35,36,37,38,39,40,41,42,43,44,45] hS fun a hS=>?_;refine eD ?_;exact⟨_,hS.mt [0,1] [0,1,2,3,4,7],hM⟩
     refine gE [12,13,14,15,16,17,18,19,20,21,22,23,24,25,26,27,28,29,30,31,32,33,34,35,36,37,38,39,40,41,42,43,44,45] hS fun a hS=>?_;refine eD ?_;exact⟨_,hS.mt [0,1] [0,1,2,3,4,7],hM⟩
    refine gE [3,4,5,6] hS fun a hS=>?_;rcases cd hM with⟨b2,hM⟩|⟨b2,hM⟩
    ·refine gE [7,8,9,10,11] hS fun a hS=>?_;rcases cd hM with⟨b3,hM⟩|⟨b3,hM⟩
     ·refine gE [12,13,14,15,16,17,18,19,20,21,22,23,24,25,26,27,28,29,30,31,32,33,34,35,36,37,38,39,40,41,42,43,44,45] hS fun a hS=>?_;refine eD ?_;exact⟨_,hS.mt [0,1] [0,1,2,3,4,7],hM⟩
     refine gE [12,13,14,15,16,17,18,19,20,21,22] hS fun a hS=>?_;rcases cd hM with⟨b4,hM⟩|⟨b4,hM⟩
     ·refine gE [23,24,25,26,27,28,29,30,31,32,33,34,35,36,37,38,39,40,41,42,43,44,45] hS fun a hS=>?_;refine eD ?_;exact⟨_,hS.mt [0,1] [0,1,2,3,4,7],hM⟩
     refine gE [23,24,25,26,27,28,29] hS fun a hS=>?_;rcases cd hM with⟨t,hM⟩|⟨t,hM⟩
     ·refine gE [30,31,32,33,34,35,36,37,38,39] hS fun a hS=>?_;obtain⟨b6,V,hM⟩:=bd hM;refine cy (i:=40) rfl (by kernel_rfl) hS rfl rfl rfl t (a8 hS A0 rfl rfl (qE _ _ hS.dlt (hS.get 7 rfl) b.Records b.Revision d.Key _ (hS.get 4 rfl) _ V) fun _ w hR a hk hA=>⟨fc (hk),?_⟩);obtain⟨d6,ca,he,K⟩:=hR;obtain rfl:=he.symm;have hS:=oI hA K;have hL:=hS;replace hL:=hL.freeze (R:=ac) 0 rfl 0 rfl;obtain⟨d0,W,hM⟩:=bd hM;refine cy (i:=41) rfl (by kernel_rfl) hS rfl rfl rfl t (a8 hS AZ rfl rfl (mA _ _ hL.dlt b.Records b6 _ _ (hL.get 6 rfl) (hL.get 0 rfl) _ W) fun _ w hR a hk hA=>⟨fc (hk),?_⟩);obtain⟨bb,a4,he,⟨G,E,L⟩⟩:=hR;obtain rfl:=he.symm;have hS:=hA [lf bb a4] (eA ⟨G,by decide⟩ E) (ro _);replace hS:=hS.fR L;refine gE [42,43,44,45] hS fun a hS=>?_;refine eD ?_;exact⟨_,hS.mt [2,3] [2,3,4,5,6,9],hM⟩
     refine gE [30,31,32,33,34,35,36,37,38,39,40,41,42,43,44,45] hS fun a hS=>?_;refine eD ?_;exact⟨_,hS.mt [0,1] [0,1,2,3,4,7],hM⟩
    refine gE [7,8,9,10,11,12,13,14,15,16,17,18,19,20,21,22] hS fun a hS=>?_;rcases cd hM with⟨b5,hM⟩|⟨b5,hM⟩
    ·refine gE [23,24,25,26,27,28,29,30,31,32,33,34,35,36,37,38,39,40,41,42,43,44,45] hS fun a hS=>?_;refine eD ?_;exact⟨_,hS.mt [0,1] [0,1,2,3,4,7],hM⟩
    refine gE [23,24,25,26,27,28,29] hS fun a hS=>?_;rcases cd hM with⟨u,hM⟩|⟨u,hM⟩
    ·refine gE [30,31,32,33,34,35,36,37,38,39] hS fun a hS=>?_;obtain⟨b8,X,hM⟩:=bd hM;refine cy (i:=40) rfl (by kernel_rfl) hS rfl rfl rfl u (a8 hS A0 rfl rfl (qE _ _ hS.dlt (hS.get 7 rfl) b.Records b.Revision d.Key _ (hS.get 4 rfl) _ X) fun _ w hR a hk hA=>⟨fc (hk),?_⟩);obtain⟨da,cb,he,M⟩:=hR;obtain rfl:=he.symm;have hS:=oI hA M;have hL:=hS;replace hL:=hL.freeze (R:=ac) 0 rfl 0 rfl;obtain⟨d1,Y,hM⟩:=bd hM;refine cy (i:=41) rfl (by kernel_rfl) hS rfl rfl rfl u (a8 hS AZ rfl rfl (mA _ _ hL.dlt b.Records b8 _ _ (hL.get 6 rfl) (hL.get 0 rfl) _ Y) fun _ w hR a hk hA=>⟨fc (hk),?_⟩);obtain⟨bi,a5,he,⟨H,F,N⟩⟩:=hR;obtain rfl:=he.symm;have hS:=hA [lf bi a5] (eA ⟨H,by decide⟩ F) (ro _);replace hS:=hS.fR N;refine gE [42,43,44,45] hS fun a hS=>?_;refine eD ?_;exact⟨_,hS.mt [2,3] [2,3,4,5,6,9],hM⟩
    refine gE [30,31,32,33,34,35,36,37,38,39,40,41,42,43,44,45] hS fun a hS=>?_;refine eD ?_;exact⟨_,hS.mt [0,1] [0,1,2,3,4,7],hM⟩
   rintro a w ⟨r,hS,hM⟩;unfold bO at hM;exact fz
  exact fz
 rintro a w ⟨hS,hM⟩;unfold kz at hM;exact fz
def mE (b:Bool):Option Bool:=some (b)
def nT (b:cG):Option Bool:=(jO b.Rules b.Base b.Goals).bind fun c=>cond ((c:Int) == 0) ((gV b.Rules b.Base b.Stack).bind fun d=>mE d) (mE false)
theorem wX (T:Nat→Prop) (W0:World) (hT:TW T W0) (hLv:cU T W0) (b:cG) (m:Value) (n:Value) (o:Value) (p:Value) (q:Value) (r:Value) (g:aA ay T W0 m b.Rules) (h:aA ad T W0 n b.Base.Inputs) (i:aA aa T W0 o b.Base.Records) (j:aA ac T W0 p b.Goals) (k:aA ar T W0 q b.Stack) (l:aA ac T W0 r b.Ran) (y:Bool) (hM:nT b=some y):aW Tryz.prog No 87 [.agg (sr b m n o p q r).toArray] W0 (fun v w'=>v = .bool y):=by
 refine en Tryz.func87 Tryz.ntmps87 hT fun a hS=>?_;replace hS:=((((((hS.fact bv (cU.dn hLv)).fS (aA.dn g)).fS (aA.dn h)).fS (aA.dn i)).fS (aA.dn j)).fS (aA.dn k)).fS (aA.dn l);unfold nT at hM;refine ah hS fun a hS=>?_;refine kb hS fun s t a w hk hS=>?_;refine ah hS fun a hS=>?_;refine aG (J:=fun a w=>∃ (c:Bool),St W0 No T 20 [(2,.bool c)] [] [bv] a w∧mE c=some y) ?_ ?_
 ·skip;refine ah hS fun a hS=>?_;obtain⟨u,e,hM⟩:=bd hM;refine kc hS Gz (pM _ _ hS.dlt (hS.get 6 rfl) b.Rules b.Base b.Goals _ _ _ _ (hS.get 5 rfl) (hS.get 4 rfl) (hS.get 3 rfl) (hS.get 2 rfl) _ e) fun _ w hR a hk hA=>?_;obtain rfl:=hR;have hS:=bV hA;refine ah hS fun a hS=>?_;rcases cd hM with⟨d,hM⟩|⟨d,hM⟩
  ·refine ah hS fun a hS=>?_;obtain⟨x,f,hM⟩:=bd hM;refine wg hS rfl rfl rfl d (a8 hS Ik rfl rfl (sV _ _ hS.dlt (hS.get 6 rfl) b.Rules b.Base b.Stack _ _ _ _ (hS.get 5 rfl) (hS.get 4 rfl) (hS.get 3 rfl) (hS.get 1 rfl) _ f) fun _ w hR a hk hA=>?_);obtain rfl:=hR;have hS:=bV hA;exact fz
  exact fz
 rintro a w ⟨c,hS,hM⟩;unfold mE at hM;exact fz
def r6 (b:LU) (c:ai):Option al:=some ((al.mk b c ([]:LB) ([]:LL)))
theorem ry (T:Nat→Prop) (W0:World) (hT:TW T W0) (k:LU) (j:ai) (q:Value) (r:Value) (s:Value) (hD:vd T W0 []) (u:aA ay (dT T []) W0 q k) (x:aA ad (dT T []) W0 r j.Inputs) (z:aA aa (dT T []) W0 s j.Records) (y:al) (hM:r6 k j=some y):aW Tryz.prog (MD []) 88 [q,.agg (aQ j r s).toArray] W0 (fun v w'=>∃ (d:Nat) (n:Value) (o:Value) (p:Value) (h:Nat) (i:Array MapEntry) (f:Nat) (b:Nat) (e:Array MapEntry) (g:Nat),v=pt d 0∧aA ay (dT T [xS d n y.Base.Revision o p h b,om h i f,om b e g]) w' n y.Rules∧aA ad (dT T [xS d n y.Base.Revision o p h b,om h i f,om b e g]) w' o y.Base.Inputs∧aA aa (dT T [xS d n y.Base.Revision o p h b,om h i f,om b e g]) w' p y.Base.Records∧bx ac true aN.str false (dT T [xS d n y.Base.Revision o p h b,om h i f,om b e g]) w' i y.Memo∧bx ac true (aN.slice ac) false (dT T [xS d n y.Base.Revision o p h b,om h i f,om b e g]) w' e y.Seen∧n7 W0 w' [] [xS d n y.Base.Revision o p h b,om h i f,om b e g]):=by
 refine jp (c:=_) Tryz.func88 rfl T 11 Tryz.ntmps88 hT rfl hD fun a hS=>?_;replace hS:=((hS.fS u).fS x).fS z;unfold r6 at hM;refine ah hS fun a hS=>?_;refine kb hS fun A B a w hk hS=>?_;refine ah hS fun a hS=>?_;refine wl rfl (ol ac true aN.str false hS rfl fun l C a w hk hS=>?_);refine wl rfl (ol ac true (aN.slice ac) false hS rfl fun m D a w hk hS=>?_);refine qy hS (bj (ps:=[(0,.tmp 5),(1,.tmp 6),(2,.tmp 7),(3,.tmp 8)]) hS I9 JC rfl (us:=[[q],(aQ j r s),[.map (some l)],[.map (some m)]]) ⟨(ik (aA.one ((hS.get 4 rfl):aA ay _ _ _ _))),⟨rfl,⟨rfl,⟨rfl,trivial⟩⟩⟩⟩ (ws:=[q,.int .i64 j.Revision,r,s,.map (some l),.map (some m)]) rfl) fun a hS=>?_;refine kb hS fun t E a w hk hS=>?_;refine ah hS fun a hS=>?_;cases hM
 refine aE hS rfl (ap hS rfl aD) ?_;have hZ:=hS.sl [0,2,1] [4,3,2,1,0];exact⟨t,q,r,s,l,#[],0,m,#[],0,rfl,(hZ.get 0 rfl),(hZ.get 1 rfl),(hZ.get 2 rfl),(hZ.get 3 rfl),(hZ.get 4 rfl),hZ.dnew⟩
def rH:Option Bool:=some (false)
def pz (e:LF) (d:ae) (b:Int):Option (Fl (Int) (Fl (Unit) Bool)):=cond (decide ((b:Int) < (e.length:Int))) ((be e b).bind fun c=>cond ((c.Key.Kind:Int) == d.Kind && c.Key.Text.toList == d.Text.toList) (some (.out (.out true))) (some (.go (IntKind.i64.wrap (b + 1))))) (some (.out (.go ())))
def pc (c:LF) (b:ae):Option Bool:=(loop (fun s:Int=>pz c b s) 0).bind fun r=>Fl.el r (fun s=>rH) (fun y=>some (y))
theorem sU (T:Nat→Prop) (W0:World) (hT:TW T W0) (d:LF) (b:ae) (j:Value) (n:aA ar T W0 j d) (y:Bool) (hM:pc d b=some y):aW Tryz.prog No 151 [j,.agg (aM b).toArray] W0 (fun v w'=>v = .bool y):=by
 refine en Tryz.func151 Tryz.ntmps151 hT fun a hS=>?_;replace hS:=hS.fS (aA.dn n);unfold pc at hM;refine ah hS fun a hS=>?_;refine kb hS fun e t a w hk hS=>?_;refine ah hS fun a hS=>?_;refine aG (J:=fun a w=>St W0 No T 18 [] [] [] a w∧rH=some y) ?_ ?_
 ·skip;refine ah hS fun a hS=>?_;obtain⟨B,m,hMo1⟩:=bd hM;refine bu _ (fun s a w=>∃ (c:Int),c=s∧St W0 No T 18 [(3,pt e 0),(7,j),(8,.int .i64 (d.length:Int)),(9,.int .i64 c)] [.box e (aM b) 44] [aJ ar j d] a w) m ⟨_,rfl,hS.mt [0] [0]⟩ ?_;rintro s a w r ⟨c,rfl,hS⟩ hM hf1;have hM:pz d b c=some r:=hM;unfold pz at hM;refine ah hS fun a hS=>?_;refine az ?_;rcases cd hM with⟨k,hM⟩|⟨k,hM⟩
  ·refine ah hS fun a hS=>?_;refine az ?_;refine ah hS fun a hS=>?_;obtain⟨f,g,hM⟩:=bd hM;refine wl rfl (bc (R:=ar) hS wv rJ rfl rfl 0 rfl g rfl fun o x q l a hS=>?_);obtain⟨z,A,rfl,h,i⟩:=l;replace hS:=(hS.fS h).fS i;refine ah hS fun a hS=>?_;refine ka hS qo fun p u a w hk hS=>?_;refine go hS fun a w hS=>?_;refine wl rfl (ky (v:=.bool ((f.Key.Kind:Int) == b.Kind && f.Key.Text.toList == b.Text.toList)) hS (wP hS rfl rfl) rfl rfl fun a hS=>?_);exact fz
  exact fz
 rintro a w ⟨hS,hM⟩;unfold rH at hM;exact fz
def lx (b:Bool):Option Bool:=some (b)
def ko (d:ai) (g:LF) (b:ae):Option Bool:=(ce b).bind fun e=>cond e (some (false)) ((pc g b).bind fun f=>cond f (some (false)) ((cn d.Records b).bind fun c=>cond (!(c.2)) (lx true) (lx ((c.1.Verified:Int) != d.Revision))))
theorem rG (T:Nat→Prop) (W0:World) (hT:TW T W0) (b:ai) (g:LF) (c:ae) (o:Value) (p:Value) (q:Value) (l:aA ad T W0 o b.Inputs) (m:aA aa T W0 p b.Records) (n:aA ar T W0 q g) (y:Bool) (hM:ko b g c=some y):aW Tryz.prog No 124 [.agg (aQ b o p).toArray,q,.agg (aM c).toArray] W0 (fun v w'=>v = .bool y):=by
 refine en Tryz.func124 Tryz.ntmps124 hT fun a hS=>?_;replace hS:=((hS.fS (aA.dn l)).fS (aA.dn m)).fS (aA.dn n);unfold ko at hM;refine ah hS fun a hS=>?_;refine kb hS fun r x a w hk hS=>?_;refine kb hS fun s z a w hk hS=>?_;refine ah hS fun a hS=>?_;refine az ?_;refine jV ?_;refine ah hS fun a hS=>?_;obtain⟨B,h,hM⟩:=bd hM;refine kc hS vq (c8 _ _ hS.dlt c _ h) fun _ w hR a hk hA=>?_;obtain rfl:=hR;have hS:=bV hA;refine ah hS fun a hS=>?_;rcases cd hM with⟨e,hM⟩|⟨e,hM⟩
 ·exact fz
 refine ah hS fun a hS=>?_;obtain⟨C,i,hM⟩:=bd hM;refine wg hS rfl rfl rfl e (a8 hS CI rfl rfl (sU _ _ hS.dlt g c _ (hS.get 0 rfl) _ i) fun _ w hR a hk hA=>?_);obtain rfl:=hR;have hS:=bV hA;refine ah hS fun a hS=>?_;rcases cd hM with⟨k,hM⟩|⟨k,hM⟩
 ·exact fz
 refine ah hS fun a hS=>?_;obtain⟨D,j,hM⟩:=bd hM;refine kc hS kD (bI _ _ hS.dlt b.Records c _ (hS.get 1 rfl) _ j) fun _ w hR a hk hA=>?_;obtain⟨E,u,he,f⟩:=hR;obtain rfl:=he.symm;have hS:=oI hA f;refine ah hS fun a hS=>?_;refine ka hS ft fun t A a w hk hS=>?_;refine go hS fun a w hS=>?_;refine aG (J:=fun a w=>∃ (d:Bool),St W0 No T 32 [(6,.bool d)] [] [] a w∧lx d=some y) ?_ ?_
 ·exact fz
 rintro a w ⟨d,hS,hM⟩;unfold lx at hM;exact fz
def lS (c:ByteArray):Option Int:=(iW c).bind fun b=>cond (decide ((b:Int) < 0)) (some (0)) (cond (decide ((65535:Int) < b)) (some (0)) (some (b)))
theorem sB (T:Nat→Prop) (W0:World) (hT:TW T W0) (b:ByteArray) (y:Int) (hM:lS b=some y):aW Tryz.prog No 200 [.string b] W0 (fun v w'=>v = .int .i64 y):=by
 refine en Tryz.func200 Tryz.ntmps200 hT fun a hS=>?_;unfold lS at hM;refine ah hS fun a hS=>?_;obtain⟨d,c,hM⟩:=bd hM;refine kc hS FM (qO _ _ hS.dlt b _ c) fun _ w hR a hk hA=>?_;obtain rfl:=hR;have hS:=bV hA;refine ah hS fun a hS=>?_;refine az ?_;refine jV ?_;exact fz
def jC (c:aK) (b:Int) (e:Int) (d:Int):Option Int:=cond ((c.Final:Int) == 1) (some (Int.tmod b 1000)) (cond ((c.Final:Int) == 2) (some (Int.tmod (IntKind.i64.wrap (Int.tdiv b 2)) 1000)) (cond ((c.Final:Int) == 3) (some (e)) (cond ((c.Final:Int) == 4) (some (Int.tmod b 2)) (some (d)))))
def gR (b:LY) (g:Int) (f:Int) (e:Int) (c:Int):Option (Fl (Int×Int×Int×Int) (Int×Int×Int)):=cond (decide ((c:Int) < (b.length:Int))) ((be b c).bind fun h=>(lS h).bind fun d=>some (.go (IntKind.i64.wrap (g + d),max f d,xX .or .i64 e d,IntKind.i64.wrap (c + 1)))) (some (.out (g,f,e)))
def nO (c:aK) (b:LY):Option Int:=(loop (fun s:Int×Int×Int×Int=>gR b s.1 s.2.1 s.2.2.1 s.2.2.2) (c.C,c.C,c.C,0)).bind fun r=>jC c r.1 r.2.1 r.2.2
theorem wU (T:Nat→Prop) (W0:World) (hT:TW T W0) (c:aK) (b:LY) (l:Value) (o:Value) (B:aA dN T W0 l c.Asks) (C:aA aN.str T W0 o b) (y:Int) (hM:nO c b=some y):aW Tryz.prog No 199 [.agg (so c l).toArray,o] W0 (fun v w'=>v = .int .i64 y):=by
 refine en Tryz.func199 Tryz.ntmps199 hT fun a hS=>?_;replace hS:=(hS.fS (aA.dn B)).fS (aA.dn C);unfold nO at hM;refine ah hS fun a hS=>?_;refine kb hS fun g G a w hk hS=>?_;refine ah hS fun a hS=>?_;refine az ?_;refine dr [] hS fun w hQ hS=>?_;refine gE [0,1,2,3,4,5,6,7,8] hS fun a hS=>?_;refine eD ?_;refine ah hS fun a hS=>?_;refine aG (J:=fun a w=>∃ (k:Int) (j:Int) (i:Int),St W0 No T 54 [(2,pt g 0),(5,.int .i64 k),(6,.int .i64 j),(7,.int .i64 i)] [.box g (so c l) 89] [aJ dN l c.Asks] a w∧jC c k j i=some y) ?_ ?_
 ·skip;refine ah hS fun a hS=>?_;obtain⟨K,A,hMo1⟩:=bd hM;refine bu _ (fun s a w=>∃ (f:Int) (e:Int) (d:Int) (h:Int),(f,e,d,h)=s∧St W0 No T 54 [(2,pt g 0),(5,.int .i64 f),(6,.int .i64 e),(7,.int .i64 d),(17,o),(18,.int .i64 (b.length:Int)),(19,.int .i64 h)] [.box g (so c l) 89] [aJ aN.str o b,aJ dN l c.Asks] a w) A ⟨_,_,_,_,rfl,hS.mt [0] [0,1]⟩ ?_;rintro s a w F ⟨f,e,d,h,rfl,hS⟩ hM hf1;have hM:gR b f e d h=some F:=hM;unfold gR at hM;refine ah hS fun a hS=>?_;refine az ?_;rcases cd hM with⟨q,hM⟩|⟨q,hM⟩
  ·refine ah hS fun a hS=>?_;refine az ?_;refine ah hS fun a hS=>?_;obtain⟨p,m,hM⟩:=bd hM;refine wl rfl (bc (R:=aN.str) hS DP Fq rfl rfl 0 rfl m rfl fun D H E r a hS=>?_);obtain rfl:=r;refine ah hS fun a hS=>?_;obtain⟨I,n,hM⟩:=bd hM;refine kc hS F1 (sB _ _ hS.dlt p _ n) fun _ w hR a hk hA=>?_;obtain rfl:=hR;have hS:=bV hA;refine ah hS fun a hS=>?_;refine qy hS (Jv hS rfl rfl) fun a hS=>?_;refine ah hS fun a hS=>?_;refine qy hS (HQ hS rfl rfl rfl) fun a hS=>?_;exact fz
  refine ah hS fun a hS=>?_;cases hM
  have hr:=hf1 _ rfl;subst hr;have hM:jC c f e d=some y:=hMo1;exact⟨_,_,_,hS.mt [0] [1],hM⟩
 rintro a w ⟨k,j,i,hS,hM⟩;unfold jC at hM;refine az ?_;refine ah hS fun a hS=>?_;rcases cd hM with⟨t,hM⟩|⟨t,hM⟩
 ·refine ah hS fun a hS=>?_;refine qy hS (xI hS rfl rfl (by decide)) fun a hS=>?_;exact fz
 refine ah hS fun a hS=>?_;rcases cd hM with⟨u,hM⟩|⟨u,hM⟩
 ·refine ah hS fun a hS=>?_;refine qy hS (Jz hS rfl rfl (by decide)) fun a hS=>?_;refine qy hS (xI hS rfl rfl (by decide)) fun a hS=>?_;exact fz
 refine ah hS fun a hS=>?_;rcases cd hM with⟨x,hM⟩|⟨x,hM⟩
 ·exact fz
 refine ah hS fun a hS=>?_;rcases cd hM with⟨z,hM⟩|⟨z,hM⟩
 ·refine ah hS fun a hS=>?_;refine qy hS (xI hS rfl rfl (by decide)) fun a hS=>?_;exact fz
 exact fz
def iX (c:LU) (d:cF) (b:Int):Option nE:=cond d.Cell ((cW b).bind fun e=>some ((nE.mk false (ByteArray.mk #[]) e))) ((jx c b).bind fun f=>some ((nE.mk false (ByteArray.mk #[]) f)))
def iY (c:LU) (b:cF) (d:Bool):Option nE:=cond d (iX c b b.Else) (iX c b b.N)
def fy (c:LU) (g:ae) (b:LY):Option nE:=(f7 g).bind fun f=>cond (decide ((f:Int) < 0)) (some ((nE.mk true (ByteArray.mk #[]) (ae.mk 0 (ByteArray.mk #[]))))) (cond (decide ((c.length:Int)≤f)) (some ((nE.mk true (ByteArray.mk #[]) (ae.mk 0 (ByteArray.mk #[]))))) ((jx c f).bind fun h=>cond (!((h.Kind:Int) == g.Kind && h.Text.toList == g.Text.toList)) (some ((nE.mk true (ByteArray.mk #[]) (ae.mk 0 (ByteArray.mk #[]))))) ((be c f).bind fun e=>cond (decide ((e.Asks.length:Int)≤(b.length:Int))) ((oz b 0 (e.Asks.length:Int)).bind fun j=>(nO e j).bind fun k=>(uI k).bind fun l=>some ((nE.mk true l (ae.mk 0 (ByteArray.mk #[]))))) ((be e.Asks (b.length:Int)).bind fun d=>cond d.Pick (cond ((b.length:Int) == 0) (iY c d true) ((be b (IntKind.i64.wrap ((b.length:Int) - 1))).bind fun i=>(lS i).bind fun m=>iY c d ((Int.tmod m 2:Int) == 0))) (iY c d false)))))
theorem tA (T:Nat→Prop) (W0:World) (hT:TW T W0) (hLv:cU T W0) (b:LU) (j:ae) (d:LY) (p:Value) (v2:Value) (Z:aA ay T W0 p b) (a0:aA aN.str T W0 v2 d) (y:nE) (hM:fy b j d=some y):aW Tryz.prog No 182 [p,.agg (aM j).toArray,v2] W0 (fun v w'=>v = .agg (FG y).toArray):=by
 refine en Tryz.func182 Tryz.ntmps182 hT fun a hS=>?_;replace hS:=((hS.fact bv (cU.dn hLv)).fS (aA.dn Z)).fS (aA.dn a0);unfold fy at hM;refine ah hS fun a hS=>?_;refine kb hS fun a2 ak a w hk hS=>?_;refine ka hS mP fun e ao a w hk hS=>?_;refine ah hS fun a hS=>?_;obtain⟨W,A,hM⟩:=bd hM;refine kc hS Ew (mp _ _ hS.dlt j _ A) fun _ w hR a hk hA=>?_;obtain rfl:=hR;have hS:=bV hA;refine ah hS fun a hS=>?_;refine az ?_;refine az ?_;refine dr [] hS fun w hQ hS=>?_;refine gE [0,1,2] hS fun a hS=>?_;rcases cd hM with⟨I,hM⟩|⟨I,hM⟩
 ·refine gE [3,4,5,6,7,8,9,10,11,12,13,14] hS fun a hS=>?_;refine eD ?_;refine ah hS fun a hS=>?_;refine qy hS (bj (ps:=[(0,.const (.bool true))]) hS tz mP rfl (us:=[[.bool true]]) ⟨rfl,trivial⟩ (ws:=[.bool true,.string (ByteArray.mk #[]),.int .i64 0,.string (ByteArray.mk #[])]) rfl) fun a hS=>?_;refine go hS fun a w hS=>?_;cases hM
  refine aE hS rfl (rC 0 hS) ?_;exact rfl
 refine gE [3,4,5,6,7,8] hS fun a hS=>?_;rcases cd hM with⟨l,hM⟩|⟨l,hM⟩
 ·refine gE [9,10,11,12,13,14] hS fun a hS=>?_;refine eD ?_;refine ah hS fun a hS=>?_;refine qy hS (bj (ps:=[(0,.const (.bool true))]) hS tz mP rfl (us:=[[.bool true]]) ⟨rfl,trivial⟩ (ws:=[.bool true,.string (ByteArray.mk #[]),.int .i64 0,.string (ByteArray.mk #[])]) rfl) fun a hS=>?_;refine go hS fun a w hS=>?_;cases hM
  refine aE hS rfl (rC 0 hS) ?_;exact rfl
 refine gE [9,10,12] hS fun a hS=>?_;obtain⟨q,B,hM⟩:=bd hM;refine cy (i:=11) rfl (by kernel_rfl) hS rfl rfl rfl l (a8 hS xf rfl rfl (m6 _ _ hS.dlt (hS.get 2 rfl) b W _ (hS.get 1 rfl) _ B) fun _ w hR a hk hA=>⟨fc (hk),?_⟩);obtain rfl:=hR;have hS:=bV hA;refine vG 13 (v:=.bool (!((q.Kind:Int) == j.Kind && q.Text.toList == j.Text.toList))) rfl (by kernel_rfl) (by kernel_rfl) (by kernel_rfl) rfl hQ hS (vJ hS rfl rfl) rfl rfl rfl l rfl rfl fun a hS=>?_;refine gE [14] hS fun a hS=>?_;refine eD ?_;refine ah hS fun a hS=>?_;rcases cd hM with⟨K,hM⟩|⟨K,hM⟩
 ·refine ah hS fun a hS=>?_;refine qy hS (bj (ps:=[(0,.const (.bool true))]) hS tz mP rfl (us:=[[.bool true]]) ⟨rfl,trivial⟩ (ws:=[.bool true,.string (ByteArray.mk #[]),.int .i64 0,.string (ByteArray.mk #[])]) rfl) fun a hS=>?_;refine go hS fun a w hS=>?_;cases hM
  refine aE hS rfl (rC 0 hS) ?_;exact rfl
 refine ah hS fun a hS=>?_;obtain⟨G,s,hM⟩:=bd hM;refine wl rfl (bc (R:=ay) hS uq tO rfl rfl 1 rfl s rfl fun a3 b0 ab L a hS=>?_);obtain⟨b4,rfl,F⟩:=L;replace hS:=hS.fS F;refine ah hS fun a hS=>?_;refine ka hS uX fun a4 av a w hk hS=>?_;refine go hS fun a w hS=>?_;refine az ?_;refine ah hS fun a hS=>?_;rcases cd hM with⟨M,hM⟩|⟨M,hM⟩
 ·refine ah hS fun a hS=>?_;refine az ?_;refine dr [(9,.blk (some e))] hS fun w hQ hS=>?_;refine gE [0,1,2,3,4] hS fun a hS=>?_;obtain⟨V,u,hM⟩:=bd hM;obtain⟨Y,O,hS⟩:=IU (R:=aN.str) hS DP Fq 2 rfl u;refine dy 5 (v:=Y) rfl (by kernel_rfl) (by kernel_rfl) (by kernel_rfl) rfl hQ hS (O (k1:=.i64) rfl (.inr ⟨rfl,rfl⟩) (.inl ⟨_,rfl,rfl⟩)) rfl rfl rfl fun a hS=>?_;obtain⟨X,C,hM⟩:=bd hM;refine ec 6 hS IF (wU _ _ hS.dlt G V _ _ (hS.get 1 rfl) (hS.get 0 rfl) _ C) fun _ w hR a hk hA=>?_;obtain rfl:=hR;have hS:=bV hA;obtain⟨o,D,hM⟩:=bd hM;refine ec 7 hS Es (u5 _ _ hS.dlt (hS.get 5 rfl) X _ D) fun _ w hR a hk hA=>?_;obtain rfl:=hR;have hS:=bV hA;refine dy 8 (v:=.agg #[.bool true,.string o,.int .i64 0,.string (ByteArray.mk #[])]) rfl (by kernel_rfl) (by kernel_rfl) (by kernel_rfl) rfl hQ hS (bj (ps:=[(0,.const (.bool true)),(1,.tmp 48)]) hS tz mP rfl (us:=[[.bool true],[.string o]]) ⟨rfl,⟨rfl,trivial⟩⟩ (ws:=[.bool true,.string o,.int .i64 0,.string (ByteArray.mk #[])]) rfl) rfl rfl rfl fun a hS=>?_;refine es 9 hS fun w hS=>?_;refine eD ?_;refine ah hS fun a hS=>?_;cases hM
  refine aE hS rfl (rC 1 hS) ?_;exact rfl
 refine ah hS fun a hS=>?_;obtain⟨f,r,hM⟩:=bd hM;refine wl rfl (bc (R:=dN) hS HK HN rfl rfl 0 rfl r rfl fun a5 b1 af P a hS=>?_);obtain rfl:=P;refine ah hS fun a hS=>?_;refine ka hS AO fun g ax a w hk hS=>?_;refine go hS fun a w hS=>?_;refine aG (J:=fun a w=>∃ (c:Int),St W0 No T 84 [(0,p),(6,pt e 0),(10,pt g 0),(11,.int .i64 c)] [.box e [.bool false,.string (ByteArray.mk #[]),.int .i64 0,.string (ByteArray.mk #[])] 190,.box g (Gq f) 93] [aJ ay p b,bv] a w∧iX b f c=some y) ?_ ?_
 ·skip;refine aG (J:=fun a w=>∃ (k:Bool),St W0 No T 84 [(0,p),(6,pt e 0),(10,pt g 0),(11,.int .i64 f.N),(72,.bool k)] [.box e [.bool false,.string (ByteArray.mk #[]),.int .i64 0,.string (ByteArray.mk #[])] 190,.box g (Gq f) 93] [aJ ay p b,bv] a w∧iY b f k=some y) ?_ ?_
  ·skip;refine ah hS fun a hS=>?_;rcases cd hM with⟨Q,hM⟩|⟨Q,hM⟩
   ·refine ah hS fun a hS=>?_;rcases cd hM with⟨h,hM⟩|⟨h,hM⟩
    ·exact fz
    refine ah hS fun a hS=>?_;obtain⟨H,t,hM⟩:=bd hM;refine wg hS rfl rfl rfl h (bc (R:=aN.str) hS DP Fq rfl rfl 3 rfl t rfl fun a9 b2 ag S a hS=>?_);obtain rfl:=S;refine ah hS fun a hS=>?_;obtain⟨b3,E,hM⟩:=bd hM;refine wg hS rfl rfl rfl h (a8 hS F1 rfl rfl (sB _ _ hS.dlt H _ E) fun _ w hR a hk hA=>?_);obtain rfl:=hR;have hS:=bV hA;refine qg hS h (xI hS rfl rfl (by decide)) fun a hS=>?_;exact fz
   exact fz
  rintro a w ⟨k,hS,hM⟩;unfold iY at hM;exact fz
 rintro a w ⟨c,hS,hM⟩;unfold iX at hM;refine az ?_;refine ah hS fun a hS=>?_;rcases cd hM with⟨U,hM⟩|⟨U,hM⟩
 ·refine ah hS fun a hS=>?_;obtain⟨m,x,hM⟩:=bd hM;refine kc hS wK (d9 _ _ hS.dlt (hS.get 1 rfl) c _ x) fun _ w hR a hk hA=>?_;obtain rfl:=hR;have hS:=bV hA;refine qy hS (bj (ps:=[(2,.tmp 78)]) hS tz mP rfl (us:=[(aM m)]) ⟨rfl,trivial⟩ (ws:=[.bool false,.string (ByteArray.mk #[]),.int .i64 m.Kind,.string m.Text]) rfl) fun a hS=>?_;refine go hS fun a w hS=>?_;cases hM
  refine aE hS rfl (rC 0 hS) ?_;exact rfl
 refine ah hS fun a hS=>?_;obtain⟨n,z,hM⟩:=bd hM;refine kc hS xf (m6 _ _ hS.dlt (hS.get 1 rfl) b c _ (hS.get 0 rfl) _ z) fun _ w hR a hk hA=>?_;obtain rfl:=hR;have hS:=bV hA;refine qy hS (bj (ps:=[(2,.tmp 82)]) hS tz mP rfl (us:=[(aM n)]) ⟨rfl,trivial⟩ (ws:=[.bool false,.string (ByteArray.mk #[]),.int .i64 n.Kind,.string n.Text]) rfl) fun a hS=>?_;refine go hS fun a w hS=>?_;cases hM
 refine aE hS rfl (rC 0 hS) ?_;exact rfl
def di (d:LU) (c:ae) (b:LY):Option nE:=cond ((c.Kind:Int) == 31) ((fy d c b).bind fun e=>some (e)) (cond ((c.Kind:Int) == 32) ((fy d c b).bind fun f=>some (f)) ((ce c).bind fun g=>cond g (some ((nE.mk true (ByteArray.mk #[]) (ae.mk 0 (ByteArray.mk #[]))))) (cond (decide ((c.Kind:Int) < 1)) (some ((nE.mk true (ByteArray.mk #[]) (ae.mk 0 (ByteArray.mk #[]))))) (cond (decide ((22:Int) < c.Kind)) (some ((nE.mk true (ByteArray.mk #[]) (ae.mk 0 (ByteArray.mk #[]))))) (none)))))
theorem eZ (T:Nat→Prop) (W0:World) (hT:TW T W0) (hLv:cU T W0) (c:LU) (d:ae) (b:LY) (o:Value) (p:Value) (m:aA ay T W0 o c) (n:aA aN.str T W0 p b) (y:nE) (hM:di c d b=some y):aW Tryz.prog No 152 [o,.agg (aM d).toArray,p] W0 (fun v w'=>v = .agg (FG y).toArray):=by
 refine en Tryz.func152 Tryz.ntmps152 hT fun a hS=>?_;replace hS:=((hS.fact bv (cU.dn hLv)).fS (aA.dn m)).fS (aA.dn n);unfold di at hM;refine ah hS fun a hS=>?_;refine kb hS fun q s a w hk hS=>?_;refine ka hS mP fun r t a w hk hS=>?_;refine ah hS fun a hS=>?_;refine az ?_;refine ah hS fun a hS=>?_;refine jV ?_;refine ah hS fun a hS=>?_;rcases cd hM with⟨h,hM⟩|⟨h,hM⟩
 ·refine ah hS fun a hS=>?_;obtain⟨u,e,hM⟩:=bd hM;refine kc hS F0 (tA _ _ hS.dlt (hS.get 2 rfl) c d b _ _ (hS.get 1 rfl) (hS.get 0 rfl) _ e) fun _ w hR a hk hA=>?_;obtain rfl:=hR;have hS:=bV hA;refine go hS fun a w hS=>?_;cases hM
  refine aE hS rfl (rC 0 hS) ?_;exact rfl
 refine ah hS fun a hS=>?_;rcases cd hM with⟨i,hM⟩|⟨i,hM⟩
 ·refine ah hS fun a hS=>?_;obtain⟨x,f,hM⟩:=bd hM;refine kc hS F0 (tA _ _ hS.dlt (hS.get 2 rfl) c d b _ _ (hS.get 1 rfl) (hS.get 0 rfl) _ f) fun _ w hR a hk hA=>?_;obtain rfl:=hR;have hS:=bV hA;refine go hS fun a w hS=>?_;cases hM
  refine aE hS rfl (rC 0 hS) ?_;exact rfl
 refine ah hS fun a hS=>?_;refine jV ?_;refine ah hS fun a hS=>?_;obtain⟨z,g,hM⟩:=bd hM;refine kc hS vq (c8 _ _ hS.dlt d _ g) fun _ w hR a hk hA=>?_;obtain rfl:=hR;have hS:=bV hA;refine ah hS fun a hS=>?_;rcases cd hM with⟨j,hM⟩|⟨j,hM⟩
 ·refine ah hS fun a hS=>?_;refine qy hS (bj (ps:=[(0,.const (.bool true))]) hS tz mP rfl (us:=[[.bool true]]) ⟨rfl,trivial⟩ (ws:=[.bool true,.string (ByteArray.mk #[]),.int .i64 0,.string (ByteArray.mk #[])]) rfl) fun a hS=>?_;refine go hS fun a w hS=>?_;cases hM
  refine aE hS rfl (rC 0 hS) ?_;exact rfl
 refine ah hS fun a hS=>?_;rcases cd hM with⟨k,hM⟩|⟨k,hM⟩
 ·refine ah hS fun a hS=>?_;refine qy hS (bj (ps:=[(0,.const (.bool true))]) hS tz mP rfl (us:=[[.bool true]]) ⟨rfl,trivial⟩ (ws:=[.bool true,.string (ByteArray.mk #[]),.int .i64 0,.string (ByteArray.mk #[])]) rfl) fun a hS=>?_;refine go hS fun a w hS=>?_;cases hM
  refine aE hS rfl (rC 0 hS) ?_;exact rfl
 refine ah hS fun a hS=>?_;rcases cd hM with⟨l,hM⟩|⟨l,hM⟩
 ·refine ah hS fun a hS=>?_;refine qy hS (bj (ps:=[(0,.const (.bool true))]) hS tz mP rfl (us:=[[.bool true]]) ⟨rfl,trivial⟩ (ws:=[.bool true,.string (ByteArray.mk #[]),.int .i64 0,.string (ByteArray.mk #[])]) rfl) fun a hS=>?_;refine go hS fun a w hS=>?_;cases hM
  refine aE hS rfl (rC 0 hS) ?_;exact rfl
 refine ah hS fun a hS=>?_;cases hM
def mx (b:LR):Option LR:=some (b)
def my (e:an) (b:LR) (d:Bool):Option LR:=cond (!(d)) ((fa e).bind fun c=>gd (br (b.length + ([c]).length)) <| mx (b ++ ([c]))) (mx b)
def f9 (b:Int) (c:LR) (d:Bool):Option (Fl (LR×Bool×Int) (LR×Bool)):=some (.go (c,d,IntKind.i64.wrap (b + 1)))
def ga (d:Int) (c:an) (f:Int) (b:LR) (e:Bool):Option (Fl (LR×Bool×Int) (LR×Bool)):=cond ((f:Int) != 0) (gd (br (b.length + ([c]).length)) <| f9 d (b ++ ([c])) e) (f9 d b e)
def gc (i:an) (b:LR) (h:Bool) (d:Int) (c:an) (e:Int) (g:Bool):Option (Fl (LR×Bool×Int) (LR×Bool)):=cond g ((fa i).bind fun f=>gd (br (b.length + ([f]).length)) <| ga d c e (b ++ ([f])) true) (ga d c e b h)
def ou (h:LR) (g:an) (e:LR) (c:Bool) (b:Int):Option (Fl (LR×Bool×Int) (LR×Bool)):=cond (decide ((b:Int) < (h.length:Int))) ((be h b).bind fun d=>(iV d.Key g.Key).bind fun f=>cond (decide ((0:Int)≤f)) (gc g e c b d f (!(c))) (gc g e c b d f false)) (some (.out (e,c)))
def kh (c:LR) (b:an):Option LR:=(loop (fun s:LR×Bool×Int=>ou c b s.1 s.2.1 s.2.2) (([]:List an),false,0)).bind fun r=>my b r.1 r.2
theorem uK (T:Nat→Prop) (W0:World) (hT:TW T W0) (hLv:cU T W0) (f:LR) (b:an) (p:Value) (m:Value) (ak:aA aa T W0 p f) (ao:aA ac T W0 m b.Reads) (y:LR) (hM:kh f b=some y):aW Tryz.prog No 153 [p,.agg (a6 b m).toArray] W0 (fun v w'=>∃ (v3:Value) (qT:List Value),v=v3∧fu aa T W0 w' [aH v3 qT] 84 v3 qT y):=by
 refine en Tryz.func153 Tryz.ntmps153 hT fun a hS=>?_;replace hS:=((hS.fact bv (cU.dn hLv)).fS (aA.dn ak)).fS (aA.dn ao);unfold kh at hM;refine ah hS fun a hS=>?_;refine kb hS fun d b9 a w hk hS=>?_;refine ah hS fun a hS=>?_;refine aG (J:=fun a w=>∃ (t:LR) (H:Bool) (L:Value) (B:LV),St W0 No T 47 [(3,pt d 0),(5,L),(6,.bool H)] [aH L B,.box d (a6 b m) 84] [am aa B t,aJ ac m b.Reads,bv] a w∧my b t H=some y) ?_ ?_
 ·skip;refine ah hS fun a hS=>?_;replace hS:=hS.nilRow aa 84 (by decide);obtain⟨r1,ag,hMo1⟩:=bd hM;refine bu _ (fun s a w=>∃ (g:LR) (h:Bool) (e:Int) (o:Value) (n:LV),(g,h,e)=s∧St W0 No T 47 [(3,pt d 0),(5,o),(6,.bool h),(10,p),(11,.int .i64 (f.length:Int)),(12,.int .i64 e)] [aH o n,.box d (a6 b m) 84] [am aa n g,aJ aa p f,aJ ac m b.Reads,bv] a w) ag ⟨_,_,_,_,_,rfl,hS.mt [0,1] [0,2,1,3]⟩ ?_;rintro s a w U ⟨g,h,e,o,n,rfl,hS⟩ hM hf1;have hM:ou f b g h e=some U:=hM;unfold ou at hM;refine ah hS fun a hS=>?_;refine az ?_;rcases cd hM with⟨a0,hM⟩|⟨a0,hM⟩
  ·refine ah hS fun a hS=>?_;refine aG (J:=fun a w=>∃ (G:LR) (I:Bool) (M:Value) (C:LV),St W0 No T 47 [(3,pt d 0),(5,M),(6,.bool I),(10,p),(11,.int .i64 (f.length:Int)),(12,.int .i64 e)] [aH M C,.box d (a6 b m) 84] [am aa C G,aJ aa p f,aJ ac m b.Reads,bv] a w∧f9 e G I=some U) ?_ ?_
   ·skip;refine ah hS fun a hS=>?_;obtain⟨c,V,hM⟩:=bd hM;refine wl rfl (bc (R:=aa) hS n4 k8 rfl rfl 1 rfl V rfl fun av bi b2 a1 a hS=>?_);obtain⟨j,rfl,Z⟩:=a1;replace hS:=hS.fS Z;refine ah hS fun a hS=>?_;refine ka hS ft fun q bb a w hk hS=>?_;refine go hS fun a w hS=>?_;obtain⟨z,X,hM⟩:=bd hM;refine kc hS BI (lQ _ _ hS.dlt (hS.get 5 rfl) c.Key b.Key _ X) fun _ w hR a hk hA=>?_;obtain rfl:=hR;have hS:=bV hA;refine ah hS fun a hS=>?_;refine aG (J:=fun a w=>∃ (u:LR) (K:Bool) (N:Value) (D:LV),St W0 No T 47 [(3,pt d 0),(5,N),(6,.bool K),(8,pt q 0),(9,.int .i64 z),(10,p),(11,.int .i64 (f.length:Int)),(12,.int .i64 e)] [aH N D,.box d (a6 b m) 84,.box q (a6 c j) 84] [am aa D u,aJ aa p f,aJ ac m b.Reads,aJ ac j c.Reads,bv] a w∧ga e c z u K=some U) ?_ ?_
    ·skip;refine aG (J:=fun a w=>∃ (E:Bool),St W0 No T 47 [(3,pt d 0),(5,o),(6,.bool h),(8,pt q 0),(9,.int .i64 z),(10,p),(11,.int .i64 (f.length:Int)),(12,.int .i64 e),(26,.bool E)] [aH o n,.box d (a6 b m) 84,.box q (a6 c j) 84] [am aa n g,aJ aa p f,aJ ac m b.Reads,aJ ac j c.Reads,bv] a w∧gc b g h e c z E=some U) ?_ ?_
     ·exact fz
     rintro a w ⟨E,hS,hM⟩;unfold gc at hM;rcases cd hM with⟨a2,hM⟩|⟨a2,hM⟩
     ·refine ah hS fun a hS=>?_;obtain⟨l,Y,hM⟩:=bd hM;refine kc hS AY (lh _ _ hS.dlt b _ (hS.get 2 rfl) _ Y) fun _ w hR a hk hA=>?_;obtain⟨O,b3,he,Q⟩:=hR;obtain rfl:=he.symm;have hS:=oI hA Q;refine wl rfl (aT (ps:=[(0,.tmp 29)]) hS pZ ft (zl:=[.int .i64 0,.string (ByteArray.mk #[]),.string (ByteArray.mk #[]),.slice none 0 0,.int .i64 0,.int .i64 0,.int .i64 0,.bool false]) (by kernel_rfl) rfl (us:=[(a6 l O)]) ⟨rfl,trivial⟩ (ws:=(a6 l O)) rfl rfl rfl rfl fun ax a w hk hS=>?_);replace hS:=hS.freeze (R:=ac) 1 rfl 0 rfl;replace hS:=(hS.lit (R:=aa) (us:=(a6 l O)) (xs:=[l]) 0 rfl (by decide) (aB.one_ (R:=aa) (x:=l) (⟨_,rfl,(hS.get 0 rfl)⟩)) rfl rfl).freeze (R:=aa) 0 rfl 0 rfl;obtain⟨a3,hM⟩:=aS hM;refine wl rfl (bw (R:=aa) (xs:=g) (ys:=[l]) hS pZ (by decide) (by decide) rfl rfl 0 rfl 4 rfl 0 rfl a3 rfl fun bl b4 a w hk hS=>?_);exact fz
     exact fz
    rintro a w ⟨u,K,N,D,hS,hM⟩;unfold ga at hM;refine ah hS fun a hS=>?_;rcases cd hM with⟨a4,hM⟩|⟨a4,hM⟩
    ·refine ah hS fun a hS=>?_;refine wl rfl (aT (ps:=[(0,.tmp 35)]) hS pZ ft (zl:=[.int .i64 0,.string (ByteArray.mk #[]),.string (ByteArray.mk #[]),.slice none 0 0,.int .i64 0,.int .i64 0,.int .i64 0,.bool false]) (by kernel_rfl) rfl (us:=[(a6 c j)]) ⟨rfl,trivial⟩ (ws:=(a6 c j)) rfl rfl rfl rfl fun b0 a w hk hS=>?_);replace hS:=(hS.lit (R:=aa) (us:=(a6 c j)) (xs:=[c]) 0 rfl (by decide) (aB.one_ (R:=aa) (x:=c) (⟨_,rfl,(hS.get 3 rfl)⟩)) rfl rfl).freeze (R:=aa) 0 rfl 0 rfl;obtain⟨a5,hM⟩:=aS hM;refine wl rfl (bw (R:=aa) (xs:=u) (ys:=[c]) hS pZ (by decide) (by decide) rfl rfl 0 rfl 2 rfl 0 rfl a5 rfl fun bs b5 a w hk hS=>?_);exact fz
    exact fz
   rintro a w ⟨G,I,M,C,hS,hM⟩;unfold f9 at hM;exact fz
  refine ah hS fun a hS=>?_;cases hM
  have hr:=hf1 _ rfl;subst hr;have hM:my b g h=some y:=hMo1;exact⟨_,_,_,_,hS.mt [0,1] [0,2,3],hM⟩
 rintro a w ⟨t,H,L,B,hS,hM⟩;unfold my at hM;refine aG (J:=fun a w=>∃ (F:LR) (A:Value) (r:LV),St W0 No T 47 [(5,A)] [aH A r] [am aa r F,bv] a w∧mx F=some y) ?_ ?_
 ·skip;refine ah hS fun a hS=>?_;rcases cd hM with⟨a9,hM⟩|⟨a9,hM⟩
  ·refine ah hS fun a hS=>?_;obtain⟨k,W,hM⟩:=bd hM;refine kc hS AY (lh _ _ hS.dlt b _ (hS.get 1 rfl) _ W) fun _ w hR a hk hA=>?_;obtain⟨P,b6,he,S⟩:=hR;obtain rfl:=he.symm;have hS:=oI hA S;refine wl rfl (aT (ps:=[(0,.tmp 43)]) hS pZ ft (zl:=[.int .i64 0,.string (ByteArray.mk #[]),.string (ByteArray.mk #[]),.slice none 0 0,.int .i64 0,.int .i64 0,.int .i64 0,.bool false]) (by kernel_rfl) rfl (us:=[(a6 k P)]) ⟨rfl,trivial⟩ (ws:=(a6 k P)) rfl rfl rfl rfl fun b1 a w hk hS=>?_);replace hS:=hS.freeze (R:=ac) 1 rfl 0 rfl;replace hS:=(hS.lit (R:=aa) (us:=(a6 k P)) (xs:=[k]) 0 rfl (by decide) (aB.one_ (R:=aa) (x:=k) (⟨_,rfl,(hS.get 0 rfl)⟩)) rfl rfl).freeze (R:=aa) 0 rfl 0 rfl;obtain⟨ab,hM⟩:=aS hM;refine wl rfl (bw (R:=aa) (xs:=t) (ys:=[k]) hS pZ (by decide) (by decide) rfl rfl 0 rfl 4 rfl 0 rfl ab rfl fun bt b8 a w hk hS=>?_);exact fz
  exact fz
 rintro a w ⟨F,A,r,hS,hM⟩;unfold mx at hM;refine ah hS fun a hS=>?_;cases hM
 refine aE hS rfl (ap hS rfl aD) ?_;exact⟨A,r,rfl,hS.retOwn ⟨.inr (List.mem_of_getElem? (i:=0) rfl),trivial⟩ 0 rfl 0 rfl⟩
def kX (e:ai) (f:ae) (c:ByteArray) (b:LK) (d:Int):Option an:=some ((an.mk f c b d e.Revision (IntKind.i64.wrap (1 + (b.length:Int))) false))
def kY (d:ai) (e:ae) (c:ByteArray) (b:LK) (g:(an×Bool)) (f:Bool):Option an:=cond f (kX d e c b g.1.Changed) (kX d e c b d.Revision)
def nc (e:ai) (f:ae) (b:ByteArray) (d:LK):Option an:=(cn e.Records f).bind fun c=>cond c.2 (kY e f b d c (c.1.Value.toList == b.toList)) (kY e f b d c false)
theorem tF (T:Nat→Prop) (W0:World) (hT:TW T W0) (d:ai) (e:ae) (c:ByteArray) (b:LK) (t:Value) (u:Value) (h:Value) (q:aA ad T W0 t d.Inputs) (r:aA aa T W0 u d.Records) (s:aA ac T W0 h b) (y:an) (hM:nc d e c b=some y):aW Tryz.prog No 154 [.agg (aQ d t u).toArray,.agg (aM e).toArray,.string c,h] W0 (fun v w'=>∃ (x:Value),v = .agg (a6 y x).toArray∧aA ac (dT T []) w' x y.Reads):=by
 refine en Tryz.func154 Tryz.ntmps154 hT fun a hS=>?_;replace hS:=((hS.fS (aA.dn q)).fS (aA.dn r)).fS (aA.dn s);unfold nc at hM;refine ah hS fun a hS=>?_;refine kb hS fun z B a w hk hS=>?_;refine kb hS fun A C a w hk hS=>?_;refine ka hS ft fun f D a w hk hS=>?_;refine ah hS fun a hS=>?_;refine qy hS (bj (ps:=[(0,.tmp 12),(1,.tmp 13),(2,.tmp 14),(3,.tmp 16),(4,.tmp 18),(5,.tmp 21)]) hS Jb ft rfl (us:=[(aM e),[.string c],[h],[.int .i64 d.Revision],[.int .i64 d.Revision],[.int .i64 (IntKind.i64.wrap (1 + (b.length:Int)))]]) ⟨rfl,⟨rfl,⟨(ik (aA.one ((hS.get 0 rfl):aA ac _ _ _ _))),⟨rfl,⟨rfl,⟨rfl,trivial⟩⟩⟩⟩⟩⟩ (ws:=[.int .i64 e.Kind,.string e.Text,.string c,h,.int .i64 d.Revision,.int .i64 d.Revision,.int .i64 (IntKind.i64.wrap (1 + (b.length:Int))),.bool false]) rfl) fun a hS=>?_;refine ka hS ft fun g E a w hk hS=>?_;refine go hS fun a w hS=>?_;refine aG (J:=fun a w=>∃ (j:Int),St W0 No T 41 [(8,pt f 0),(9,pt g 0)] [.box f [.int .i64 0,.string (ByteArray.mk #[]),.string (ByteArray.mk #[]),.slice none 0 0,.int .i64 0,.int .i64 0,.int .i64 0,.bool false] 84,.box g [.int .i64 e.Kind,.string e.Text,.string c,h,.int .i64 j,.int .i64 d.Revision,.int .i64 (IntKind.i64.wrap (1 + (b.length:Int))),.bool false] 84] [aJ ac h b] a w∧kX d e c b j=some y) ?_ ?_
 ·skip;refine ah hS fun a hS=>?_;obtain⟨k,p,hM⟩:=bd hM;refine kc hS kD (bI _ _ hS.dlt d.Records e _ (hS.get 1 rfl) _ p) fun _ w hR a hk hA=>?_;obtain⟨o,m,he,n⟩:=hR;obtain rfl:=he.symm;have hS:=oI hA n;refine ah hS fun a hS=>?_;refine ka hS ft fun l F a w hk hS=>?_;refine go hS fun a w hS=>?_;refine aG (J:=fun a w=>∃ (i:Bool),St W0 No T 41 [(8,pt f 0),(9,pt g 0),(10,pt l 0),(36,.bool i)] [.box f [.int .i64 0,.string (ByteArray.mk #[]),.string (ByteArray.mk #[]),.slice none 0 0,.int .i64 0,.int .i64 0,.int .i64 0,.bool false] 84,.box g [.int .i64 e.Kind,.string e.Text,.string c,h,.int .i64 d.Revision,.int .i64 d.Revision,.int .i64 (IntKind.i64.wrap (1 + (b.length:Int))),.bool false] 84,au o m,.box l (a6 k.1 o) 84] [aJ ac h b,am ac m k.1.Reads] a w∧kY d e c b k i=some y) ?_ ?_
  ·exact fz
  rintro a w ⟨i,hS,hM⟩;unfold kY at hM;exact fz
 rintro a w ⟨j,hS,hM⟩;unfold kX at hM;refine go hS fun a w hS=>?_;cases hM
 refine aE hS rfl (rC 0 hS) ?_;exact⟨h,rfl,(aA.up trivial (hS.get 0 rfl))⟩
def i6 (h:ai) (i:LF) (b:LF) (c:ae) (d:Bool):Option Int:=cond d (some (3)) ((ko h i c).bind fun e=>cond (!(e)) (some (0)) ((pc b c).bind fun f=>cond (!(f)) (some (1)) ((bX c).bind fun g=>cond g (some (0)) (some (2)))))
def ne (e:ai) (d:LF) (b:LF) (c:ae):Option Int:=(bX c).bind fun f=>cond (!(f)) ((pc d c).bind fun g=>i6 e d b c g) (i6 e d b c false)
theorem tI (T:Nat→Prop) (W0:World) (hT:TW T W0) (c:ai) (e:LF) (b:LF) (d:ae) (o:Value) (p:Value) (q:Value) (r:Value) (x:aA ad T W0 o c.Inputs) (z:aA aa T W0 p c.Records) (A:aA ar T W0 q e) (B:aA ar T W0 r b) (y:Int) (hM:ne c e b d=some y):aW Tryz.prog No 155 [.agg (aQ c o p).toArray,q,r,.agg (aM d).toArray] W0 (fun v w'=>v = .int .i64 y):=by
 refine en Tryz.func155 Tryz.ntmps155 hT fun a hS=>?_;replace hS:=(((hS.fS (aA.dn x)).fS (aA.dn z)).fS (aA.dn A)).fS (aA.dn B);unfold ne at hM;refine ah hS fun a hS=>?_;refine kb hS fun g C a w hk hS=>?_;refine kb hS fun h D a w hk hS=>?_;refine ah hS fun a hS=>?_;refine az ?_;refine ah hS fun a hS=>?_;refine aG (J:=fun a w=>∃ (f:Bool),St W0 No T 32 [(1,q),(2,r),(4,pt g 0),(7,pt h 0),(9,.bool f)] [.box g (aQ c o p) 31,.box h (aM d) 44] [aJ ar q e,aJ ar r b,aJ ad o c.Inputs,aJ aa p c.Records] a w∧i6 c e b d f=some y) ?_ ?_
 ·skip;refine ah hS fun a hS=>?_;obtain⟨H,m,hM⟩:=bd hM;refine kc hS tW (cm _ _ hS.dlt d _ m) fun _ w hR a hk hA=>?_;obtain rfl:=hR;have hS:=bV hA;refine ah hS fun a hS=>?_;rcases cd hM with⟨i,hM⟩|⟨i,hM⟩
  ·refine ah hS fun a hS=>?_;obtain⟨I,n,hM⟩:=bd hM;refine wg hS rfl rfl rfl i (a8 hS CI rfl rfl (sU _ _ hS.dlt e d _ (hS.get 1 rfl) _ n) fun _ w hR a hk hA=>?_);obtain rfl:=hR;have hS:=bV hA;exact fz
  exact fz
 rintro a w ⟨f,hS,hM⟩;unfold i6 at hM;rcases cd hM with⟨s,hM⟩|⟨s,hM⟩
 ·exact fz
 refine ah hS fun a hS=>?_;obtain⟨E,j,hM⟩:=bd hM;refine kc hS FP (rG _ _ hS.dlt c e d _ _ _ (hS.get 2 rfl) (hS.get 3 rfl) (hS.get 0 rfl) _ j) fun _ w hR a hk hA=>?_;obtain rfl:=hR;have hS:=bV hA;refine ah hS fun a hS=>?_;rcases cd hM with⟨t,hM⟩|⟨t,hM⟩
 ·exact fz
 refine ah hS fun a hS=>?_;obtain⟨F,k,hM⟩:=bd hM;refine kc hS CI (sU _ _ hS.dlt b d _ (hS.get 1 rfl) _ k) fun _ w hR a hk hA=>?_;obtain rfl:=hR;have hS:=bV hA;refine ah hS fun a hS=>?_;rcases cd hM with⟨u,hM⟩|⟨u,hM⟩
 ·exact fz
 refine ah hS fun a hS=>?_;obtain⟨G,l,hM⟩:=bd hM;refine kc hS tW (cm _ _ hS.dlt d _ l) fun _ w hR a hk hA=>?_;obtain rfl:=hR;have hS:=bV hA;exact fz
def rp (b:Int):Option ByteArray:=cond ((b:Int) == 14) (some ((ByteArray.mk #[48]))) (some ((ByteArray.mk #[])))
theorem wS (T:Nat→Prop) (W0:World) (hT:TW T W0) (b:Int) (y:ByteArray) (hM:rp b=some y):aW Tryz.prog No 311 [.int .i64 b] W0 (fun v w'=>v = .string y):=by
 refine en Tryz.func311 Tryz.ntmps311 hT fun a hS=>?_;unfold rp at hM;refine ah hS fun a hS=>?_;refine az ?_;exact fz
def ij (b:ae):Option ByteArray:=cond ((b.Kind:Int) == 32) (some ((ByteArray.mk #[48]))) ((bX b).bind fun c=>cond c ((rp b.Kind).bind fun d=>some (d)) (some ((ByteArray.mk #[]))))
theorem pL (T:Nat→Prop) (W0:World) (hT:TW T W0) (b:ae) (y:ByteArray) (hM:ij b=some y):aW Tryz.prog No 236 [.agg (aM b).toArray] W0 (fun v w'=>v = .string y):=by
 refine en Tryz.func236 Tryz.ntmps236 hT fun a hS=>?_;unfold ij at hM;refine ah hS fun a hS=>?_;refine kb hS fun g h a w hk hS=>?_;refine ah hS fun a hS=>?_;refine az ?_;refine ah hS fun a hS=>?_;rcases cd hM with⟨e,hM⟩|⟨e,hM⟩
 ·exact fz
 refine ah hS fun a hS=>?_;obtain⟨i,c,hM⟩:=bd hM;refine kc hS tW (cm _ _ hS.dlt b _ c) fun _ w hR a hk hA=>?_;obtain rfl:=hR;have hS:=bV hA;refine ah hS fun a hS=>?_;rcases cd hM with⟨f,hM⟩|⟨f,hM⟩
 ·refine ah hS fun a hS=>?_;obtain⟨j,d,hM⟩:=bd hM;refine kc hS II (wS _ _ hS.dlt b.Kind _ d) fun _ w hR a hk hA=>?_;obtain rfl:=hR;have hS:=bV hA;exact fz
 exact fz
def lJ (vrec:al→ae→Option (ByteArray×al)):Prop:=∀ (T:Nat→Prop) (W0:World) (hT:∀ k,T k→k < W0.heap.size) (t:al) (u:ae) (d:Nat) (n:Value) (o:Value) (p:Value) (b:Nat) (f:Array MapEntry) (h:Nat) (c:Nat) (g:Array MapEntry) (e:Nat) (hD:vd T W0 [.box d [n,.int .i64 t.Base.Revision,o,p,.map (some b),.map (some c)] 160,.obj b (.map f h),.obj c (.map g e)]) (A:aA ay (dT T [.box d [n,.int .i64 t.Base.Revision,o,p,.map (some b),.map (some c)] 160,.obj b (.map f h),.obj c (.map g e)]) W0 n t.Rules) (B:aA ad (dT T [.box d [n,.int .i64 t.Base.Revision,o,p,.map (some b),.map (some c)] 160,.obj b (.map f h),.obj c (.map g e)]) W0 o t.Base.Inputs) (C:aA aa (dT T [.box d [n,.int .i64 t.Base.Revision,o,p,.map (some b),.map (some c)] 160,.obj b (.map f h),.obj c (.map g e)]) W0 p t.Base.Records) (x:bx ac true aN.str false (dT T [.box d [n,.int .i64 t.Base.Revision,o,p,.map (some b),.map (some c)] 160,.obj b (.map f h),.obj c (.map g e)]) W0 f t.Memo) (z:bx ac true (aN.slice ac) false (dT T [.box d [n,.int .i64 t.Base.Revision,o,p,.map (some b),.map (some c)] 160,.obj b (.map f h),.obj c (.map g e)]) W0 g t.Seen) (hLv:cU (dT T [.box d [n,.int .i64 t.Base.Revision,o,p,.map (some b),.map (some c)] 160,.obj b (.map f h),.obj c (.map g e)]) W0) (y:ByteArray×al) (hM:vrec t u=some y),aW Tryz.prog (MD [.box d [n,.int .i64 t.Base.Revision,o,p,.map (some b),.map (some c)] 160,.obj b (.map f h),.obj c (.map g e)]) 184 [.pointer (some ⟨d,0,none⟩),.agg #[.int .i64 u.Kind,.string u.Text]] W0 (fun v w'=>∃ (q:Value) (r:Value) (s:Value) (i:Array MapEntry) (l:Nat) (j:Array MapEntry) (m:Nat),v = .string y.1∧n7 W0 w' [.box d [n,.int .i64 t.Base.Revision,o,p,.map (some b),.map (some c)] 160,.obj b (.map f h),.obj c (.map g e)] [.box d [q,.int .i64 y.2.Base.Revision,r,s,.map (some b),.map (some c)] 160,.obj b (.map i l),.obj c (.map j m)]∧aA ay (dT T [.box d [q,.int .i64 y.2.Base.Revision,r,s,.map (some b),.map (some c)] 160,.obj b (.map i l),.obj c (.map j m)]) w' q y.2.Rules∧aA ad (dT T [.box d [q,.int .i64 y.2.Base.Revision,r,s,.map (some b),.map (some c)] 160,.obj b (.map i l),.obj c (.map j m)]) w' r y.2.Base.Inputs∧aA aa (dT T [.box d [q,.int .i64 y.2.Base.Revision,r,s,.map (some b),.map (some c)] 160,.obj b (.map i l),.obj c (.map j m)]) w' s y.2.Base.Records∧bx ac true aN.str false (dT T [.box d [q,.int .i64 y.2.Base.Revision,r,s,.map (some b),.map (some c)] 160,.obj b (.map i l),.obj c (.map j m)]) w' i y.2.Memo∧bx ac true (aN.slice ac) false (dT T [.box d [q,.int .i64 y.2.Base.Revision,r,s,.map (some b),.map (some c)] 160,.obj b (.map i l),.obj c (.map j m)]) w' j y.2.Seen)
def i8 (b:LU) (c:Int) (d:LI) (e:LR) (f:LL) (g:LB):Option al:=some ((al.mk b (ai.mk c d e) g f))
def fN (f:LB) (d:LK) (b:Int) (e:LB):Option (Fl (Int×LB) (LB)):=cond (decide ((b:Int) < (d.length:Int))) ((be d b).bind fun c=>(some ((bQ aC c f).getD (ByteArray.mk #[]))).bind fun g=>some (.go (IntKind.i64.wrap (b + 1),(cT aC c g e)))) (some (.out e))
def dR (b:LB) (c:LK) (d:LU) (e:Int) (f:LI) (g:LR) (i:LB) (h:LL):Option al:=(loop (fun s:Int×LB=>fN b c s.1 s.2) (0,i)).bind fun r=>i8 d e f g h r
def fL (b:LB) (d:LK) (c:Bool) (e:LU) (f:Int) (g:LI) (h:LR) (i:LB) (j:LL):Option (Fl (LB×LK×Bool×LU×Int×LI×LR×LB×LL) (LB×LK×LU×Int×LI×LR×LB×LL)):=some (.go (b,d,c,e,f,g,h,i,j))
def cY (d:Int) (b:LB) (e:LK) (c:Bool) (f:LU) (g:Int) (h:LI) (i:LR) (j:LB) (k:LL):Option (Fl (LB×LK×Bool×Int×LU×Int×LI×LR×LB×LL) (LB×LK×Bool×LU×Int×LI×LR×LB×LL)):=some (.go (b,e,c,IntKind.i64.wrap (d + 1),f,g,h,i,j,k))
def dS (b:Int) (d:LB) (c:LK) (l:Bool) (e:LU) (f:Int) (g:LI) (h:LR) (i:LB) (j:LL) (p:Bool) (k:ByteArray) (q:Int) (r:ByteArray):Option (Fl (LB×LK×Bool×Int×LU×Int×LI×LR×LB×LL) (LB×LK×Bool×LU×Int×LI×LR×LB×LL)):=(be c b).bind fun m=>(some ((bQ aC m d).getD (ByteArray.mk #[]))).bind fun o=>cond (!(o.toList == k.toList)) ((be c b).bind fun n=>cY b (cT aC n k d) c true e f g h i j) (cY b d c l e f g h i j)
def cg (j:Int) (c:LY) (g:LB) (e:LK) (h:Bool) (d:ByteArray) (f:LU) (k:Int) (l:LI) (m:LR) (n:LB) (o:LL):Option (Fl (LB×LK×Bool×LY×LU×Int×LI×LR×LB×LL×Bool×ByteArray×Int×ByteArray) (LB×LK×Bool×LU×Int×LI×LR×LB×LL×Bool×ByteArray×Int×ByteArray)):=gd (br (c.length + ([d]).length)) <| (be e j).bind fun i=>(di f i (c ++ ([d]))).bind fun b=>some (.go (g,e,h,(c ++ ([d])),f,k,l,m,n,o,b.Done,b.Value,b.Ask.Kind,b.Ask.Text))
def cZ (e:Int) (c:LY) (g:LU) (h:Int) (i:LI) (j:LR) (k:LB) (l:LL) (m:Int) (n:ByteArray) (b:LB) (f:LK) (d:Bool):Option (Fl (LB×LK×Bool×LY×LU×Int×LI×LR×LB×LL×Bool×ByteArray×Int×ByteArray) (LB×LK×Bool×LU×Int×LI×LR×LB×LL×Bool×ByteArray×Int×ByteArray)):=(some ((bQ aC (ae.mk m n) b).getD (ByteArray.mk #[]))).bind fun o=>cg e c b f d o g h i j k l
def c6 (vrec:al→ae→Option (ByteArray×al)) (o:Int) (d:LB) (g:LK) (n:Bool) (m:LY) (h:LU) (i:Int) (j:LI) (k:LR) (e:LB) (l:LL) (p:Bool) (q:ByteArray) (b:Int) (c:ByteArray):Option (Fl (LB×LK×Bool×LY×LU×Int×LI×LR×LB×LL×Bool×ByteArray×Int×ByteArray) (LB×LK×Bool×LU×Int×LI×LR×LB×LL×Bool×ByteArray×Int×ByteArray)):=cond (!(p)) ((some ((bQ aC (ae.mk b c) e).getD (ByteArray.mk #[]))).bind fun r=>cond ((bQ aC (ae.mk b c) e).isSome) (cg o m d g n r h i j k e l) ((bX (ae.mk b c)).bind fun s=>cond (!(s)) ((vrec (al.mk h (ai.mk i j k) e l) (ae.mk b c)).bind fun f=>cg o m d g n f.1 f.2.Rules f.2.Base.Revision f.2.Base.Inputs f.2.Base.Records f.2.Memo f.2.Seen) ((some ((bQ aC (ae.mk b c) d).getD (ByteArray.mk #[]))).bind fun u=>cond (!((bQ aC (ae.mk b c) d).isSome)) ((ij (ae.mk b c)).bind fun t=>gd (br (g.length + ([(ae.mk b c)]).length)) <| cZ o m h i j k e l b c (cT aC (ae.mk b c) t d) (g ++ ([(ae.mk b c)])) true) (cZ o m h i j k e l b c d g n)))) (some (.out (d,g,n,h,i,j,k,e,l,p,q,b,c)))
def eW (vrec:al→ae→Option (ByteArray×al)) (c:LB) (e:LK) (d:Bool) (b:Int) (f:LU) (g:Int) (h:LI) (i:LR) (j:LB) (k:LL) (l:Bool) (m:ByteArray) (n:Int) (o:ByteArray):Option (Fl (LB×LK×Bool×Int×LU×Int×LI×LR×LB×LL) (LB×LK×Bool×LU×Int×LI×LR×LB×LL)):=(loop (fun s:LB×LK×Bool×LY×LU×Int×LI×LR×LB×LL×Bool×ByteArray×Int×ByteArray=>c6 vrec b s.1 s.2.1 s.2.2.1 s.2.2.2.1 s.2.2.2.2.1 s.2.2.2.2.2.1 s.2.2.2.2.2.2.1 s.2.2.2.2.2.2.2.1 s.2.2.2.2.2.2.2.2.1 s.2.2.2.2.2.2.2.2.2.1 s.2.2.2.2.2.2.2.2.2.2.1 s.2.2.2.2.2.2.2.2.2.2.2.1 s.2.2.2.2.2.2.2.2.2.2.2.2.1 s.2.2.2.2.2.2.2.2.2.2.2.2.2) (c,e,d,([]:List ByteArray),f,g,h,i,j,k,l,m,n,o)).bind fun r=>dS b r.1 r.2.1 r.2.2.1 r.2.2.2.1 r.2.2.2.2.1 r.2.2.2.2.2.1 r.2.2.2.2.2.2.1 r.2.2.2.2.2.2.2.1 r.2.2.2.2.2.2.2.2.1 r.2.2.2.2.2.2.2.2.2.1 r.2.2.2.2.2.2.2.2.2.2.1 r.2.2.2.2.2.2.2.2.2.2.2.1 r.2.2.2.2.2.2.2.2.2.2.2.2
def dE (vrec:al→ae→Option (ByteArray×al)) (f:LB) (b:LK) (g:Bool) (d:Int) (e:LU) (h:Int) (i:LI) (j:LR) (k:LB) (l:LL):Option (Fl (LB×LK×Bool×Int×LU×Int×LI×LR×LB×LL) (LB×LK×Bool×LU×Int×LI×LR×LB×LL)):=cond (decide ((d:Int) < (b.length:Int))) ((be b d).bind fun m=>(di e m ([])).bind fun c=>eW vrec f b g d e h i j k l c.Done c.Value c.Ask.Kind c.Ask.Text) (some (.out (f,b,g,e,h,i,j,k,l)))
def dF (vrec:al→ae→Option (ByteArray×al)) (b:LB) (c:LK) (j:Bool) (d:LU) (e:Int) (f:LI) (g:LR) (h:LB) (i:LL):Option (Fl (LB×LK×Bool×LU×Int×LI×LR×LB×LL) (LB×LK×LU×Int×LI×LR×LB×LL)):=cond j ((loop (fun s:LB×LK×Bool×Int×LU×Int×LI×LR×LB×LL=>dE vrec s.1 s.2.1 s.2.2.1 s.2.2.2.1 s.2.2.2.2.1 s.2.2.2.2.2.1 s.2.2.2.2.2.2.1 s.2.2.2.2.2.2.2.1 s.2.2.2.2.2.2.2.2.1 s.2.2.2.2.2.2.2.2.2) (b,c,false,0,d,e,f,g,h,i)).bind fun r=>fL r.1 r.2.1 r.2.2.1 r.2.2.2.1 r.2.2.2.2.1 r.2.2.2.2.2.1 r.2.2.2.2.2.2.1 r.2.2.2.2.2.2.2.1 r.2.2.2.2.2.2.2.2) (some (.out (b,c,d,e,f,g,h,i)))
def eY (vrec:al→ae→Option (ByteArray×al)) (b:al) (d:ae) (c:LB):Option al:=(loop (fun s:LB×LK×Bool×LU×Int×LI×LR×LB×LL=>dF vrec s.1 s.2.1 s.2.2.1 s.2.2.2.1 s.2.2.2.2.1 s.2.2.2.2.2.1 s.2.2.2.2.2.2.1 s.2.2.2.2.2.2.2.1 s.2.2.2.2.2.2.2.2) (c,[d],true,b.Rules,b.Base.Revision,b.Base.Inputs,b.Base.Records,b.Memo,b.Seen)).bind fun r=>dR r.1 r.2.1 r.2.2.1 r.2.2.2.1 r.2.2.2.2.1 r.2.2.2.2.2.1 r.2.2.2.2.2.2.1 r.2.2.2.2.2.2.2
def fF (vrec:al→ae→Option (ByteArray×al)) (d:al) (b:ae):Option al:=(ij b).bind fun c=>eY vrec d b (cT aC b c ([]:LB))
theorem rB (T:Nat→Prop) (W0:World) (hT:TW T W0) (vrec:al→ae→Option (ByteArray×al)) (hvrec:lJ vrec) (n:al) (C:ae) (d:Nat) (z:Value) (A:Value) (B:Value) (b:Nat) (q:Array MapEntry) (r:Nat) (e:Nat) (o:Array MapEntry) (p:Nat) (hD:vd T W0 [xS d z n.Base.Revision A B b e,om b q r,om e o p]) (w1:aA ay (dT T [xS d z n.Base.Revision A B b e,om b q r,om e o p]) W0 z n.Rules) (w2:aA ad (dT T [xS d z n.Base.Revision A B b e,om b q r,om e o p]) W0 A n.Base.Inputs) (w3:aA aa (dT T [xS d z n.Base.Revision A B b e,om b q r,om e o p]) W0 B n.Base.Records) (p0:bx ac true aN.str false (dT T [xS d z n.Base.Revision A B b e,om b q r,om e o p]) W0 q n.Memo) (vc:bx ac true (aN.slice ac) false (dT T [xS d z n.Base.Revision A B b e,om b q r,om e o p]) W0 o n.Seen) (hLv:cU (dT T [xS d z n.Base.Revision A B b e,om b q r,om e o p]) W0) (y:al) (hM:fF vrec n C=some y):aW Tryz.prog (MD [xS d z n.Base.Revision A B b e,om b q r,om e o p]) 202 [pt d 0,.agg (aM C).toArray] W0 (fun v w'=>∃ (d0:Value) (d1:Value) (d2:Value) (a0:Array MapEntry) (av:Nat) (X:Array MapEntry) (ao:Nat),v = .tuple #[]∧n7 W0 w' [xS d z n.Base.Revision A B b e,om b q r,om e o p] [xS d d0 y.Base.Revision d1 d2 b e,om b a0 av,om e X ao]∧aA ay (dT T [xS d d0 y.Base.Revision d1 d2 b e,om b a0 av,om e X ao]) w' d0 y.Rules∧aA ad (dT T [xS d d0 y.Base.Revision d1 d2 b e,om b a0 av,om e X ao]) w' d1 y.Base.Inputs∧aA aa (dT T [xS d d0 y.Base.Revision d1 d2 b e,om b a0 av,om e X ao]) w' d2 y.Base.Records∧bx ac true aN.str false (dT T [xS d d0 y.Base.Revision d1 d2 b e,om b a0 av,om e X ao]) w' a0 y.Memo∧bx ac true (aN.slice ac) false (dT T [xS d d0 y.Base.Revision d1 d2 b e,om b a0 av,om e X ao]) w' X y.Seen):=by
 refine jp (c:=_) Tryz.func202 rfl T 135 Tryz.ntmps202 hT rfl hD fun a hS=>?_;replace hS:=(((((hS.fact bv hLv).fS w1).fS w2).fS w3).fM p0).fM vc;unfold fF at hM;refine ah hS fun a hS=>?_;refine kb hS fun md Fp a w hk hS=>?_;refine ah hS fun a hS=>?_;refine aG (J:=fun a w=>∃ (fr:LB) (f:Nat) (e5:AM) (g4:Nat),St W0 (MD [xS d z n.Base.Revision A B b e,om b q r,om e o p]) T 135 [(0,pt d 0),(3,pt md 0),(4,.map (some f))] [om f e5 g4,om b q r,om e o p,xS d z n.Base.Revision A B b e,.box md (aM C) 44] [iv e5 fr,uz e5 g4,aJ ay z n.Rules,aJ ad A n.Base.Inputs,aJ aa B n.Base.Records,iv q n.Memo,po o n.Seen,bv] a w∧eY vrec n C fr=some y) ?_ ?_
 ·skip;refine dr [(4,.any)] hS fun w hQ hS=>?_;refine gE [1,2] hS fun a hS=>?_;obtain⟨eX,m2,hM⟩:=bd hM;refine de (i:=0) (j:=3) rfl rfl (by kernel_rfl) rfl rfl ?_ ?_
  ·skip;skip;refine id (vR ac true aN.str false hS rfl fun w5 G1 a w hk hS=>⟨fc (hk),?_⟩);refine ec 3 hS CJ (pL _ _ hS.dlt C _ m2) fun _ w hR a hk hA=>?_;obtain rfl:=hR;have hS:=bV hA;refine e1 4 (vQ hS n9 cc 0 rfl 1 rfl 0 rfl (c:=(aM C)) (cv:=[.string eX]) (key:=C) (val:=eX) rfl rfl rfl rfl rfl fun r4 r0 w hk hS=>⟨kB rfl hk su,?_⟩);refine gE [5,6] hS fun a hS=>?_;refine eD ?_;exact⟨_,_,_,_,hS.mt [0,3,4,2,1] [1,0,8,7,6,5,4,9],hM⟩
  skip;refine id (a8 hS CJ rfl rfl (pL _ _ hS.dlt C _ m2) fun _ w hR a hk hA=>⟨fc (hk),?_⟩);obtain rfl:=hR;have hS:=bV hA;refine e1 0 (vR ac true aN.str false hS rfl fun wf Go a w hk hS=>⟨fc (hk),?_⟩);refine e1 4 (vQ hS n9 cc 0 rfl 1 rfl 0 rfl (c:=(aM C)) (cv:=[.string eX]) (key:=C) (val:=eX) rfl rfl rfl rfl rfl fun r4 r0 w hk hS=>⟨kB rfl hk su,?_⟩);refine gE [5,6] hS fun a hS=>?_;refine eD ?_;exact⟨_,_,_,_,hS.mt [0,3,4,2,1] [1,0,8,7,6,5,4,9],hM⟩
 rintro a w ⟨fr,f,e5,g4,hS,hM⟩;unfold eY at hM;refine ah hS fun a hS=>?_;refine wl rfl (aT (ps:=[(0,.tmp 21)]) hS gm gh (zl:=[.int .i64 0,.string (ByteArray.mk #[])]) (by kernel_rfl) rfl (us:=[(aM C)]) ⟨rfl,trivial⟩ (ws:=(aM C)) rfl rfl rfl rfl fun wk a w hk hS=>?_);refine ah hS fun a hS=>?_;refine aG (J:=fun a w=>∃ (b9:LB) (ax:LK) (b1:LU) (b2:Int) (b3:LI) (b4:LR) (hw:LB) (b5:LL) (Y:AM) (bl:Nat) (d3:Value) (bs:LV) (hb:AM) (ms:Nat) (H:AM) (bt:Nat) (P:Value) (Q:Value) (S:Value),St W0 (MD [xS d z n.Base.Revision A B b e,om b q r,om e o p]) T 135 [(0,pt d 0),(4,.map (some f)),(5,d3)] [om f Y bl,au d3 bs,om b hb ms,om e H bt,xS d P b2 Q S b e] [iv Y b9,uz Y bl,am ac bs ax,aJ ay P b1,aJ ad Q b3,aJ aa S b4,iv hb hw,po H b5,bv] a w∧dR b9 ax b1 b2 b3 b4 hw b5=some y) ?_ ?_
 ·skip;refine ah hS fun a hS=>?_;replace hS:=hS.lit (R:=ac) (us:=(aM C)) (xs:=[C]) 0 rfl (by decide) (aB.one_ (R:=ac) (x:=C) rfl) rfl rfl;obtain⟨r1,ok,hMo1⟩:=bd hM;refine bu _ (fun s a w=>∃ (bb:LB) (ca:LK) (ds:Bool) (cb:LU) (ch:Int) (ck:LI) (cl:LR) (co:LB) (cs:LL) (e8:AM) (g5:Nat) (k0:Value) (g6:LV) (hc:AM) (n0:Nat) (hd:AM) (n1:Nat) (k1:Value) (k2:Value) (k3:Value),(bb,ca,ds,cb,ch,ck,cl,co,cs)=s∧St W0 (MD [xS d z n.Base.Revision A B b e,om b q r,om e o p]) T 135 [(0,pt d 0),(4,.map (some f)),(5,k0),(6,.bool ds)] [om f e8 g5,au k0 g6,om b hc n0,om e hd n1,xS d k1 ch k2 k3 b e] [iv e8 bb,uz e8 g5,am ac g6 ca,aJ ay k1 cb,aJ ad k2 ck,aJ aa k3 cl,iv hc co,po hd cs,bv] a w) ok ⟨_,_,_,_,_,_,_,_,_,_,_,_,_,_,_,_,_,_,_,_,rfl,hS.mt [1,0,2,3,4] [1,2,0,3,4,5,6,7,8]⟩ ?_;rintro s a w f1 ⟨bb,ca,ds,cb,ch,ck,cl,co,cs,e8,g5,k0,g6,hc,n0,hd,n1,k1,k2,k3,rfl,hS⟩ hM hf1;have hM:dF vrec bb ca ds cb ch ck cl co cs=some f1:=hM;unfold dF at hM;refine az ?_;refine ah hS fun a hS=>?_;rcases cd hM with⟨rd,hM⟩|⟨rd,hM⟩
  ·refine IY hS fun a hS=>?_;refine DU (J:=fun a w=>∃ (f4:LB) (hp:LK) (fs:Bool) (hx:LU) (hy:Int) (hz:LI) (hB:LR) (hC:LB) (hE:LL) (ea:AM) (g7:Nat) (k4:Value) (g8:LV) (hf:AM) (n2:Nat) (hg:AM) (n3:Nat) (kk:Value) (ks:Value) (kt:Value),St W0 (MD [xS d z n.Base.Revision A B b e,om b q r,om e o p]) T 135 [(0,pt d 0),(4,.map (some f)),(5,k4),(6,.bool fs)] [om f ea g7,au k4 g8,om b hf n2,om e hg n3,xS d kk hy ks kt b e] [iv ea f4,uz ea g7,am ac g8 hp,aJ ay kk hx,aJ ad ks hz,aJ aa kt hB,iv hf hC,po hg hE,bv] a w∧fL f4 hp fs hx hy hz hB hC hE=some f1) ?_ ?_
   ·skip;refine ah hS fun a hS=>?_;obtain⟨r2,vx,hMo2⟩:=bd hM;refine bu _ (fun s a w=>∃ (U:LB) (a1:LK) (V:Bool) (t:Int) (G:LU) (a2:Int) (a3:LI) (a4:LR) (a5:LB) (a9:LL) (Z:AM) (c0:Nat) (d4:Value) (c1:LV) (c3:AM) (gb:Nat) (c4:AM) (gi:Nat) (d6:Value) (da:Value) (dc:Value),(U,a1,V,t,G,a2,a3,a4,a5,a9)=s∧St W0 (MD [xS d z n.Base.Revision A B b e,om b q r,om e o p]) T 135 [(0,pt d 0),(4,.map (some f)),(5,d4),(6,.bool V),(7,.int .i64 t)] [om f Z c0,au d4 c1,om b c3 gb,om e c4 gi,xS d d6 a2 da dc b e] [iv Z U,uz Z c0,am ac c1 a1,aJ ay d6 G,aJ ad da a3,aJ aa dc a4,iv c3 a5,po c4 a9,bv] a w) vx ⟨_,_,_,_,_,_,_,_,_,_,_,_,_,_,_,_,_,_,_,_,_,rfl,hS.mt [0,1,2,3,4] [0,1,2,3,4,5,6,7,8]⟩ ?_;rintro s a w f2 ⟨U,a1,V,t,G,a2,a3,a4,a5,a9,Z,c0,d4,c1,c3,gb,c4,gi,d6,da,dc,rfl,hS⟩ hM hf2;have hM:dE vrec U a1 V t G a2 a3 a4 a5 a9=some f2:=hM;unfold dE at hM;refine az ?_;refine ah hS fun a hS=>?_;rcases cd hM with⟨rg,hM⟩|⟨rg,hM⟩
    ·refine ah hS fun a hS=>?_;refine aG (J:=fun a w=>∃ (f6:LB) (hq:LK) (g0:Bool) (hF:LU) (hG:Int) (hH:LI) (hI:LR) (hJ:LB) (hK:LL) (ed:AM) (gp:Nat) (kv:Value) (gs:LV) (hh:AM) (n5:Nat) (hi:AM) (n6:Nat) (kx:Value) (l0:Value) (l1:Value),St W0 (MD [xS d z n.Base.Revision A B b e,om b q r,om e o p]) T 135 [(0,pt d 0),(4,.map (some f)),(5,kv),(6,.bool g0),(7,.int .i64 t)] [om f ed gp,au kv gs,om b hh n5,om e hi n6,xS d kx hG l0 l1 b e] [iv ed f6,uz ed gp,am ac gs hq,aJ ay kx hF,aJ ad l0 hH,aJ aa l1 hI,iv hh hJ,po hi hK,bv] a w∧cY t f6 hq g0 hF hG hH hI hJ hK=some f2) ?_ ?_
     ·skip;refine ah hS fun a hS=>?_;refine aG (J:=fun a w=>∃ (ii:Bool) (it:ByteArray) (jb:Int) (jc:ByteArray) (u:Nat),St W0 (MD [xS d z n.Base.Revision A B b e,om b q r,om e o p]) T 135 [(0,pt d 0),(4,.map (some f)),(5,d4),(6,.bool V),(7,.int .i64 t),(8,.slice none 0 0),(9,pt u 0)] [om f Z c0,au d4 c1,om b c3 gb,om e c4 gi,xS d d6 a2 da dc b e,.box u [.bool ii,.string it,.int .i64 jb,.string jc] 190] [iv Z U,uz Z c0,am ac c1 a1,aJ ay d6 G,aJ ad da a3,aJ aa dc a4,iv c3 a5,po c4 a9,bv] a w∧eW vrec U a1 V t G a2 a3 a4 a5 a9 ii it jb jc=some f2) ?_ ?_
      ·skip;obtain⟨N285,os⟩:∃ N,N=w.heap.size:=⟨_,rfl⟩;replace hS:=hS.fact (BA N285) (Nat.le_of_eq os);refine dr [(11,.new N285)] hS fun w hQ hS=>?_;refine gE [0,1,2,3,4,5] hS fun a hS=>?_;obtain⟨e4,p5,hM⟩:=bd hM;obtain⟨q2,v0,Hb,x2,rl,rm,rr,rs⟩:=kG (R:=ac) hS jd dd 1 rfl 3 rfl p5;obtain rfl:=rl;refine dy 6 (v:=pt q2 v0) rfl (by kernel_rfl) (by kernel_rfl) (by kernel_rfl) rfl hQ hS (rs rfl rfl) rfl rfl rfl fun a hS=>?_;refine dy (l:=[]) 7 (v:=.agg (aM e4).toArray) rfl (by kernel_rfl) (by kernel_rfl) (by kernel_rfl) (by kernel_rfl) hQ hS (bL (k:=0) hS dd 1 rfl rm rr rfl bo (us:=(aM e4)) rfl rfl (fun h=>by cases h)) rfl rfl rfl fun a hS=>?_;refine gE [8] hS fun a hS=>?_;replace hS:=hS.fact (aJ aN.str (.slice none 0 0) []) (aA.nil_ _ _ _);obtain⟨Jn,m1,hM⟩:=bd hM;refine de (i:=9) (j:=10) rfl rfl (by kernel_rfl) rfl rfl ?_ ?_
       ·skip;skip;refine id (a8 hS tb rfl rfl (eZ _ _ hS.dlt (hS.get 10 rfl) G e4 ([]) _ _ (hS.get 5 rfl) (hS.get 0 rfl) _ m1) fun _ w hR a hk hA=>⟨fc (hk),?_⟩);obtain rfl:=hR;have hS:=bV hA;have rt:=(hS.get 1 rfl:N285≤w.heap.size);refine e1 10 (cr hS mP rfl fun q3 rv a w hk hS=>⟨fc (hk),?_⟩);refine cC 11 (.blk (some q3)) _ (by kernel_rfl) (lZ (Nat.le_trans rt rv)) ?_;refine es 11 hS fun w hS=>?_;refine eD ?_;exact⟨_,_,_,_,_,hS.mt [1,2,3,4,5,0] [2,3,4,5,6,7,8,9,10],hM⟩
       skip;have s0:=(hS.get 1 rfl:N285≤w.heap.size);refine id (cr hS mP rfl fun q4 s1 a w hk hS=>⟨fc (hk),?_⟩);refine cC 11 (.blk (some q4)) _ (by kernel_rfl) (lZ (Nat.le_trans s0 s1)) ?_;refine ec 9 hS tb (eZ _ _ hS.dlt (hS.get 10 rfl) G e4 ([]) _ _ (hS.get 5 rfl) (hS.get 0 rfl) _ m1) fun _ w hR a hk hA=>?_;obtain rfl:=hR;have hS:=bV hA;refine es 11 hS fun w hS=>?_;refine eD ?_;exact⟨_,_,_,_,_,hS.mt [1,2,3,4,5,0] [2,3,4,5,6,7,8,9,10],hM⟩
      rintro a w ⟨ii,it,jb,jc,u,hS,hM⟩;unfold eW at hM;refine aG (J:=fun a w=>∃ (fd:LB) (hs:LK) (g1:Bool) (hN:LU) (hP:Int) (hV:LI) (hW:LR) (hX:LB) (hY:LL) (i9:Bool) (b6:ByteArray) (ib:Int) (ih:ByteArray) (eg:AM) (gu:Nat) (l2:Value) (h0:LV) (hj:AM) (nd:Nat) (hl:AM) (ng:Nat) (la:Value) (lb:Value) (le:Value),St W0 (MD [xS d z n.Base.Revision A B b e,om b q r,om e o p]) T 135 [(0,pt d 0),(4,.map (some f)),(5,l2),(6,.bool g1),(7,.int .i64 t),(9,pt u 0)] [om f eg gu,au l2 h0,om b hj nd,om e hl ng,xS d la hP lb le b e,.box u [.bool i9,.string b6,.int .i64 ib,.string ih] 190] [iv eg fd,uz eg gu,am ac h0 hs,aJ ay la hN,aJ ad lb hV,aJ aa le hW,iv hj hX,po hl hY,bv] a w∧dS t fd hs g1 hN hP hV hW hX hY i9 b6 ib ih=some f2) ?_ ?_
      ·skip;refine ah hS fun a hS=>?_;replace hS:=hS.nilRow aN.str 9 (by decide);obtain⟨r3,w0,uv⟩:=bd hM;refine bu _ (fun s a w=>∃ (ak:LB) (b0:LK) (bi:Bool) (D:LY) (I:LU) (K:Int) (L:LI) (M:LR) (F:LB) (O:LL) (ab:Bool) (af:ByteArray) (g:Int) (m:ByteArray) (el:AM) (h1:Nat) (ll:Value) (h2:LV) (ag:Value) (W:LV) (c5:AM) (h3:Nat) (c9:AM) (h4:Nat) (dk:Value) (dl:Value) (dn:Value),(ak,b0,bi,D,I,K,L,M,F,O,ab,af,g,m)=s∧St W0 (MD [xS d z n.Base.Revision A B b e,om b q r,om e o p]) T 135 [(0,pt d 0),(4,.map (some f)),(5,ll),(6,.bool bi),(7,.int .i64 t),(8,ag),(9,pt u 0)] [om f el h1,au ll h2,.own ag 9 aN.str.size W,om b c5 h3,om e c9 h4,xS d dk K dl dn b e,.box u [.bool ab,.string af,.int .i64 g,.string m] 190] [iv el ak,uz el h1,am ac h2 b0,am aN.str W D,aJ ay dk I,aJ ad dl L,aJ aa dn M,iv c5 F,po c9 O,bv] a w) w0 ⟨_,_,_,_,_,_,_,_,_,_,_,_,_,_,_,_,_,_,_,_,_,_,_,_,_,_,_,rfl,hS.mt [1,2,0,3,4,5,6] [1,2,3,0,4,5,6,7,8,9]⟩ ?_;rintro s a w f3 ⟨ak,b0,bi,D,I,K,L,M,F,O,ab,af,g,m,el,h1,ll,h2,ag,W,c5,h3,c9,h4,dk,dl,dn,rfl,hS⟩ hM vs;have hM:c6 vrec t ak b0 bi D I K L M F O ab af g m=some f3:=hM;unfold c6 at hM;refine az ?_;refine ah hS fun a hS=>?_;rcases cd hM with⟨s2,hM⟩|⟨s2,hM⟩
       ·refine ah hS fun a hS=>?_;refine az ?_;refine dr [] hS fun w hQ hS=>?_;refine gE [0,1,2,3,4,5] hS fun a hS=>?_;obtain⟨v9,pk,hM⟩:=bd hM;obtain⟨x3,s3,sb⟩:=dO hS n9 cc 3 rfl 7 rfl (c:=[.int .i64 g,.string m]) (key:=(ae.mk g m)) rfl zR (zc:=[.string (ByteArray.mk #[])]) rfl rfl pk;obtain rfl:=s3;refine dy (l:=[]) 6 (v:=.tuple #[.string v9,.bool ((bQ aC (ae.mk g m) F).isSome)]) rfl (by kernel_rfl) (by kernel_rfl) (by kernel_rfl) (by kernel_rfl) hQ hS (sb rfl rfl bo) rfl rfl rfl fun a hS=>?_;refine gE [7,8,9,10,11] hS fun a hS=>?_;refine eD ?_;refine ah hS fun a hS=>?_;refine aG (J:=fun a w=>∃ (fl:LB) (ht:LK) (g2:Bool) (E:ByteArray) (eT:LU) (i0:Int) (i2:LI) (i3:LR) (i4:LB) (i5:LL) (em:AM) (h5:Nat) (ls:Value) (h6:LV) (hm:AM) (nl:Nat) (hn:AM) (nm:Nat) (lt:Value) (lv:Value) (ly:Value),St W0 (MD [xS d z n.Base.Revision A B b e,om b q r,om e o p]) T 135 [(0,pt d 0),(4,.map (some f)),(5,ls),(6,.bool g2),(7,.int .i64 t),(8,ag),(9,pt u 0),(10,.string E)] [om f em h5,au ls h6,.own ag 9 aN.str.size W,om b hm nl,om e hn nm,xS d lt i0 lv ly b e,.box u [.bool ab,.string af,.int .i64 g,.string m] 190] [iv em fl,uz em h5,am ac h6 ht,am aN.str W D,aJ ay lt eT,aJ ad lv i2,aJ aa ly i3,iv hm i4,po hn i5,bv] a w∧cg t D fl ht g2 E eT i0 i2 i3 i4 i5=some f3) ?_ ?_
        ·skip;refine ah hS fun a hS=>?_;rcases cd hM with⟨sc,hM⟩|⟨sc,hM⟩
         ·exact fz
         refine ah hS fun a hS=>?_;obtain⟨HY,pl,hM⟩:=bd hM;refine kc hS tW (cm _ _ hS.dlt (ae.mk g m) _ pl) fun _ w hR a hk hA=>?_;obtain rfl:=hR;have hS:=bV hA;refine ah hS fun a hS=>?_;rcases cd hM with⟨sk,hM⟩|⟨sk,hM⟩
         ·refine ah hS fun a hS=>?_;obtain⟨Jl,pw,hM⟩:=bd hM;replace hS:=hS.re [5,3,4] [0,1,2,6];refine wl rfl (cu hS A2 rfl rfl (hvrec _ _ hS.dltD (al.mk I (ai.mk K L M) F O) (ae.mk g m) _ _ _ _ _ _ _ _ _ _ hS.dok (hS.getD 4 rfl) (hS.getD 5 rfl) (hS.getD 6 rfl) (hS.getD 7 rfl) (hS.getD 8 rfl) (hS.getD 9 rfl) _ pw) fun _ w hR a hk hA=>?_);obtain⟨Jp,K2,Kz,B2,xc,Ba,xt,he,sn,of,oi,oj,o2,o3⟩:=hR;obtain rfl:=he.symm;have hS:=hA _ sn;replace hS:=((((hS.fS (of.sub (aw _))).fS (oi.sub (aw _))).fS (oj.sub (aw _))).fM (o2.keep (Kt.refl _ _) (aw _))).fM (o3.keep (Kt.refl _ _) (aw _));exact fz
         refine ah hS fun a hS=>?_;refine aG (J:=fun a w=>∃ (fn:LB) (hu:LK) (g3:Bool) (eq:AM) (h7:Nat) (m0:Value) (h8:LV),St W0 (MD [xS d z n.Base.Revision A B b e,om b q r,om e o p]) T 135 [(0,pt d 0),(4,.map (some f)),(5,m0),(6,.bool g3),(7,.int .i64 t),(8,ag),(9,pt u 0)] [om f eq h7,au m0 h8,.own ag 9 aN.str.size W,om b c5 h3,om e c9 h4,xS d dk K dl dn b e,.box u [.bool ab,.string af,.int .i64 g,.string m] 190] [iv eq fn,uz eq h7,am ac h8 hu,am aN.str W D,aJ ay dk I,aJ ad dl L,aJ aa dn M,iv c5 F,po c9 O,bv] a w∧cZ t D I K L M F O g m fn hu g3=some f3) ?_ ?_
         ·skip;refine ah hS fun a hS=>?_;obtain⟨vb,q0,hM⟩:=bd hM;obtain⟨xx,sp,sq⟩:=dO hS n9 cc 0 rfl 0 rfl (c:=[.int .i64 g,.string m]) (key:=(ae.mk g m)) rfl zR (zc:=[.string (ByteArray.mk #[])]) rfl rfl q0;obtain rfl:=sp;refine wl rfl (ky (v:=.tuple #[.string vb,.bool ((bQ aC (ae.mk g m) ak).isSome)]) hS (sq rfl rfl id) rfl rfl fun a hS=>?_);refine ah hS fun a hS=>?_;rcases cd hM with⟨st,hM⟩|⟨st,hM⟩
          ·refine ah hS fun a hS=>?_;refine az ?_;refine dr [(6,.blk (some f))] hS fun w hQ hS=>?_;refine gE [0,1,2,3,4] hS fun a hS=>?_;obtain⟨op,q1,hM⟩:=bd hM;refine ec 5 hS CJ (pL _ _ hS.dlt (ae.mk g m) _ q1) fun _ w hR a hk hA=>?_;obtain rfl:=hR;have hS:=bV hA;refine e1 6 (x6 hS n9 cc 0 rfl 0 rfl 1 rfl (c:=[.int .i64 g,.string m]) (cv:=[.string op]) (key:=(ae.mk g m)) (val:=op) rfl rfl rfl rfl rfl fun D0 y1 w hk hS=>⟨kB rfl hk iC,?_⟩);refine eD ?_;refine ah hS fun a hS=>?_;refine wl rfl (aT (ps:=[(0,.tmp 70)]) hS gm gh (zl:=[.int .i64 0,.string (ByteArray.mk #[])]) (by kernel_rfl) rfl (us:=[[.int .i64 g,.string m]]) ⟨rfl,trivial⟩ (ws:=[.int .i64 g,.string m]) rfl rfl rfl rfl fun wp a w hk hS=>?_);replace hS:=(hS.lit (R:=ac) (us:=[.int .i64 g,.string m]) (xs:=[(ae.mk g m)]) 0 rfl (by decide) (aB.one_ (R:=ac) (x:=(ae.mk g m)) rfl) rfl rfl).freeze (R:=ac) 0 rfl 0 rfl;obtain⟨sy,hM⟩:=aS hM;refine wl rfl (bw (R:=ac) (xs:=b0) (ys:=[(ae.mk g m)]) hS gm (by decide) (by decide) rfl rfl 1 rfl 6 rfl 0 rfl sy rfl fun KD y2 a w hk hS=>?_);exact fz
          exact fz
         rintro a w ⟨fn,hu,g3,eq,h7,m0,h8,hS,hM⟩;unfold cZ at hM;refine ah hS fun a hS=>?_;obtain⟨v8,pf,hM⟩:=bd hM;obtain⟨yv,sz,sT⟩:=dO hS n9 cc 0 rfl 0 rfl (c:=[.int .i64 g,.string m]) (key:=(ae.mk g m)) rfl zR (zc:=[.string (ByteArray.mk #[])]) rfl rfl pf;obtain rfl:=sz;refine wl rfl (ky (v:=.string v8) hS (sT rfl rfl id) rfl rfl fun a hS=>?_);exact fz
        rintro a w ⟨fl,ht,g2,E,eT,i0,i2,i3,i4,i5,em,h5,ls,h6,hm,nl,hn,nm,lt,lv,ly,hS,hM⟩;unfold cg at hM;refine ah hS fun a hS=>?_;refine wl rfl (aT (ps:=[(0,.tmp 89)]) hS uQ H0 (zl:=[.string (ByteArray.mk #[])]) (by kernel_rfl) rfl (us:=[[.string E]]) ⟨rfl,trivial⟩ (ws:=[.string E]) rfl rfl rfl rfl fun wr a w hk hS=>?_);replace hS:=(hS.lit (R:=aN.str) (us:=[.string E]) (xs:=[E]) 0 rfl (by decide) (aB.one_ (R:=aN.str) (x:=E) rfl) rfl rfl).freeze (R:=aN.str) 0 rfl 0 rfl;obtain⟨t0,hM⟩:=aS hM;refine wl rfl (bw (R:=aN.str) (xs:=D) (ys:=[E]) hS uQ (by decide) (by decide) rfl rfl 2 rfl 5 rfl 0 rfl t0 rfl fun KF yy a w hk hS=>?_);refine ah hS fun a hS=>?_;refine dr [(10,.blk (some u))] hS fun w hQ hS=>?_;refine gE [0,1,2,3,4,5] hS fun a hS=>?_;obtain⟨ha,p4,hM⟩:=bd hM;obtain⟨q5,v1,Hc,z0,t1,t2,t3,t4⟩:=kG (R:=ac) hS jd dd 1 rfl 5 rfl p4;obtain rfl:=t1;refine dy 6 (v:=pt q5 v1) rfl (by kernel_rfl) (by kernel_rfl) (by kernel_rfl) rfl hQ hS (t4 rfl rfl) rfl rfl rfl fun a hS=>?_;refine dy (l:=[]) 7 (v:=.agg (aM ha).toArray) rfl (by kernel_rfl) (by kernel_rfl) (by kernel_rfl) (by kernel_rfl) hQ hS (bL (k:=0) hS dd 1 rfl t2 t3 rfl bo (us:=(aM ha)) rfl rfl (fun h=>by cases h)) rfl rfl rfl fun a hS=>?_;refine gE [8] hS fun a hS=>?_;have hL:=hS;replace hL:=hL.freeze (R:=aN.str) 2 rfl 0 rfl;obtain⟨HX,pe,hM⟩:=bd hM;refine ec 9 hS tb (eZ _ _ hL.dlt (hL.get 13 rfl) eT ha (D ++ ([E])) _ _ (hL.get 8 rfl) (hL.get 0 rfl) _ pe) fun _ w hR a hk hA=>?_;obtain rfl:=hR;have hS:=bV hA;refine es 10 hS fun w hS=>?_;refine eD ?_;exact⟨_,(Option.some.inj hM).symm,_,_,_,_,_,_,_,_,_,_,_,_,_,_,_,_,_,_,_,_,_,_,_,_,_,_,_,rfl,hS.mt [0,1,2,3,4,5,6] [3,4,5,0,7,8,9,10,11,12]⟩
       refine ah hS fun a hS=>?_;cases hM
       have hr:=vs _ rfl;subst hr;have hM:dS t ak b0 bi I K L M F O ab af g m=some f2:=uv;exact⟨_,_,_,_,_,_,_,_,_,_,_,_,_,_,_,_,_,_,_,_,_,_,_,_,hS.mt [0,1,3,4,5,6] [0,1,2,4,5,6,7,8,9],hM⟩
      rintro a w ⟨fd,hs,g1,hN,hP,hV,hW,hX,hY,i9,b6,ib,ih,eg,gu,l2,h0,hj,nd,hl,ng,la,lb,le,hS,hM⟩;unfold dS at hM;refine az ?_;refine dr [] hS fun w hQ hS=>?_;refine gE [0,1,2] hS fun a hS=>?_;obtain⟨e2,p2,hM⟩:=bd hM;obtain⟨q6,v5,Hg,z1,t5,t6,t7,t9⟩:=kG (R:=ac) hS jd dd 1 rfl 2 rfl p2;obtain rfl:=t5;refine dy 3 (v:=pt q6 v5) rfl (by kernel_rfl) (by kernel_rfl) (by kernel_rfl) rfl hQ hS (t9 rfl rfl) rfl rfl rfl fun a hS=>?_;refine dy (l:=[]) 4 (v:=.agg (aM e2).toArray) rfl (by kernel_rfl) (by kernel_rfl) (by kernel_rfl) (by kernel_rfl) hQ hS (bL (k:=0) hS dd 1 rfl t6 t7 rfl bo (us:=(aM e2)) rfl rfl (fun h=>by cases h)) rfl rfl rfl fun a hS=>?_;obtain⟨v7,p7,hM⟩:=bd hM;obtain⟨z2,tc,te⟩:=dO hS n9 cc 0 rfl 0 rfl (c:=(aM e2)) (key:=e2) rfl zR (zc:=[.string (ByteArray.mk #[])]) rfl rfl p7;obtain rfl:=tc;refine dy (l:=[]) 5 (v:=.string v7) rfl (by kernel_rfl) (by kernel_rfl) (by kernel_rfl) (by kernel_rfl) hQ hS (te rfl rfl bo) rfl rfl rfl fun a hS=>?_;refine gE [6,7,8] hS fun a hS=>?_;refine eD ?_;refine ah hS fun a hS=>?_;rcases cd hM with⟨th,hM⟩|⟨th,hM⟩
      ·refine ah hS fun a hS=>?_;refine dr [(7,.blk (some f)),(9,.blk (some f))] hS fun w hQ hS=>?_;refine gE [0,1,2] hS fun a hS=>?_;obtain⟨e3,p3,hM⟩:=bd hM;obtain⟨q7,v6,Hv,z3,tk,tl,tm,ts⟩:=kG (R:=ac) hS jd dd 1 rfl 2 rfl p3;obtain rfl:=tk;refine dy 3 (v:=pt q7 v6) rfl (by kernel_rfl) (by kernel_rfl) (by kernel_rfl) rfl hQ hS (ts rfl rfl) rfl rfl rfl fun a hS=>?_;refine dy (l:=[]) 4 (v:=.agg (aM e3).toArray) rfl (by kernel_rfl) (by kernel_rfl) (by kernel_rfl) (by kernel_rfl) hQ hS (bL (k:=0) hS dd 1 rfl tl tm rfl bo (us:=(aM e3)) rfl rfl (fun h=>by cases h)) rfl rfl rfl fun a hS=>?_;refine gE [5] hS fun a hS=>?_;refine dy (l:=[.blk (some f)]) 6 (v:=.string b6) rfl (by kernel_rfl) (by kernel_rfl) (by kernel_rfl) (by kernel_rfl) hQ hS (dH hS rfl Fq 5 rfl (ic hS 5 rfl rfl 0 rfl rfl (by decide) bo) (us:=[.string b6]) rfl rfl (fun _=>rfl)) rfl rfl rfl fun a hS=>?_;refine e1 7 (BX hS rfl n9 cc 0 rfl 0 rfl 1 rfl (c:=(aM e3)) (key:=e3) rfl zR (zc:=[.string (ByteArray.mk #[])]) rfl rfl rfl rfl fun KG D1 z4 HT a w hk hS=>⟨kB rfl hk iC,?_⟩);refine gE [8] hS fun a hS=>?_;refine e1 9 (BY (val:=b6) hS 0 rfl 0 rfl rfl rfl rfl rfl fun DD w hk hS=>⟨kB rfl hk iC,?_⟩);refine gE [10] hS fun a hS=>?_;refine eD ?_;exact⟨_,_,_,_,_,_,_,_,_,_,_,_,_,_,_,_,_,_,_,_,hS.mt [0,1,2,3,4] [1,0,5,6,7,8,9,10,11],hM⟩
      exact fz
     rintro a w ⟨f6,hq,g0,hF,hG,hH,hI,hJ,hK,ed,gp,kv,gs,hh,n5,hi,n6,kx,l0,l1,hS,hM⟩;unfold cY at hM;exact fz
    refine ah hS fun a hS=>?_;cases hM
    have hr:=hf2 _ rfl;subst hr;have hM:fL U a1 V G a2 a3 a4 a5 a9=some f1:=hMo2;exact⟨_,_,_,_,_,_,_,_,_,_,_,_,_,_,_,_,_,_,_,_,hS.mt [0,1,2,3,4] [0,1,2,3,4,5,6,7,8],hM⟩
   rintro a w ⟨f4,hp,fs,hx,hy,hz,hB,hC,hE,ea,g7,k4,g8,hf,n2,hg,n3,kk,ks,kt,hS,hM⟩;unfold fL at hM;exact⟨_,(Option.some.inj hM).symm,_,_,_,_,_,_,_,_,_,_,_,_,_,_,_,_,_,_,_,_,rfl,hS.mt [0,1,2,3,4] [0,1,2,3,4,5,6,7,8]⟩
  refine ah hS fun a hS=>?_;cases hM
  have hr:=hf1 _ rfl;subst hr;have hM:dR bb ca cb ch ck cl co cs=some y:=hMo1;exact⟨_,_,_,_,_,_,_,_,_,_,_,_,_,_,_,_,_,_,_,hS.mt [0,1,2,3,4] [0,1,2,3,4,5,6,7,8],hM⟩
 rintro a w ⟨b9,ax,b1,b2,b3,b4,hw,b5,Y,bl,d3,bs,hb,ms,H,bt,P,Q,S,hS,hM⟩;unfold dR at hM;refine jV ?_;refine IY hS fun a hS=>?_;refine DU (J:=fun a w=>∃ (hv:LB) (er:AM) (h9:Nat),St W0 (MD [xS d z n.Base.Revision A B b e,om b q r,om e o p]) T 135 [] [om b er h9,om e H bt,xS d P b2 Q S b e] [aJ ay P b1,aJ ad Q b3,aJ aa S b4,iv er hv,po H b5,bv] a w∧i8 b1 b2 b3 b4 b5 hv=some y) ?_ ?_
 ·skip;refine ah hS fun a hS=>?_;obtain⟨r1,ok,hMo1⟩:=bd hM;refine bu _ (fun s a w=>∃ (et:Int) (ex:LB) (ho:AM) (no:Nat),(et,ex)=s∧St W0 (MD [xS d z n.Base.Revision A B b e,om b q r,om e o p]) T 135 [(0,pt d 0),(4,.map (some f)),(120,d3),(121,.int .i64 (ax.length:Int)),(122,.int .i64 et)] [om f Y bl,au d3 bs,om b ho no,om e H bt,xS d P b2 Q S b e] [iv Y b9,uz Y bl,am ac bs ax,aJ ay P b1,aJ ad Q b3,aJ aa S b4,iv ho ex,po H b5,bv] a w) ok ⟨_,_,_,_,rfl,hS.mt [0,1,2,3,4] [0,1,2,3,4,5,6,7,8]⟩ ?_;rintro s a w f1 ⟨et,ex,ho,no,rfl,hS⟩ hM hf1;have hM:fN b9 ax et ex=some f1:=hM;unfold fN at hM;refine ah hS fun a hS=>?_;refine az ?_;rcases cd hM with⟨tt,hM⟩|⟨tt,hM⟩
  ·refine ah hS fun a hS=>?_;refine az ?_;refine ah hS fun a hS=>?_;obtain⟨c2,p1,hM⟩:=bd hM;refine wl rfl (cR (R:=ac) hS jd dd rfl rfl 1 rfl 2 rfl p1 rfl fun x0 Ha HD z5 ty u1 u2 a hS=>?_);obtain rfl:=ty;refine qy hS (bL (k:=0) hS dd 1 rfl u1 u2 rfl id (us:=(aM c2)) rfl rfl (fun h=>by cases h)) fun a hS=>?_;refine ka hS gh fun x1 GF a w hk hS=>?_;refine go hS fun a w hS=>?_;refine dr [(8,.blk (some b))] hS fun w hQ hS=>?_;refine gE [0,1,2,3,4,5,6] hS fun a hS=>?_;obtain⟨js,p6,hM⟩:=bd hM;obtain⟨z9,u8,up⟩:=dO hS n9 cc 1 rfl 0 rfl (c:=(aM c2)) (key:=c2) rfl zR (zc:=[.string (ByteArray.mk #[])]) rfl rfl p6;obtain rfl:=u8;refine dy (l:=[]) 7 (v:=.string js) rfl (by kernel_rfl) (by kernel_rfl) (by kernel_rfl) (by kernel_rfl) hQ hS (up rfl rfl bo) rfl rfl rfl fun a hS=>?_;refine e1 8 (ub hS n9 cc 3 rfl 6 rfl (c:=(aM c2)) (cv:=[.string js]) (key:=c2) (val:=js) rfl rfl rfl rfl rfl fun E6 zs w hk hS=>⟨kB rfl hk iC,?_⟩);refine eD ?_;exact fz
  exact fz
 rintro a w ⟨hv,er,h9,hS,hM⟩;unfold i8 at hM;refine GJ ?_;cases hM
 refine aE hS Tryz.results202 aD ?_;have hZ:=hS.sl [2,0,1] [0,1,2,3,4];exact⟨P,Q,S,er,h9,H,bt,rfl,hZ.dnew,(hZ.get 0 rfl),(hZ.get 1 rfl),(hZ.get 2 rfl),(hZ.get 3 rfl),(hZ.get 4 rfl)⟩
def dQ (vrec:al→ae→Option (ByteArray×al)) (n:ae) (c:LY) (d:LU) (e:Int) (f:LI) (g:LR) (h:LB) (i:LL) (k:Bool) (j:ByteArray) (l:Int) (m:ByteArray):Option (Fl (LY×LU×Int×LI×LR×LB×LL) (ByteArray×al)):=cond k (some (.out (j,(al.mk d (ai.mk e f g) (cT aC n j h) i)))) ((vrec (al.mk d (ai.mk e f g) h i) (ae.mk l m)).bind fun b=>gd (br (c.length + ([b.1]).length)) <| some (.go ((c ++ ([b.1])),b.2.Rules,b.2.Base.Revision,b.2.Base.Inputs,b.2.Base.Records,b.2.Memo,b.2.Seen)))
def fK (vrec:al→ae→Option (ByteArray×al)) (e:ae) (c:LY) (d:LU) (f:Int) (g:LI) (h:LR) (i:LB) (j:LL):Option (Fl (LY×LU×Int×LI×LR×LB×LL) (ByteArray×al)):=(di d e c).bind fun b=>dQ vrec e c d f g h i j b.Done b.Value b.Ask.Kind b.Ask.Text
def dh (vrec:al→ae→Option (ByteArray×al)) (b:al) (c:ae):Option (ByteArray×al):=(ce c).bind fun e=>cond e ((ki b.Base c).bind fun f=>some ((f,b))) ((some ((bQ aC c b.Memo).getD (ByteArray.mk #[]))).bind fun g=>cond ((bQ aC c b.Memo).isSome) (some ((g,b))) ((bX c).bind fun h=>cond h ((fF vrec b c).bind fun d=>(some ((bQ aC c d.Memo).getD (ByteArray.mk #[]))).bind fun i=>some ((i,d))) ((loop (fun s:LY×LU×Int×LI×LR×LB×LL=>fK vrec c s.1 s.2.1 s.2.2.1 s.2.2.2.1 s.2.2.2.2.1 s.2.2.2.2.2.1 s.2.2.2.2.2.2) (([]:List ByteArray),b.Rules,b.Base.Revision,b.Base.Inputs,b.Base.Records,b.Memo,b.Seen)).bind fun y=>some (y))))
theorem rA (T:Nat→Prop) (W0:World) (hT:TW T W0) (vrec:al→ae→Option (ByteArray×al)) (hvrec:lJ vrec) (f:al) (g:ae) (b:Nat) (C:Value) (D:Value) (E:Value) (d:Nat) (k:Array MapEntry) (n:Nat) (e:Nat) (m:Array MapEntry) (h:Nat) (hD:vd T W0 [xS b C f.Base.Revision D E d e,om d k n,om e m h]) (e5:aA ay (dT T [xS b C f.Base.Revision D E d e,om d k n,om e m h]) W0 C f.Rules) (e8:aA ad (dT T [xS b C f.Base.Revision D E d e,om d k n,om e m h]) W0 D f.Base.Inputs) (ea:aA aa (dT T [xS b C f.Base.Revision D E d e,om d k n,om e m h]) W0 E f.Base.Records) (e2:bx ac true aN.str false (dT T [xS b C f.Base.Revision D E d e,om d k n,om e m h]) W0 k f.Memo) (e3:bx ac true (aN.slice ac) false (dT T [xS b C f.Base.Revision D E d e,om d k n,om e m h]) W0 m f.Seen) (hLv:cU (dT T [xS b C f.Base.Revision D E d e,om d k n,om e m h]) W0) (y:ByteArray×al) (hM:dh vrec f g=some y):aW Tryz.prog (MD [xS b C f.Base.Revision D E d e,om d k n,om e m h]) 184 [pt b 0,.agg (aM g).toArray] W0 (fun v w'=>∃ (S:Value) (U:Value) (V:Value) (q:Array MapEntry) (F:Nat) (r:Array MapEntry) (G:Nat),v = .string y.1∧n7 W0 w' [xS b C f.Base.Revision D E d e,om d k n,om e m h] [xS b S y.2.Base.Revision U V d e,om d q F,om e r G]∧aA ay (dT T [xS b S y.2.Base.Revision U V d e,om d q F,om e r G]) w' S y.2.Rules∧aA ad (dT T [xS b S y.2.Base.Revision U V d e,om d q F,om e r G]) w' U y.2.Base.Inputs∧aA aa (dT T [xS b S y.2.Base.Revision U V d e,om d q F,om e r G]) w' V y.2.Base.Records∧bx ac true aN.str false (dT T [xS b S y.2.Base.Revision U V d e,om d q F,om e r G]) w' q y.2.Memo∧bx ac true (aN.slice ac) false (dT T [xS b S y.2.Base.Revision U V d e,om d q F,om e r G]) w' r y.2.Seen):=by
 refine jp (c:=_) Tryz.func184 rfl T 64 Tryz.ntmps184 hT rfl hD fun a hS=>?_;replace hS:=(((((hS.fact bv hLv).fS e5).fS e8).fS ea).fM e2).fM e3;unfold dh at hM;refine ah hS fun a hS=>?_;refine kb hS fun X eT a w hk hS=>?_;refine ah hS fun a hS=>?_;refine az ?_;refine ah hS fun a hS=>?_;obtain⟨f2,b3,hM⟩:=bd hM;refine kc hS vq (c8 _ _ hS.dlt g _ b3) fun _ w hR a hk hA=>?_;obtain rfl:=hR;have hS:=bV hA;refine ah hS fun a hS=>?_;rcases cd hM with⟨c5,hM⟩|⟨c5,hM⟩
 ·refine ah hS fun a hS=>?_;refine az ?_;refine dr [] hS fun w hQ hS=>?_;refine gE [0,1,2,3,4] hS fun a hS=>?_;obtain⟨f3,b4,hM⟩:=bd hM;refine ec 5 hS Ep (px _ _ hS.dlt f.Base g _ _ (hS.get 3 rfl) (hS.get 2 rfl) _ b4) fun _ w hR a hk hA=>?_;obtain rfl:=hR;have hS:=bV hA;refine gE [6] hS fun a hS=>?_;refine eD ?_;refine ah hS fun a hS=>?_;cases hM
  refine aE hS rfl (ap hS rfl aD) ?_;have hZ:=hS.sl [1,2,3] [4,3,2,1,0];exact⟨C,D,E,k,n,m,h,rfl,hZ.dnew,(hZ.get 0 rfl),(hZ.get 1 rfl),(hZ.get 2 rfl),(hZ.get 3 rfl),(hZ.get 4 rfl)⟩
 refine ah hS fun a hS=>?_;refine az ?_;refine az ?_;refine dr [] hS fun w hQ hS=>?_;refine gE [0,1,2,3,4] hS fun a hS=>?_;obtain⟨da,b6,hM⟩:=bd hM;obtain⟨eg,c9,ca⟩:=dO hS n9 cc 2 rfl 1 rfl (c:=(aM g)) (key:=g) rfl zR (zc:=[.string (ByteArray.mk #[])]) rfl rfl b6;obtain rfl:=c9;refine dy (l:=[]) 5 (v:=.tuple #[.string da,.bool ((bQ aC g f.Memo).isSome)]) rfl (by kernel_rfl) (by kernel_rfl) (by kernel_rfl) (by kernel_rfl) hQ hS (ca rfl rfl bo) rfl rfl rfl fun a hS=>?_;refine gE [6,7,8,9,10] hS fun a hS=>?_;refine eD ?_;refine ah hS fun a hS=>?_;rcases cd hM with⟨cb,hM⟩|⟨cb,hM⟩
 ·refine ah hS fun a hS=>?_;cases hM
  refine aE hS rfl (ap hS rfl aD) ?_;have hZ:=hS.sl [1,2,3] [4,3,2,1,0];exact⟨C,D,E,k,n,m,h,rfl,hZ.dnew,(hZ.get 0 rfl),(hZ.get 1 rfl),(hZ.get 2 rfl),(hZ.get 3 rfl),(hZ.get 4 rfl)⟩
 refine ah hS fun a hS=>?_;refine az ?_;refine ah hS fun a hS=>?_;obtain⟨f4,b9,hM⟩:=bd hM;refine kc hS tW (cm _ _ hS.dlt g _ b9) fun _ w hR a hk hA=>?_;obtain rfl:=hR;have hS:=bV hA;refine ah hS fun a hS=>?_;rcases cd hM with⟨ch,hM⟩|⟨ch,hM⟩
 ·refine ah hS fun a hS=>?_;obtain⟨f6,bb,hM⟩:=bd hM;replace hS:=hS.re [1,2,3] [0];refine wl rfl (cu hS IG rfl rfl (rB _ _ hS.dltD vrec hvrec f g _ _ _ _ _ _ _ _ _ _ hS.dok (hS.getD 4 rfl) (hS.getD 3 rfl) (hS.getD 2 rfl) (hS.getD 1 rfl) (hS.getD 0 rfl) (hS.getD 5 rfl) _ bb) fun _ w hR a hk hA=>?_);obtain⟨dk,dl,dn,c2,bt,c3,c0,he,ck,ag,ak,ao,a5,a9⟩:=hR;obtain rfl:=he.symm;have hS:=hA _ ck;replace hS:=((((hS.fS (ag.sub (aw _))).fS (ak.sub (aw _))).fS (ao.sub (aw _))).fM (a5.keep (Kt.refl _ _) (aw _))).fM (a9.keep (Kt.refl _ _) (aw _));refine ah hS fun a hS=>?_;refine az ?_;refine dr [] hS fun w hQ hS=>?_;refine gE [0,1,2,3,4] hS fun a hS=>?_;obtain⟨dc,bi,hM⟩:=bd hM;obtain⟨el,cl,co⟩:=dO hS n9 cc 1 rfl 1 rfl (c:=(aM g)) (key:=g) rfl zR (zc:=[.string (ByteArray.mk #[])]) rfl rfl bi;obtain rfl:=cl;refine dy (l:=[]) 5 (v:=.string dc) rfl (by kernel_rfl) (by kernel_rfl) (by kernel_rfl) (by kernel_rfl) hQ hS (co rfl rfl bo) rfl rfl rfl fun a hS=>?_;refine gE [6] hS fun a hS=>?_;refine eD ?_;refine ah hS fun a hS=>?_;cases hM
  refine aE hS rfl (ap hS rfl aD) ?_;have hZ:=hS.sl [0,1,2] [4,3,2,1,0];exact⟨dk,dl,dn,c2,bt,c3,c0,rfl,hZ.dnew,(hZ.get 0 rfl),(hZ.get 1 rfl),(hZ.get 2 rfl),(hZ.get 3 rfl),(hZ.get 4 rfl)⟩
 refine ah hS fun a hS=>?_;replace hS:=hS.nilRow aN.str 9 (by decide);obtain⟨r1,e4,hMo1⟩:=bd hM;refine bu _ (fun s a w=>∃ (o:LY) (p:LU) (t:Int) (u:LI) (z:LR) (A:LB) (B:LL) (W:Value) (O:LV) (P:AM) (a2:Nat) (H:AM) (Y:Nat) (K:Value) (L:Value) (M:Value),(o,p,t,u,z,A,B)=s∧St W0 (MD [xS b C f.Base.Revision D E d e,om d k n,om e m h]) T 64 [(0,pt b 0),(3,pt X 0),(7,W)] [.own W 9 aN.str.size O,om d P a2,om e H Y,xS b K t L M d e,.box X (aM g) 44] [am aN.str O o,aJ ay K p,aJ ad L u,aJ aa M z,iv P A,po H B,bv] a w) e4 ⟨_,_,_,_,_,_,_,_,_,_,_,_,_,_,_,_,rfl,hS.mt [0,3,4,2,1] [0,5,4,3,2,1,6]⟩ ?_;rintro s a w f1 ⟨o,p,t,u,z,A,B,W,O,P,a2,H,Y,K,L,M,rfl,hS⟩ hM hf1;have hM:fK vrec g o p t u z A B=some f1:=hM;unfold fK at hM;refine ah hS fun a hS=>?_;refine aG (J:=fun a w=>∃ (a3:Bool) (Q:ByteArray) (Z:Int) (a0:ByteArray) (a1:Nat),St W0 (MD [xS b C f.Base.Revision D E d e,om d k n,om e m h]) T 64 [(0,pt b 0),(3,pt X 0),(7,W),(8,pt a1 0)] [.own W 9 aN.str.size O,om d P a2,om e H Y,xS b K t L M d e,.box X (aM g) 44,.box a1 [.bool a3,.string Q,.int .i64 Z,.string a0] 190] [am aN.str O o,aJ ay K p,aJ ad L u,aJ aa M z,iv P A,po H B,bv] a w∧dQ vrec g o p t u z A B a3 Q Z a0=some f1) ?_ ?_
 ·skip;obtain⟨N149,b1⟩:∃ N,N=w.heap.size:=⟨_,rfl⟩;replace hS:=hS.fact (BA N149) (Nat.le_of_eq b1);refine dr [(8,.new N149)] hS fun w hQ hS=>?_;refine gE [0,1,2,3,4,5] hS fun a hS=>?_;have hL:=hS;replace hL:=hL.freeze (R:=aN.str) 0 rfl 1 rfl;obtain⟨eX,a4,hM⟩:=bd hM;refine de (i:=6) (j:=7) rfl rfl (by kernel_rfl) rfl rfl ?_ ?_
  ·skip;skip;have hL:=hS;replace hL:=hL.freeze (R:=aN.str) 0 rfl 1 rfl;refine id (a8 hS tb rfl rfl (eZ _ _ hL.dlt (hL.get 8 rfl) p g o _ _ (hL.get 3 rfl) (hL.get 0 rfl) _ a4) fun _ w hR a hk hA=>⟨fc (hk),?_⟩);obtain rfl:=hR;have hS:=bV hA;have cs:=(hS.get 0 rfl:N149≤w.heap.size);refine e1 7 (cr hS mP rfl fun bl d0 a w hk hS=>⟨fc (hk),?_⟩);refine cC 8 (.blk (some bl)) _ (by kernel_rfl) (lZ (Nat.le_trans cs d0)) ?_;refine es 8 hS fun w hS=>?_;refine eD ?_;exact⟨_,_,_,_,_,hS.mt [1,2,3,4,5,0] [1,2,3,4,5,6,7],hM⟩
  skip;have d1:=(hS.get 0 rfl:N149≤w.heap.size);refine id (cr hS mP rfl fun bs d2 a w hk hS=>⟨fc (hk),?_⟩);refine cC 8 (.blk (some bs)) _ (by kernel_rfl) (lZ (Nat.le_trans d1 d2)) ?_;have hL:=hS;replace hL:=hL.freeze (R:=aN.str) 1 rfl 1 rfl;refine ec 6 hS tb (eZ _ _ hL.dlt (hL.get 8 rfl) p g o _ _ (hL.get 3 rfl) (hL.get 0 rfl) _ a4) fun _ w hR a hk hA=>?_;obtain rfl:=hR;have hS:=bV hA;refine es 8 hS fun w hS=>?_;refine eD ?_;exact⟨_,_,_,_,_,hS.mt [1,2,3,4,5,0] [1,2,3,4,5,6,7],hM⟩
 rintro a w ⟨a3,Q,Z,a0,a1,hS,hM⟩;unfold dQ at hM;refine az ?_;refine ah hS fun a hS=>?_;rcases cd hM with⟨d3,hM⟩|⟨d3,hM⟩
 ·refine ah hS fun a hS=>?_;refine az ?_;refine dr [(7,.blk (some d))] hS fun w hQ hS=>?_;refine gE [0,1,2,3,4,5,6] hS fun a hS=>?_;refine e1 7 (ub hS n9 cc 1 rfl 4 rfl (c:=(aM g)) (cv:=[.string Q]) (key:=g) (val:=Q) rfl rfl rfl rfl rfl fun c4 c1 w hk hS=>⟨kB rfl hk iC,?_⟩);refine eD ?_;refine ah hS fun a hS=>?_;cases hM
  have hr:=hf1 _ rfl;subst hr;have hM:=hMo1;cases hM
  refine aE hS rfl (ap hS rfl aD) ?_;have hZ:=hS.sl [3,1,2] [2,3,4,0,6];exact⟨K,L,M,c4,c1,H,Y,rfl,hZ.dnew,(hZ.get 0 rfl),(hZ.get 1 rfl),(hZ.get 2 rfl),(hZ.get 3 rfl),(hZ.get 4 rfl)⟩
 refine ah hS fun a hS=>?_;obtain⟨I,b2,hM⟩:=bd hM;replace hS:=hS.re [3,1,2] [0,4,5];refine wl rfl (cu hS A2 rfl rfl (hvrec _ _ hS.dltD (al.mk p (ai.mk t u z) A B) (ae.mk Z a0) _ _ _ _ _ _ _ _ _ _ hS.dok (hS.getD 1 rfl) (hS.getD 2 rfl) (hS.getD 3 rfl) (hS.getD 4 rfl) (hS.getD 5 rfl) (hS.getD 6 rfl) _ b2) fun _ w hR a hk hA=>?_);obtain⟨fd,fl,fn,et,em,ex,eq,he,d4,av,ax,b0,ab,af⟩:=hR;obtain rfl:=he.symm;have hS:=hA _ d4;replace hS:=((((hS.fS (av.sub (aw _))).fS (ax.sub (aw _))).fS (b0.sub (aw _))).fM (ab.keep (Kt.refl _ _) (aw _))).fM (af.keep (Kt.refl _ _) (aw _));refine wl rfl (aT (ps:=[(0,.tmp 61)]) hS uQ H0 (zl:=[.string (ByteArray.mk #[])]) (by kernel_rfl) rfl (us:=[[.string I.1]]) ⟨rfl,trivial⟩ (ws:=[.string I.1]) rfl rfl rfl rfl fun ed a w hk hS=>?_);replace hS:=(hS.lit (R:=aN.str) (us:=[.string I.1]) (xs:=[I.1]) 0 rfl (by decide) (aB.one_ (R:=aN.str) (x:=I.1) rfl) rfl rfl).freeze (R:=aN.str) 0 rfl 0 rfl;obtain⟨d6,hM⟩:=aS hM;refine wl rfl (bw (R:=aN.str) (xs:=o) (ys:=[I.1]) hS uQ (by decide) (by decide) rfl rfl 3 rfl 7 rfl 0 rfl d6 rfl fun fr er a w hk hS=>?_);exact fz
end
end
section
open Go.RowKit
open Go.Lib hiding intOf
def fq (s:ByteArray):Int:=if tg s.toList < 0 then 0 else if 65535 < tg s.toList then 0 else tg s.toList
theorem zG (s:ByteArray):lS s=some (fq s):=by
  unfold lS fq
  rw [CQ,Option.bind_some]
  by_cases h1:tg s.toList < 0
  · simp [h1]
  · by_cases h2:65535 < tg s.toList
    · simp [h1,h2]
    · simp [h1,h2]
theorem gx (s:ByteArray):0≤fq s∧fq s≤65535:=by
  unfold fq
  split
  · omega
  · split <;> omega
theorem tQ {n:Nat} (h:n < 65536):fq (cq n)=n:=by
  unfold fq
  rw [oS,mg,yV (by omega),if_neg (by omega),if_neg (by omega)]
theorem sa:∀ {l:List Int},(∀ x ∈ l,0≤x∧x≤65535)→0≤l.sum∧l.sum≤65535 * l.length
  | [],_=>by simp
  | a :: l,h=>by
    have h1:=sa (l:=l) fun x hx=>h x (List.mem_cons_of_mem _ hx)
    have h2:=h a List.mem_cons_self
    simp only [List.sum_cons,List.length_cons]
    omega
def qZ (r:aK) (ls:List ByteArray):Int :=
  let s:=r.C + (ls.map fq).sum
  if r.Final=1 then s.tmod 1000 else if r.Final=2 then (s.tdiv 2).tmod 1000 else if r.Final=3 then (ls.map fq).foldl max r.C else if r.Final=4 then s.tmod 2 else (ls.map fq).foldl (fun a b=>xX .or .i64 a b) r.C
theorem Fn {α:Type} {l:List α} {k:Nat} (h:k < l.length):l.take (k + 1)=l.take k ++ [l[k]]:=by rw [List.take_add_one,List.getElem?_eq_getElem h]; rfl
theorem CW {r:aK} {ls:List ByteArray} (hc:0≤r.C∧r.C≤65535) (hl:ls.length≤1000):nO r ls=some (qZ r ls):=by
  have hb:∀ x ∈ ls.map fq,0≤x∧x≤65535:=fun x hx=>by
    obtain⟨s,_,rfl⟩:=List.mem_map.1 hx
    exact gx s
  have h1:loop (fun s:Int×Int×Int×Int=>gR ls s.1 s.2.1 s.2.2.1 s.2.2.2) (r.C,r.C,r.C,0)=some (r.C + (ls.map fq).sum,(ls.map fq).foldl max r.C,(ls.map fq).foldl (fun a b=>xX .or .i64 a b) r.C):=by
    refine u7 (I:=fun k s=>s=(r.C + ((ls.take k).map fq).sum,((ls.take k).map fq).foldl max r.C,((ls.take k).map fq).foldl (fun a b=>xX .or .i64 a b) r.C,(k:Int))) _ ls.length ?_ ?_ (by simp)
    · rintro k _ hk rfl
      left
      refine⟨_,?_,rfl⟩
      unfold gR
      have hs:=sa (l:=(ls.take k).map fq) fun x hx=>by
        obtain⟨s,_,rfl⟩:=List.mem_map.1 hx
        exact gx s
      have hlen:((ls.take k).map fq).length≤1000:=by rw [List.length_map,List.length_take]; omega
      have hx:=gx ls[k]
      dsimp only
      rw [dlt hk,cond_true,bB hk,Option.bind_some,zG,Option.bind_some,pm (by omega) (by omega),pm (by omega) (by omega),Fn hk]
      simp only [List.map_append,List.map_cons,List.map_nil,List.sum_append,List.foldl_append,List.foldl_cons,List.foldl_nil,List.sum_cons,List.sum_nil,Int.add_zero,Int.natCast_add,Int.natCast_one,Int.add_assoc]
    · rintro _ rfl
      unfold gR
      rw [bA]
      simp
  have hs:=sa hb
  rw [List.length_map] at hs
  unfold nO jC qZ
  rw [h1,Option.bind_some]
  simp only []
  by_cases f1:r.Final=1
  · simp [f1]
  · by_cases f2:r.Final=2
    · have ht:0≤(r.C + (ls.map fq).sum).tdiv 2∧(r.C + (ls.map fq).sum).tdiv 2≤r.C + (ls.map fq).sum:=by
        rw [Int.tdiv_eq_ediv_of_nonneg (by omega)]; omega
      simp only [f2]
      rw [pm (by omega) (by omega)]
      simp
    · by_cases f3:r.Final=3
      · simp [f3]
      · by_cases f4:r.Final=4
        · simp [f4]
        · have hb:∀ n:Int,r.Final ≠ n→(r.Final == n)=false:=fun n h=>by simpa using h
          rw [hb 1 f1,hb 2 f2,hb 3 f3,hb 4 f4]
          simp [f1,f2,f3,f4]
theorem I8 {a b:Nat} (ha:a < 65536) (hb:b < 65536):xX .or .i64 (a:Int) (b:Int)=((a ||| b:Nat):Int)∧a ||| b < 65536:=by
  have h:=Nat.or_lt_two_pow (n:=16) ha hb
  refine⟨?_,h⟩
  unfold xX
  simp only [show IntKind.i64.bits=64 from rfl]
  rw [BitVec.toNat_or,BitVec.toNat_ofInt,BitVec.toNat_ofInt,show ((a:Int) % ((2 ^ IntKind.i64.bits:Nat):Int)).toNat=a by rw [show IntKind.i64.bits=64 from rfl]; omega,show ((b:Int) % ((2 ^ IntKind.i64.bits:Nat):Int)).toNat=b by rw [show IntKind.i64.bits=64 from rfl]; omega]
  exact pm (by omega) (by omega)
theorem xW:∀ (l:List Nat) (a:Nat),(∀ x ∈ l,x≤65535)→a < 65536→(l.map fun x:Nat=>(x:Int)).foldl (fun a b=>xX .or .i64 a b) (a:Int)=((l.foldl (· ||| ·) a:Nat):Int)∧l.foldl (· ||| ·) a < 65536
  | [],a,_,ha=>⟨rfl,ha⟩
  | x :: l,a,h,ha=>by
    have hx:=h x List.mem_cons_self
    obtain⟨h1,h2⟩:=I8 ha (show x < 65536 by omega)
    simp only [List.map_cons,List.foldl_cons,h1]
    exact xW l _ (fun y hy=>h y (List.mem_cons_of_mem _ hy)) h2
theorem sM {l:List aK} {n:Nat} {r:aK} (hR:bz l) (h:l[n]? = some r) {ls:List ByteArray} (hl:ls.length≤3):∃ m:Nat,qZ r ls=m∧m < 65536:=by
  have hb:∀ x ∈ ls.map fq,0≤x∧x≤65535:=fun x hx=>by
    obtain⟨s,_,rfl⟩:=List.mem_map.1 hx
    exact gx s
  have hs:=sa hb
  rw [List.length_map] at hs
  have hr:=hR.each n r h
  unfold qZ
  dsimp only
  cases hg:r.Ring with
  | false =>
    obtain⟨h1,h2,h3,h4⟩:=hr.plain hg
    have key:∀ z:Int,0≤z→z < 65536→∃ m:Nat,z=m∧m < 65536:=fun z h1 h2=>⟨z.toNat,by omega,by omega⟩
    by_cases f1:r.Final=1
    · rw [if_pos f1]
      refine key _ (Int.tmod_nonneg _ (by omega)) ?_
      have:=Int.tmod_lt_of_pos (r.C + (ls.map fq).sum) (b:=1000) (by omega)
      omega
    · rw [if_neg f1]
      by_cases f2:r.Final=2
      · rw [if_pos f2]
        have ht:0≤(r.C + (ls.map fq).sum).tdiv 2:=by rw [Int.tdiv_eq_ediv_of_nonneg (by omega)]; omega
        refine key _ (Int.tmod_nonneg _ ht) ?_
        have:=Int.tmod_lt_of_pos ((r.C + (ls.map fq).sum).tdiv 2) (b:=1000) (by omega)
        omega
      · rw [if_neg f2]
        by_cases f3:r.Final=3
        · rw [if_pos f3]
          have hm:∀ (xs:List Int) (c:Int),(∀ x ∈ xs,0≤x∧x≤65535)→0≤c→c≤65535→0≤xs.foldl max c∧xs.foldl max c≤65535:=by
            intro xs
            induction xs with
            | nil=>intro c _ h1 h2; exact⟨h1,h2⟩
            | cons x xs ih =>
              intro c hx h1 h2
              have:=hx x List.mem_cons_self
              exact ih _ (fun y hy=>hx y (List.mem_cons_of_mem _ hy)) (by omega) (by omega)
          have:=hm (ls.map fq) r.C hb (by omega) (by omega)
          exact key _ this.1 (by omega)
        · rw [if_neg f3,if_pos (by omega)]
          refine key _ (Int.tmod_nonneg _ (by omega)) ?_
          have:=Int.tmod_lt_of_pos (r.C + (ls.map fq).sum) (b:=2) (by omega)
          omega
  | true =>
    obtain⟨h1,h2,h3⟩:=hr.ring hg
    rw [if_neg (by omega),if_neg (by omega),if_neg (by omega),if_neg (by omega)]
    obtain⟨c,hc⟩:∃ c:Nat,r.C=c:=⟨r.C.toNat,by omega⟩
    have e:ls.map fq=(ls.map fun s=>(fq s).toNat).map fun x:Nat=>(x:Int):=by
      rw [List.map_map]
      refine List.map_congr_left fun s _=>?_
      have:=gx s
      simp only [Function.comp]
      omega
    rw [e,hc]
    have:=xW (ls.map fun s=>(fq s).toNat) c (fun x hx=>by
      obtain⟨s,_,rfl⟩:=List.mem_map.1 hx
      have:=gx s
      omega) (by omega)
    exact⟨_,this.1,this.2⟩
end
section
open Go.RowKit
open Go.Lib hiding intOf
theorem AW:∀ a:List UInt8,compareBytes a a=0
  | []=>rfl
  | x :: r=>by
    have:¬ x < x:=UInt8.lt_irrefl x
    simp [compareBytes,this,AW r]
theorem FH:∀ {a b:List UInt8},compareBytes a b=0→a=b
  | [],[],_=>rfl
  | [],_ :: _,h=>by simp [compareBytes] at h
  | _ :: _,[],h=>by simp [compareBytes] at h
  | x :: a,y :: b,h=>by
    unfold compareBytes at h
    split at h
    · cases h
    · split at h
      · cases h
      · rename_i h1 h2
        have e:x=y:=UInt8.le_antisymm (UInt8.not_lt.1 h2) (UInt8.not_lt.1 h1)
        rw [e,FH h]
theorem AV:∀ a b:List UInt8,compareBytes b a = -compareBytes a b
  | [],[]=>rfl
  | [],_ :: _=>rfl
  | _ :: _,[]=>rfl
  | x :: a,y :: b=>by
    unfold compareBytes
    by_cases h1:x < y
    · have h2:¬ y < x:=fun h=>UInt8.lt_irrefl _ (UInt8.lt_trans h1 h)
      simp [h1,h2]
    · by_cases h2:y < x
      · simp [h1,h2]
      · simp [h1,h2,AV a b]
theorem CC (a b:List UInt8):compareBytes a b = -1∨compareBytes a b=0∨compareBytes a b=1:=by
  induction a generalizing b with
  | nil=>cases b <;> simp [compareBytes]
  | cons x a ih =>
    cases b with
    | nil=>simp [compareBytes]
    | cons y b =>
      unfold compareBytes
      split
      · simp
      · split
        · simp
        · exact ih b
theorem yQ:∀ {a b c:List UInt8},compareBytes a b < 0→compareBytes b c < 0→compareBytes a c < 0
  | [],[],_,h,_=>by simp [compareBytes] at h
  | [],_ :: _,[],_,h=>by simp [compareBytes] at h
  | [],_ :: _,_ :: _,_,_=>by simp [compareBytes]
  | _ :: _,[],_,h,_=>by simp [compareBytes] at h
  | _ :: _,_ :: _,[],_,h=>by simp [compareBytes] at h
  | x :: a,y :: b,z :: c,h1,h2=>by
    unfold compareBytes at h1 h2 ⊢
    by_cases e1:x < y
    · by_cases e2:y < z
      · simp [UInt8.lt_trans e1 e2]
      · by_cases e3:z < y
        · simp [e2,e3] at h2
        · have e:y=z:=UInt8.le_antisymm (UInt8.not_lt.1 e3) (UInt8.not_lt.1 e2)
          subst e; simp [e1]
    · by_cases e2:y < x
      · simp [e1,e2] at h1
      · have e:x=y:=UInt8.le_antisymm (UInt8.not_lt.1 e2) (UInt8.not_lt.1 e1)
        subst e
        simp only [e1,if_false] at h1
        by_cases e3:x < z
        · simp [e3]
        · by_cases e4:z < x
          · simp [e3,e4] at h2
          · simp only [e3,e4,if_false] at h2 ⊢
            exact yQ h1 h2
def bE (a b:ae):Int:=if a.Kind < b.Kind then -1 else if b.Kind < a.Kind then 1 else compareBytes a.Text.toList b.Text.toList
theorem toList_inj {a b:ByteArray} (h:a.toList=b.toList):a=b:=by
  rw [ByteArray.toList_eq,ByteArray.toList_eq] at h
  exact ByteArray.ext (Array.toList_inj.1 h)
theorem rW (a:ae):bE a a=0:=by simp [bE,AW]
theorem E4 {a b:ae} (h:bE a b=0):a=b:=by
  unfold bE at h
  split at h
  · cases h
  · split at h
    · cases h
    · obtain⟨k,t⟩:=a
      obtain⟨l,s⟩:=b
      simp only [ae.mk.injEq] at *
      exact⟨by omega,toList_inj (FH h)⟩
theorem uc (a b:ae):bE b a = -bE a b:=by
  unfold bE
  by_cases h1:a.Kind < b.Kind
  · have h2:¬ b.Kind < a.Kind:=by omega
    simp [h1,h2]
  · by_cases h2:b.Kind < a.Kind
    · simp [h1,h2]
    · simp [h1,h2,AV a.Text.toList]
theorem oV (a b:ae):bE a b = -1∨bE a b=0∨bE a b=1:=by
  unfold bE
  split
  · simp
  · split
    · simp
    · exact CC _ _
theorem jr {a b c:ae} (h1:bE a b < 0) (h2:bE b c < 0):bE a c < 0:=by
  unfold bE at h1 h2 ⊢
  by_cases e1:a.Kind < b.Kind
  · by_cases e2:b.Kind < c.Kind
    · rw [if_pos (by omega)]; omega
    · by_cases e3:c.Kind < b.Kind
      · simp [e2,e3] at h2
      · rw [if_pos (by omega)]; omega
  · by_cases e2:b.Kind < a.Kind
    · simp [e1,e2] at h1
    · simp only [e1,e2,if_false] at h1
      by_cases e3:b.Kind < c.Kind
      · rw [if_pos (by omega)]; omega
      · by_cases e4:c.Kind < b.Kind
        · simp [e3,e4] at h2
        · simp only [e3,e4,if_false] at h2
          rw [if_neg (by omega),if_neg (by omega)]
          exact yQ h1 h2
theorem mh {a b:ae}:0 < bE a b↔bE b a < 0:=by rw [uc a b]; omega
theorem oW {a:ae}:¬ bE a a < 0:=by rw [rW]; omega
theorem rV {a b:ae} (h:bE a b < 0):¬ bE b a < 0:=by rw [uc a b]; omega
theorem nn {a b:ae} (h:bE a b < 0):a ≠ b:=fun e=>by subst e; exact oW h
theorem qb (a b:ae):bE a b < 0∨a=b∨bE b a < 0:=by
  rcases oV a b with h | h | h
  · exact .inl (by omega)
  · exact .inr (.inl (E4 h))
  · exact .inr (.inr (by rw [uc a b]; omega))
theorem kK {a b c:ae} (h1:¬ bE b a < 0) (h2:bE b c < 0):bE a c < 0:=by
  rcases qb a b with h | h | h
  · exact jr h h2
  · subst h; exact h2
  · exact absurd h h1
def cS (a b:ae):Bool:=a.Kind == b.Kind && a.Text.toList == b.Text.toList
theorem dz {a b:ae}:cS a b=true↔a=b:=by
  unfold cS
  obtain⟨k,t⟩:=a
  obtain⟨l,s⟩:=b
  simp only [Bool.and_eq_true,beq_iff_eq,ae.mk.injEq]
  exact⟨fun h=>⟨h.1,toList_inj h.2⟩,fun h=>⟨h.1,by rw [h.2]⟩⟩
theorem qu {a b:ae}:cS a b=false↔a ≠ b:=by rw [← Bool.not_eq_true,dz]
theorem Ey (x y:Int):nG x y=some (if x < y then -1 else if y < x then 1 else 0):=by
  unfold nG kE
  by_cases h1:x < y
  · simp [h1]
  · by_cases h2:y < x <;> simp [h1,h2]
theorem HC (a b:Int):vw [a,b]=some (if a ≠ 0 then a else b):=by
  unfold vw
  by_cases h:a=0
  · subst h
    rw [yb (s':=1)]
    · by_cases hb:b=0
      · subst hb
        rw [yb (s':=2)]
        · rw [nJ (r:=.go ())]
          · rfl
          · rfl
        · rfl
      · rw [nJ (r:=.out b)]
        · simp [Fl.el]
        · unfold pV
          have:(b != 0)=true:=by simpa using hb
          simp [be,this]
    · rfl
  · rw [nJ (r:=.out a)]
    · simp [Fl.el,h]
    · unfold pV
      have:(a != 0)=true:=by simpa using h
      simp [be,this]
theorem xL (a b:ae):pu a b=some (bE a b):=by
  unfold pu bE pW
  rw [Ey]
  simp only [Option.bind_some]
  rw [HC]
  by_cases h1:a.Kind < b.Kind
  · simp [h1]
  · by_cases h2:b.Kind < a.Kind <;> simp [h1,h2]
section
variable {κ ν:Type} {q:κ→κ→Bool} (hq:∀ a b,q a b=true↔a=b)
def Nd (xs:List (κ×ν)):Prop:=(xs.map (·.1)).Nodup
include hq
theorem o4 (a:κ):q a a=true:=(hq a a).2 rfl
theorem ui {a b:κ} (h:a ≠ b):q a b=false:=by rw [← Bool.not_eq_true,hq]; exact h
theorem tv {k:κ} {v:ν}:∀ {xs:List (κ×ν)},Nd xs→(bQ q k xs=some v↔(k,v) ∈ xs)
  | [],_=>by simp [bQ]
  | x :: r,h=>by
    have h':=List.nodup_cons.1 (show (x.1 :: r.map (·.1)).Nodup from h)
    have ih:=tv (k:=k) (v:=v) (xs:=r) h'.2
    by_cases e:k=x.1
    · subst e
      rw [bQ,o4 hq,cond_true]
      constructor
      · intro h; injection h with h; rw [← h]; exact List.mem_cons_self
      · intro hm
        rcases List.mem_cons.1 hm with hm | hm
        · rw [← hm]
        · exact absurd (List.mem_map_of_mem (f:=(·.1)) hm) h'.1
    · rw [bQ,ui hq e,cond_false,ih,List.mem_cons]
      constructor
      · exact .inr
      · rintro (h | h)
        · exact absurd (congrArg (·.1) h) e
        · exact h
theorem xp {k:κ}:∀ {xs:List (κ×ν)},bQ q k xs=none↔∀ v,(k,v) ∉ xs
  | []=>by simp [bQ]
  | x :: r=>by
    by_cases e:k=x.1
    · rw [bQ,e,o4 hq,cond_true]
      constructor
      · intro h; cases h
      · intro h; exact absurd List.mem_cons_self (h x.2)
    · rw [bQ,ui hq e,cond_false,xp]
      constructor
      · intro h v hv
        rcases List.mem_cons.1 hv with hv | hv
        · exact e (congrArg (·.1) hv)
        · exact h v hv
      · intro h v hv; exact h v (List.mem_cons_of_mem _ hv)
theorem qc (k k':κ) (v:ν):∀ (xs:List (κ×ν)),bQ q k (cT q k' v xs)=if q k k' then some v else bQ q k xs
  | []=>by simp [cT,bQ,Bool.cond_eq_ite]
  | x :: r=>by
    by_cases e:k'=x.1
    · rw [cT,e,o4 hq,cond_true,bQ,bQ]
      cases q k x.1 <;> simp
    · rw [cT,ui hq e,cond_false,bQ,bQ,qc k k' v r]
      by_cases e2:k=x.1
      · have:q k k'=false:=ui hq (fun h=>e (h.symm.trans e2))
        rw [e2,o4 hq,cond_true,cond_true,← e2,this]; rfl
      · rw [ui hq e2]; rfl
theorem ug (k:κ) (v:ν):∀ {xs:List (κ×ν)},Nd xs→(cT q k v xs).Perm ((k,v) :: xs.filter fun y=>!q k y.1)
  | [],_=>by simp [cT]
  | x :: r,h=>by
    have h':=List.nodup_cons.1 (show (x.1 :: r.map (·.1)).Nodup from h)
    by_cases e:k=x.1
    · rw [cT,e,o4 hq,cond_true,List.filter_cons_of_neg (by simp [o4 hq])]
      rw [List.filter_eq_self.2]
      intro y hy
      rw [ui hq]; rfl
      intro e2
      exact h'.1 (e2 ▸ List.mem_map_of_mem hy)
    · rw [cT,ui hq e,cond_false,List.filter_cons_of_pos (by simp [ui hq e])]
      exact ((ug k v h'.2).cons x).trans (List.Perm.swap _ _ _)
theorem rh (k:κ):∀ {xs:List (κ×ν)},Nd xs→pE q k xs=xs.filter fun y=>!q k y.1
  | [],_=>rfl
  | x :: r,h=>by
    have h':=List.nodup_cons.1 (show (x.1 :: r.map (·.1)).Nodup from h)
    by_cases e:k=x.1
    · rw [pE,e,o4 hq,cond_true,List.filter_cons_of_neg (by simp [o4 hq])]
      rw [List.filter_eq_self.2]
      intro y hy
      rw [ui hq]; rfl
      intro e2
      exact h'.1 (e2 ▸ List.mem_map_of_mem hy)
    · rw [pE,ui hq e,cond_false,List.filter_cons_of_pos (by simp [ui hq e]),rh k h'.2]
omit hq in
theorem Nd.perm {xs ys:List (κ×ν)} (h:Nd xs) (p:xs.Perm ys):Nd ys:=(p.map _).nodup_iff.1 h
omit hq in
theorem Nd.filter {xs:List (κ×ν)} (h:Nd xs) (p:κ×ν→Bool):Nd (xs.filter p):=h.sublist (List.Sublist.map _ List.filter_sublist)
theorem Nd.put {xs:List (κ×ν)} (h:Nd xs) (k:κ) (v:ν):Nd (cT q k v xs):=by
  refine Nd.perm ?_ (ug hq k v h).symm
  show (k :: (xs.filter fun y=>!q k y.1).map (·.1)).Nodup
  refine List.nodup_cons.2 ⟨fun hm=>?_,h.filter _⟩
  obtain⟨y,hy,e⟩:=List.mem_map.1 hm
  have:=(List.mem_filter.1 hy).2
  rw [e,o4 hq] at this
  cases this
theorem Nd.del {xs:List (κ×ν)} (h:Nd xs) (k:κ):Nd (pE q k xs):=by rw [rh hq k h]; exact h.filter _
theorem Dg (k k':κ) {xs:List (κ×ν)} (h:Nd xs):bQ q k (pE q k' xs)=if q k k' then none else bQ q k xs:=by
  rw [rh hq k' h]
  by_cases e:k=k'
  · subst e
    rw [o4 hq,if_pos rfl,xp hq]
    intro v hv
    have:=(List.mem_filter.1 hv).2
    simp [o4 hq] at this
  · rw [ui hq e,if_neg (by simp)]
    refine Option.ext fun v=>?_
    rw [tv hq (h.filter _),tv hq h,List.mem_filter]
    simp [ui hq (fun h=>e h.symm)]
end
end
end Go.Proofs.YtmfcloapbgfhaaaGreatDoor
