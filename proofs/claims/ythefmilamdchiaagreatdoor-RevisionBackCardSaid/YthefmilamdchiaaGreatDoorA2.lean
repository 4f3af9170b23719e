/- Texts of the proof, joined (2). -/
import Derived.Test.YthefmilamdchiaaGreatDoorA1
set_option linter.unusedVariables false
set_option linter.unusedSimpArgs false
set_option linter.unusedSectionVars false
namespace Go.Proofs.YthefmilamdchiaaGreatDoor
section
set_option maxRecDepth 100000
set_option maxHeartbeats 4000000
open Go.RowKit
noncomputable section
def gG (b:LN):Option Bool:=some (decide (((b.length:Int):Int)≤400))
theorem nS (T:Nat→Prop) (W0:World) (hT:TW T W0) (b:LN) (d:Value) (c:aB (aR.int .i64) T W0 d b) (y:Bool) (hM:gG b=some y):aY Tryz.prog No 7 [d] W0 (fun v w'=>v = .bool y):=by
 refine en Tryz.func7 Tryz.ntmps7 hT fun a hS=>?_
 replace hS:=hS.fS (aB.dn c)
 unfold gG at hM
 exact fz
def cL:Option Int:=some ((-1))
def aN (c:LI) (f:aG→Option Bool) (b:Int):Option (Fl (Int) (Fl (Unit) Int)):=cond (decide ((b:Int) < (c.length:Int))) ((bm c b).bind fun d=>(f d).bind fun e=>cond e (some (.out (.out b))) (some (.go (IntKind.i64.wrap (b + 1))))) (some (.out (.go ())))
def bP (b:aG→Option Bool) (c:LI):Option Int:=(loop (fun s:Int=>aN c b s) 0).bind fun r=>Fl.el r (fun s=>cL) (fun y=>some (y))
theorem jN (T:Nat→Prop) (W0:World) (hT:TW T W0) (hLv:c6 T W0) (f_1g:Nat) (f:aM Tryz.prog f_1g=true) (f_1k:List Value) (f_1P:bW) (d:aG→Option Bool) (m:∀ (T:Nat→Prop) (W0:World) (hT:TW T W0) (hLv:c6 T W0) (hP:f_1P.p T W0) (q:aG) (y:Bool) (hM:d q=some y),aY Tryz.prog No f_1g ([.agg (mC q).toArray] ++ f_1k) W0 (fun v w'=>v = .bool y)) (e:f_1P.p T W0) (c:LI) (i:Value) (o:aB ac T W0 i c) (y:Int) (hM:bP d c=some y):aY Tryz.prog No 53 [i,.func (.func f_1g) #[] f_1k.toArray] W0 (fun v w'=>v = .int .i64 y):=by
 refine en Tryz.func53 Tryz.ntmps53 hT fun a hS=>?_
 replace hS:=hS.fact f_1P (bW.dn _ e)
 replace hS:=hS.fact bu (c6.dn hLv)
 replace hS:=hS.fS (aB.dn o)
 unfold bP at hM
 refine ai hS fun a hS=>?_
 refine aI (J:=fun a w=>St W0 No T 19 [] [] [bu,f_1P] a w∧cL=some y) ?_ ?_
 ·skip
  refine ai hS fun a hS=>?_
  obtain ⟨A,n,hMo1⟩:=bd hM
  refine bB _ (fun s a w=>∃ (b:Int),b=s∧St W0 No T 19 [(0,i),(1,.func (.func f_1g) #[] f_1k.toArray),(7,.int .i64 (c.length:Int)),(8,.int .i64 b)] [] [aJ ac i c,bu,f_1P] a w) n ⟨_,rfl,hS.mt [] [0,1,2]⟩ ?_
  rintro s a w u ⟨b,rfl,hS⟩ hM hf1
  have hM:aN c d b=some u:=hM
  unfold aN at hM
  refine ai hS fun a hS=>?_
  refine aw ?_
  rcases cd hM with ⟨k,hM⟩ | ⟨k,hM⟩
  ·refine ai hS fun a hS=>?_
   refine aw ?_
   refine ai hS fun a hS=>?_
   obtain ⟨j,g,hM⟩:=bd hM
   refine wl rfl (bf (R:=ac) hS ro qN rfl rfl 0 rfl g rfl fun r x t l a hS=>?_)
   obtain rfl:=l
   refine ai hS fun a hS=>?_
   obtain ⟨z,h,hM⟩:=bd hM
   refine wl rfl (qU (cap:=f_1k) hS rfl f rfl rfl (m _ _ hS.dlt (hS.get 2 rfl) (hS.get 3 rfl) j _ h) fun _ w hR a hk hA=>?_)
   obtain rfl:=hR
   have hS:=bM hA
   exact fz
  exact fz
 rintro a w ⟨hS,hM⟩
 unfold cL at hM
 exact fz
def cS (c:aG) (b:ae):Option Bool:=some ((c.Key.Kind:Int) == b.Kind && c.Key.Text.toList == b.Text.toList)
theorem sM (T:Nat→Prop) (W0:World) (hT:TW T W0) (d:aG) (b:ae) (c:Nat) (e:(lN c 0 (aS b)).p T W0) (y:Bool) (hM:cS d b=some y):aY Tryz.prog No 54 [.agg (mC d).toArray,pt c 0] W0 (fun v w'=>v = .bool y):=by
 refine en Tryz.func54 Tryz.ntmps54 hT fun a hS=>?_
 replace hS:=hS.fact (lN c 0 (aS b)) (bW.dn _ e)
 unfold cS at hM
 refine ai hS fun a hS=>?_
 refine kb hS fun f g a w hk hS=>?_
 refine ai hS fun a hS=>?_
 refine wl rfl (ky (v:=.bool ((d.Key.Kind:Int) == b.Kind && d.Key.Text.toList == b.Text.toList)) hS (wW hS rfl rfl) rfl rfl fun a hS=>?_)
 exact fz
def ja (c:ah) (e:ae):Option aG:=(bP (fun f=>cS f e) c.Inputs).bind fun b=>cond (decide ((b:Int) < 0)) (some ((aG.mk (ae.mk 0 (ByteArray.mk #[])) (ByteArray.mk #[]) 0))) ((bm c.Inputs b).bind fun d=>some (d))
theorem qe (T:Nat→Prop) (W0:World) (hT:TW T W0) (hLv:c6 T W0) (c:ah) (d:ae) (l:Value) (m:Value) (j:aB ac T W0 l c.Inputs) (k:aB aa T W0 m c.Records) (y:aG) (hM:ja c d=some y):aY Tryz.prog No 27 [.agg (aO c l m).toArray,.agg (aS d).toArray] W0 (fun v w'=>v = .agg (mC y).toArray):=by
 refine en Tryz.func27 Tryz.ntmps27 hT fun a hS=>?_
 replace hS:=hS.fact bu (c6.dn hLv)
 replace hS:=hS.fS (aB.dn j)
 replace hS:=hS.fS (aB.dn k)
 unfold ja at hM
 refine ai hS fun a hS=>?_
 refine kb hS fun n s a w hk hS=>?_
 refine kb hS fun b t a w hk hS=>?_
 refine ka hS qn fun o u a w hk hS=>?_
 refine ai hS fun a hS=>?_
 replace hS:=hS.freezeBox 1 rfl
 refine qy hS (yL (vs:=[pt b 0]) hS rfl) fun a hS=>?_
 obtain ⟨z,f,hM⟩:=bd hM
 refine kc hS Ij (jN _ _ hS.dlt (hS.get 3 rfl) 54 Ik [pt b 0] (CJ (lN b 0 (aS d)) vW) (fun i=>cS i d) (fun T W0 hT hLv hP i y hM=>sM T W0 hT i d b hP.1 y hM) ⟨(hS.get 0 rfl),trivial⟩ c.Inputs _ (hS.get 2 rfl) _ f) fun _ w hR a hk hA=>?_
 obtain rfl:=hR
 have hS:=bM hA
 refine ai hS fun a hS=>?_
 refine aw ?_
 refine ai hS fun a hS=>?_
 rcases cd hM with ⟨g,hM⟩ | ⟨g,hM⟩
 ·refine ai hS fun a hS=>?_
  refine qy hS (br (ps:=[]) hS B6 qn rfl (us:=[]) trivial (ws:=[.int .i64 0,.string (ByteArray.mk #[]),.string (ByteArray.mk #[]),.int .i64 0]) rfl) fun a hS=>?_
  refine go hS fun a w hS=>?_
  cases hM
  refine aF hS rfl (rC 0 hS) ?_
  exact rfl
 refine ai hS fun a hS=>?_
 obtain ⟨r,e,hM⟩:=bd hM
 refine wl rfl (bf (R:=ac) hS ro qN rfl rfl 2 rfl e rfl fun p x q h a hS=>?_)
 obtain rfl:=h
 refine go hS fun a w hS=>?_
 cases hM
 refine aF hS rfl (rC 0 hS) ?_
 exact rfl
def bL (c:ah) (d:ae):Option ByteArray:=(ja c d).bind fun b=>some (b.Value)
theorem cP (T:Nat→Prop) (W0:World) (hT:TW T W0) (hLv:c6 T W0) (b:ah) (c:ae) (g:Value) (h:Value) (e:aB ac T W0 g b.Inputs) (f:aB aa T W0 h b.Records) (y:ByteArray) (hM:bL b c=some y):aY Tryz.prog No 12 [.agg (aO b g h).toArray,.agg (aS c).toArray] W0 (fun v w'=>v = .string y):=by
 refine en Tryz.func12 Tryz.ntmps12 hT fun a hS=>?_
 replace hS:=hS.fact bu (c6.dn hLv)
 replace hS:=hS.fS (aB.dn e)
 replace hS:=hS.fS (aB.dn f)
 unfold bL at hM
 refine ai hS fun a hS=>?_
 refine kb hS fun i k a w hk hS=>?_
 refine kb hS fun j l a w hk hS=>?_
 refine ai hS fun a hS=>?_
 obtain ⟨m,d,hM⟩:=bd hM
 refine kc hS GU (qe _ _ hS.dlt (hS.get 2 rfl) b c _ _ (hS.get 1 rfl) (hS.get 0 rfl) _ d) fun _ w hR a hk hA=>?_
 obtain rfl:=hR
 have hS:=bM hA
 refine qy hS (sX hS rfl Tryz.underlying61 rfl rfl DM rfl rfl (fun _=>rfl)) fun a hS=>?_
 exact fz
def s8:Option Int:=some (0)
def pm (c:LN) (b:Int):Option (Fl (Int) (Fl (Unit) Int)):=cond (decide ((b:Int) < (c.length:Int))) ((bm c b).bind fun d=>cond ((d:Int) != 0) (some (.out (.out d))) (some (.go (IntKind.i64.wrap (b + 1))))) (some (.out (.go ())))
def uF (b:LN):Option Int:=(loop (fun s:Int=>pm b s) 0).bind fun r=>Fl.el r (fun s=>s8) (fun y=>some (y))
theorem Bp (T:Nat→Prop) (W0:World) (hT:TW T W0) (b:LN) (e:Value) (i:aB (aR.int .i64) T W0 e b) (y:Int) (hM:uF b=some y):aY Tryz.prog No 60 [e] W0 (fun v w'=>v = .int .i64 y):=by
 refine en Tryz.func60 Tryz.ntmps60 hT fun a hS=>?_
 replace hS:=hS.fS (aB.dn i)
 unfold uF at hM
 refine ai hS fun a hS=>?_
 refine aI (J:=fun a w=>St W0 No T 18 [(3,.int .i64 0)] [] [] a w∧s8=some y) ?_ ?_
 ·skip
  refine ai hS fun a hS=>?_
  obtain ⟨o,h,hMo1⟩:=bd hM
  refine bB _ (fun s a w=>∃ (c:Int),c=s∧St W0 No T 18 [(3,.int .i64 0),(6,e),(7,.int .i64 (b.length:Int)),(8,.int .i64 c)] [] [aJ (aR.int .i64) e b] a w) h ⟨_,rfl,hS.mt [] [0]⟩ ?_
  rintro s a w m ⟨c,rfl,hS⟩ hM hf1
  have hM:pm b c=some m:=hM
  unfold pm at hM
  refine ai hS fun a hS=>?_
  refine aw ?_
  rcases cd hM with ⟨f,hM⟩ | ⟨f,hM⟩
  ·refine ai hS fun a hS=>?_
   refine aw ?_
   refine ai hS fun a hS=>?_
   obtain ⟨l,d,hM⟩:=bd hM
   refine wl rfl (bf (R:=(aR.int .i64)) hS AZ wI rfl rfl 0 rfl d rfl fun j n k g a hS=>?_)
   obtain rfl:=g
   exact fz
  exact fz
 rintro a w ⟨hS,hM⟩
 unfold s8 at hM
 exact fz
def ku (b:Int):Option Bool:=some ((b:Int) != b)
theorem qb (T:Nat→Prop) (W0:World) (hT:TW T W0) (b:Int) (y:Bool) (hM:ku b=some y):aY Tryz.prog No 90 [.int .i64 b] W0 (fun v w'=>v = .bool y):=by
 refine en Tryz.func90 Tryz.ntmps90 hT fun a hS=>?_
 unfold ku at hM
 exact fz
def nh (c:Int) (d:Int):Option Int:=(ku c).bind fun e=>(ku d).bind fun b=>cond e (cond b (some (0)) (some ((-1)))) (cond b (some (1)) (cond (decide ((c:Int) < d)) (some ((-1))) (cond (decide ((d:Int) < c)) (some (1)) (some (0)))))
theorem vE (T:Nat→Prop) (W0:World) (hT:TW T W0) (b:Int) (c:Int) (y:Int) (hM:nh b c=some y):aY Tryz.prog No 61 [.int .i64 b,.int .i64 c] W0 (fun v w'=>v = .int .i64 y):=by
 refine en Tryz.func61 Tryz.ntmps61 hT fun a hS=>?_
 unfold nh at hM
 refine ai hS fun a hS=>?_
 obtain ⟨i,d,hM⟩:=bd hM
 refine kc hS G5 (qb _ _ hS.dlt b _ d) fun _ w hR a hk hA=>?_
 obtain rfl:=hR
 have hS:=bM hA
 refine ai hS fun a hS=>?_
 obtain ⟨j,e,hM⟩:=bd hM
 refine kc hS G5 (qb _ _ hS.dlt c _ e) fun _ w hR a hk hA=>?_
 obtain rfl:=hR
 have hS:=bM hA
 refine ai hS fun a hS=>?_
 refine aw ?_
 refine ai hS fun a hS=>?_
 rcases cd hM with ⟨f,hM⟩ | ⟨f,hM⟩
 ·refine ai hS fun a hS=>?_
  refine aw ?_
  exact fz
 refine ai hS fun a hS=>?_
 refine aw ?_
 refine ai hS fun a hS=>?_
 rcases cd hM with ⟨g,hM⟩ | ⟨g,hM⟩
 ·exact fz
 refine ai hS fun a hS=>?_
 refine aw ?_
 refine ai hS fun a hS=>?_
 rcases cd hM with ⟨h,hM⟩ | ⟨h,hM⟩
 ·exact fz
 refine ai hS fun a hS=>?_
 refine aw ?_
 exact fz
def pM (b:ae) (c:ae):Option Int:=(nh b.Kind c.Kind).bind fun d=>(pn b.Text c.Text).bind fun e=>(uF ([d,e])).bind fun f=>some (f)
theorem tf (T:Nat→Prop) (W0:World) (hT:TW T W0) (hLv:c6 T W0) (d:ae) (e:ae) (y:Int) (hM:pM d e=some y):aY Tryz.prog No 32 [.agg (aS d).toArray,.agg (aS e).toArray] W0 (fun v w'=>v = .int .i64 y):=by
 refine en Tryz.func32 Tryz.ntmps32 hT fun a hS=>?_
 replace hS:=hS.fact bu (c6.dn hLv)
 unfold pM at hM
 refine ai hS fun a hS=>?_
 refine kb hS fun i l a w hk hS=>?_
 refine kb hS fun j m a w hk hS=>?_
 refine ai hS fun a hS=>?_
 refine aw ?_
 refine dr [] hS fun w hQ hS=>?_
 refine gE [0,1,2,3,5,6,7,8] hS fun a hS=>?_
 obtain ⟨b,f,hM⟩:=bd hM
 refine ec 4 hS Ir (vE _ _ hS.dlt d.Kind e.Kind _ f) fun _ w hR a hk hA=>?_
 obtain rfl:=hR
 have hS:=bM hA
 obtain ⟨c,g,hM⟩:=bd hM
 refine ec 9 hS GZ (tJ _ _ hS.dlt (hS.get 0 rfl) d.Text e.Text _ g) fun _ w hR a hk hA=>?_
 obtain rfl:=hR
 have hS:=bM hA
 refine e1 10 (aZ (ps:=[(0,.tmp 9),(1,.tmp 14)]) hS C4 HW (zl:=[.int .i64 0,.int .i64 0]) (by kernel_rfl) rfl (us:=[[.int .i64 b],[.int .i64 c]]) ⟨rfl,⟨rfl,trivial⟩⟩ (ws:=[.int .i64 b,.int .i64 c]) rfl rfl rfl rfl fun k a w hk hS=>⟨fx (hk),?_⟩)
 replace hS:=hS.lit (R:=(aR.int .i64)) (us:=[.int .i64 b,.int .i64 c]) (xs:=[b,c]) 0 rfl (by decide) ((aD.one_ (R:=(aR.int .i64)) (x:=b) rfl).append (aD.one_ (R:=(aR.int .i64)) (x:=c) rfl)) rfl rfl
 have hL:=hS
 replace hL:=hL.freeze (R:=(aR.int .i64)) 0 rfl 0 rfl
 obtain ⟨n,h,hM⟩:=bd hM
 refine ec 11 hS Iq (Bp _ _ hL.dlt ([b,c]) _ (hL.get 0 rfl) _ h) fun _ w hR a hk hA=>?_
 obtain rfl:=hR
 have hS:=bM hA
 refine gE [12] hS fun a hS=>?_
 refine eD ?_
 exact fz
def pN (b:Bool):Option Bool:=some (b)
def mV (b:Int):Option Bool:=cond (decide ((30:Int)≤b)) (pN (decide ((b:Int)≤32))) (pN false)
theorem wt (T:Nat→Prop) (W0:World) (hT:TW T W0) (c:Int) (y:Bool) (hM:mV c=some y):aY Tryz.prog No 98 [.int .i64 c] W0 (fun v w'=>v = .bool y):=by
 refine en Tryz.func98 Tryz.ntmps98 hT fun a hS=>?_
 unfold mV at hM
 refine ai hS fun a hS=>?_
 refine aI (J:=fun a w=>∃ (b:Bool),St W0 No T 9 [(2,.bool b)] [] [] a w∧pN b=some y) ?_ ?_
 ·exact fz
 rintro a w ⟨b,hS,hM⟩
 unfold pN at hM
 exact fz
def lj (c:ae):Option Int:=(mV c.Kind).bind fun d=>cond (!(d)) (some ((-1))) ((uw c.Text).bind fun b=>cond b.2 (some ((-1))) (cond (decide ((b.1:Int) < 0)) (some ((-1))) (cond (decide ((99:Int) < b.1)) (some ((-1))) ((tN b.1).bind fun e=>cond (!(e.toList == c.Text.toList)) (some ((-1))) (some (b.1))))))
theorem xe (T:Nat→Prop) (W0:World) (hT:TW T W0) (hLv:c6 T W0) (b:ae) (y:Int) (hM:lj b=some y):aY Tryz.prog No 99 [.agg (aS b).toArray] W0 (fun v w'=>v = .int .i64 y):=by
 refine en Tryz.func99 Tryz.ntmps99 hT fun a hS=>?_
 replace hS:=hS.fact bu (c6.dn hLv)
 unfold lj at hM
 refine ai hS fun a hS=>?_
 refine kb hS fun m n a w hk hS=>?_
 refine ai hS fun a hS=>?_
 refine aw ?_
 refine ai hS fun a hS=>?_
 obtain ⟨o,f,hM⟩:=bd hM
 refine kc hS G6 (wt _ _ hS.dlt b.Kind _ f) fun _ w hR a hk hA=>?_
 obtain rfl:=hR
 have hS:=bM hA
 refine ai hS fun a hS=>?_
 rcases cd hM with ⟨j,hM⟩ | ⟨j,hM⟩
 ·exact fz
 refine ai hS fun a hS=>?_
 obtain ⟨e,g,hM⟩:=bd hM
 refine kc hS GK (CP _ _ hS.dlt (hS.get 0 rfl) b.Text _ g) fun _ w hR a hk hA=>?_
 obtain ⟨q,he,d⟩:=hR
 obtain rfl:=he.symm
 have hS:=hA [] (fun r hr=>by cases hr) List.Pairwise.nil
 refine ai hS fun a hS=>?_
 refine aw ?_
 refine aw ?_
 refine dr [] hS fun w hQ hS=>?_
 refine gE [0] hS fun a hS=>?_
 refine dy 1 (v:=.bool e.2) rfl (by kernel_rfl) (by kernel_rfl) (by kernel_rfl) rfl hQ hS (DS hS rfl d He) rfl rfl rfl fun a hS=>?_
 refine gE [2] hS fun a hS=>?_
 rcases cd hM with ⟨k,hM⟩ | ⟨k,hM⟩
 ·refine gE [3,4,5,6,7,8,9,10,11,12,13,14,15,16] hS fun a hS=>?_
  refine eD ?_
  exact fz
 refine gE [3,4,5,6] hS fun a hS=>?_
 rcases cd hM with ⟨l,hM⟩ | ⟨l,hM⟩
 ·refine gE [7,8,9,10,11,12,13,14,15,16] hS fun a hS=>?_
  refine eD ?_
  exact fz
 refine gE [7,8,9,10] hS fun a hS=>?_
 rcases cd hM with ⟨c,hM⟩ | ⟨c,hM⟩
 ·refine gE [11,12,13,14,15,16] hS fun a hS=>?_
  refine eD ?_
  exact fz
 refine gE [11,13,14] hS fun a hS=>?_
 obtain ⟨p,h,hM⟩:=bd hM
 refine bV (i:=12) rfl (by kernel_rfl) hS rfl rfl rfl c (a7 hS CX rfl rfl (ue _ _ hS.dlt (hS.get 0 rfl) e.1 _ h) fun _ w hR a hk hA=>⟨fx (hk),?_⟩)
 obtain rfl:=hR
 have hS:=bM hA
 refine gE [15,16] hS fun a hS=>?_
 refine eD ?_
 exact fz
def iF (b:Bool):Option Bool:=some (b)
def lU (b:Int):Option Bool:=cond (decide ((1:Int)≤b)) (iF (decide ((b:Int)≤22))) (iF false)
theorem qu (T:Nat→Prop) (W0:World) (hT:TW T W0) (c:Int) (y:Bool) (hM:lU c=some y):aY Tryz.prog No 100 [.int .i64 c] W0 (fun v w'=>v = .bool y):=by
 refine en Tryz.func100 Tryz.ntmps100 hT fun a hS=>?_
 unfold lU at hM
 refine ai hS fun a hS=>?_
 refine aI (J:=fun a w=>∃ (b:Bool),St W0 No T 9 [(2,.bool b)] [] [] a w∧iF b=some y) ?_ ?_
 ·exact fz
 rintro a w ⟨b,hS,hM⟩
 unfold iF at hM
 exact fz
def jU (b:Bool):Option Bool:=some (b)
def nR (b:ae) (c:Bool):Option Bool:=(lU b.Kind).bind fun d=>cond d (cond (decide (((b.Text.size:Int):Int)≤1073741824)) (cond (!(c)) (jU true) (jU (b.Text.toList == (ByteArray.mk #[]).toList))) (jU false)) (jU false)
def gj (b:ae):Option Bool:=(mV b.Kind).bind fun c=>cond c ((lj b).bind fun d=>some (decide ((0:Int)≤d))) (cond ((b.Kind:Int) == 1) (nR b true) (nR b ((b.Kind:Int) == 21)))
theorem qt (T:Nat→Prop) (W0:World) (hT:TW T W0) (hLv:c6 T W0) (b:ae) (y:Bool) (hM:gj b=some y):aY Tryz.prog No 68 [.agg (aS b).toArray] W0 (fun v w'=>v = .bool y):=by
 refine en Tryz.func68 Tryz.ntmps68 hT fun a hS=>?_
 replace hS:=hS.fact bu (c6.dn hLv)
 unfold gj at hM
 refine ai hS fun a hS=>?_
 refine kb hS fun e j a w hk hS=>?_
 refine ai hS fun a hS=>?_
 refine aw ?_
 refine ai hS fun a hS=>?_
 obtain ⟨l,g,hM⟩:=bd hM
 refine kc hS G6 (wt _ _ hS.dlt b.Kind _ g) fun _ w hR a hk hA=>?_
 obtain rfl:=hR
 have hS:=bM hA
 refine ai hS fun a hS=>?_
 rcases cd hM with ⟨i,hM⟩ | ⟨i,hM⟩
 ·refine ai hS fun a hS=>?_
  obtain ⟨m,h,hM⟩:=bd hM
  refine kc hS IJ (xe _ _ hS.dlt (hS.get 0 rfl) b _ h) fun _ w hR a hk hA=>?_
  obtain rfl:=hR
  have hS:=bM hA
  exact fz
 refine ai hS fun a hS=>?_
 refine aI (J:=fun a w=>∃ (c:Bool),St W0 No T 36 [(1,pt e 0),(3,.bool c)] [.box e (aS b) 35] [bu] a w∧nR b c=some y) ?_ ?_
 ·exact fz
 rintro a w ⟨c,hS,hM⟩
 unfold nR at hM
 refine aI (J:=fun a w=>∃ (d:Bool),St W0 No T 36 [(2,.bool d)] [] [bu] a w∧jU d=some y) ?_ ?_
 ·skip
  refine ai hS fun a hS=>?_
  obtain ⟨k,f,hM⟩:=bd hM
  refine kc hS D5 (qu _ _ hS.dlt b.Kind _ f) fun _ w hR a hk hA=>?_
  obtain rfl:=hR
  have hS:=bM hA
  exact fz
 rintro a w ⟨d,hS,hM⟩
 unfold jU at hM
 exact fz
def lT (b:Bool):Option Bool:=some (b)
def px (b:ae):Option Bool:=cond ((b.Kind:Int) == 1) (lT true) (cond ((b.Kind:Int) == 2) (lT true) (lT ((b.Kind:Int) == 30)))
theorem tO (T:Nat→Prop) (W0:World) (hT:TW T W0) (c:ae) (y:Bool) (hM:px c=some y):aY Tryz.prog No 69 [.agg (aS c).toArray] W0 (fun v w'=>v = .bool y):=by
 refine en Tryz.func69 Tryz.ntmps69 hT fun a hS=>?_
 unfold px at hM
 refine ai hS fun a hS=>?_
 refine kb hS fun d e a w hk hS=>?_
 refine ai hS fun a hS=>?_
 refine aI (J:=fun a w=>∃ (b:Bool),St W0 No T 16 [(2,.bool b)] [] [] a w∧lT b=some y) ?_ ?_
 ·exact fz
 rintro a w ⟨b,hS,hM⟩
 unfold lT at hM
 exact fz
def jh:Option Bool:=some (false)
def dO (b:Bool):Option Bool:=cond b (some (true)) (jh)
def l3 (b:Int):Option Bool:=cond ((b:Int) == 7) (dO ((b:Int) == 7)) (cond ((b:Int) == 14) (dO ((b:Int) == 14)) (cond ((b:Int) == 17) (dO ((b:Int) == 17)) (dO ((b:Int) == 18))))
theorem tp (T:Nat→Prop) (W0:World) (hT:TW T W0) (c:Int) (y:Bool) (hM:l3 c=some y):aY Tryz.prog No 125 [.int .i64 c] W0 (fun v w'=>v = .bool y):=by
 refine en Tryz.func125 Tryz.ntmps125 hT fun a hS=>?_
 unfold l3 at hM
 refine ai hS fun a hS=>?_
 refine aI (J:=fun a w=>St W0 No T 9 [] [] [] a w∧jh=some y) ?_ ?_
 ·skip
  refine ai hS fun a hS=>?_
  refine aI (J:=fun a w=>∃ (b:Bool),St W0 No T 9 [(4,.bool b)] [] [] a w∧dO b=some y) ?_ ?_
  ·exact fz
  rintro a w ⟨b,hS,hM⟩
  unfold dO at hM
  exact fz
 rintro a w ⟨hS,hM⟩
 unfold jh at hM
 exact fz
def iR (b:Bool):Option Bool:=some (b)
def oo (b:ae):Option Bool:=cond ((b.Kind:Int) == 32) (iR true) ((lU b.Kind).bind fun c=>cond c ((l3 b.Kind).bind fun d=>iR d) (iR false))
theorem xd (T:Nat→Prop) (W0:World) (hT:TW T W0) (c:ae) (y:Bool) (hM:oo c=some y):aY Tryz.prog No 95 [.agg (aS c).toArray] W0 (fun v w'=>v = .bool y):=by
 refine en Tryz.func95 Tryz.ntmps95 hT fun a hS=>?_
 unfold oo at hM
 refine ai hS fun a hS=>?_
 refine kb hS fun h i a w hk hS=>?_
 refine ai hS fun a hS=>?_
 refine aI (J:=fun a w=>∃ (b:Bool),St W0 No T 16 [(2,.bool b)] [] [] a w∧iR b=some y) ?_ ?_
 ·skip
  refine ai hS fun a hS=>?_
  rcases cd hM with ⟨d,hM⟩ | ⟨d,hM⟩
  ·exact fz
  refine ai hS fun a hS=>?_
  obtain ⟨j,f,hM⟩:=bd hM
  refine wg hS rfl rfl rfl d (a7 hS D5 rfl rfl (qu _ _ hS.dlt c.Kind _ f) fun _ w hR a hk hA=>?_)
  obtain rfl:=hR
  have hS:=bM hA
  refine ai hS fun a hS=>?_
  rcases cd hM with ⟨e,hM⟩ | ⟨e,hM⟩
  ·refine ai hS fun a hS=>?_
   obtain ⟨k,g,hM⟩:=bd hM
   refine wg hS rfl rfl rfl e (a7 hS GI rfl rfl (tp _ _ hS.dlt c.Kind _ g) fun _ w hR a hk hA=>?_)
   obtain rfl:=hR
   have hS:=bM hA
   exact fz
  exact fz
 rintro a w ⟨b,hS,hM⟩
 unfold iR at hM
 exact fz
def jn (c:ae):Option Bool:=(gj c).bind fun b=>some (!(b))
theorem tr (T:Nat→Prop) (W0:World) (hT:TW T W0) (hLv:c6 T W0) (b:ae) (y:Bool) (hM:jn b=some y):aY Tryz.prog No 96 [.agg (aS b).toArray] W0 (fun v w'=>v = .bool y):=by
 refine en Tryz.func96 Tryz.ntmps96 hT fun a hS=>?_
 replace hS:=hS.fact bu (c6.dn hLv)
 unfold jn at hM
 refine ai hS fun a hS=>?_
 refine kb hS fun d e a w hk hS=>?_
 refine ai hS fun a hS=>?_
 obtain ⟨f,c,hM⟩:=bd hM
 refine kc hS EQ (qt _ _ hS.dlt (hS.get 0 rfl) b _ c) fun _ w hR a hk hA=>?_
 obtain rfl:=hR
 have hS:=bM hA
 exact fz
def oX:Option Int:=some ((-1))
def kz (c:LK) (f:ae→Option Bool) (b:Int):Option (Fl (Int) (Fl (Unit) Int)):=cond (decide ((b:Int) < (c.length:Int))) ((bm c b).bind fun d=>(f d).bind fun e=>cond e (some (.out (.out b))) (some (.go (IntKind.i64.wrap (b + 1))))) (some (.out (.go ())))
def og (b:ae→Option Bool) (c:LK):Option Int:=(loop (fun s:Int=>kz c b s) 0).bind fun r=>Fl.el r (fun s=>oX) (fun y=>some (y))
theorem w7 (T:Nat→Prop) (W0:World) (hT:TW T W0) (hLv:c6 T W0) (f_1g:Nat) (f:aM Tryz.prog f_1g=true) (f_1k:List Value) (f_1P:bW) (d:ae→Option Bool) (m:∀ (T:Nat→Prop) (W0:World) (hT:TW T W0) (hLv:c6 T W0) (hP:f_1P.p T W0) (q:ae) (y:Bool) (hM:d q=some y),aY Tryz.prog No f_1g ([.agg (aS q).toArray] ++ f_1k) W0 (fun v w'=>v = .bool y)) (e:f_1P.p T W0) (c:LK) (i:Value) (o:aB ad T W0 i c) (y:Int) (hM:og d c=some y):aY Tryz.prog No 126 [i,.func (.func f_1g) #[] f_1k.toArray] W0 (fun v w'=>v = .int .i64 y):=by
 refine en Tryz.func126 Tryz.ntmps126 hT fun a hS=>?_
 replace hS:=hS.fact f_1P (bW.dn _ e)
 replace hS:=hS.fact bu (c6.dn hLv)
 replace hS:=hS.fS (aB.dn o)
 unfold og at hM
 refine ai hS fun a hS=>?_
 refine aI (J:=fun a w=>St W0 No T 19 [] [] [bu,f_1P] a w∧oX=some y) ?_ ?_
 ·skip
  refine ai hS fun a hS=>?_
  obtain ⟨A,n,hMo1⟩:=bd hM
  refine bB _ (fun s a w=>∃ (b:Int),b=s∧St W0 No T 19 [(0,i),(1,.func (.func f_1g) #[] f_1k.toArray),(7,.int .i64 (c.length:Int)),(8,.int .i64 b)] [] [aJ ad i c,bu,f_1P] a w) n ⟨_,rfl,hS.mt [] [0,1,2]⟩ ?_
  rintro s a w u ⟨b,rfl,hS⟩ hM hf1
  have hM:kz c d b=some u:=hM
  unfold kz at hM
  refine ai hS fun a hS=>?_
  refine aw ?_
  rcases cd hM with ⟨k,hM⟩ | ⟨k,hM⟩
  ·refine ai hS fun a hS=>?_
   refine aw ?_
   refine ai hS fun a hS=>?_
   obtain ⟨j,g,hM⟩:=bd hM
   refine wl rfl (bf (R:=ad) hS nI fY rfl rfl 0 rfl g rfl fun r x t l a hS=>?_)
   obtain rfl:=l
   refine ai hS fun a hS=>?_
   obtain ⟨z,h,hM⟩:=bd hM
   refine wl rfl (qU (cap:=f_1k) hS rfl f rfl rfl (m _ _ hS.dlt (hS.get 2 rfl) (hS.get 3 rfl) j _ h) fun _ w hR a hk hA=>?_)
   obtain rfl:=hR
   have hS:=bM hA
   exact fz
  exact fz
 rintro a w ⟨hS,hM⟩
 unfold oX at hM
 exact fz
def kw (c:ae→Option Bool) (d:LK):Option Bool:=(og c d).bind fun b=>some (decide ((0:Int)≤b))
theorem tU (T:Nat→Prop) (W0:World) (hT:TW T W0) (hLv:c6 T W0) (f_1g:Nat) (e:aM Tryz.prog f_1g=true) (f_1k:List Value) (f_1P:bW) (b:ae→Option Bool) (g:∀ (T:Nat→Prop) (W0:World) (hT:TW T W0) (hLv:c6 T W0) (hP:f_1P.p T W0) (j:ae) (y:Bool) (hM:b j=some y),aY Tryz.prog No f_1g ([.agg (aS j).toArray] ++ f_1k) W0 (fun v w'=>v = .bool y)) (d:f_1P.p T W0) (c:LK) (i:Value) (h:aB ad T W0 i c) (y:Bool) (hM:kw b c=some y):aY Tryz.prog No 97 [i,.func (.func f_1g) #[] f_1k.toArray] W0 (fun v w'=>v = .bool y):=by
 refine en Tryz.func97 Tryz.ntmps97 hT fun a hS=>?_
 replace hS:=hS.fact f_1P (bW.dn _ d)
 replace hS:=hS.fact bu (c6.dn hLv)
 replace hS:=hS.fS (aB.dn h)
 unfold kw at hM
 refine ai hS fun a hS=>?_
 obtain ⟨k,f,hM⟩:=bd hM
 refine kc hS GJ (w7 _ _ hS.dlt (hS.get 1 rfl) f_1g e f_1k f_1P b g (hS.get 2 rfl) c _ (hS.get 0 rfl) _ f) fun _ w hR a hk hA=>?_
 obtain rfl:=hR
 have hS:=bM hA
 exact fz
def d7 (b:Bool):Option Bool:=some (b)
def cR (b:al) (c:Bool):Option Bool:=cond c (some (false)) (cond (decide ((0:Int)≤b.Changed)) (cond (decide ((b.Changed:Int)≤b.Verified)) (cond (decide ((b.Verified:Int)≤1073741824)) (cond (decide ((1:Int)≤b.Cost)) (cond (decide ((b.Cost:Int)≤1073741824)) ((kw jn b.Reads).bind fun d=>d7 (!(d))) (d7 false)) (d7 false)) (d7 false)) (d7 false)) (d7 false))
def l4 (b:al):Option Bool:=(gj b.Key).bind fun c=>cond (!(c)) (cR b true) ((px b.Key).bind fun d=>cond d (cR b true) (cond (decide ((1073741824:Int) < (b.Value.size:Int))) (cR b true) (cond (decide ((4000:Int) < (b.Reads.length:Int))) (cR b true) (cond b.Dirty ((oo b.Key).bind fun e=>cR b (!(e))) (cR b false)))))
theorem u6 (T:Nat→Prop) (W0:World) (hT:TW T W0) (hLv:c6 T W0) (b:al) (m:Value) (x:aB ad T W0 m b.Reads) (y:Bool) (hM:l4 b=some y):aY Tryz.prog No 67 [.agg (aX b m).toArray] W0 (fun v w'=>v = .bool y):=by
 refine en Tryz.func67 Tryz.ntmps67 hT fun a hS=>?_
 replace hS:=hS.fact bu (c6.dn hLv)
 replace hS:=hS.fS (aB.dn x)
 unfold l4 at hM
 refine ai hS fun a hS=>?_
 refine kb hS fun e z a w hk hS=>?_
 refine ai hS fun a hS=>?_
 refine aw ?_
 refine aI (J:=fun a w=>∃ (d:Bool),St W0 No T 67 [(1,pt e 0),(34,.bool d)] [.box e (aX b m) 77] [aJ ad m b.Reads,bu] a w∧cR b d=some y) ?_ ?_
 ·skip
  refine ai hS fun a hS=>?_
  obtain ⟨B,j,hM⟩:=bd hM
  refine kc hS EQ (qt _ _ hS.dlt (hS.get 1 rfl) b.Key _ j) fun _ w hR a hk hA=>?_
  obtain rfl:=hR
  have hS:=bM hA
  refine ai hS fun a hS=>?_
  rcases cd hM with ⟨f,hM⟩ | ⟨f,hM⟩
  ·exact fz
  refine ai hS fun a hS=>?_
  obtain ⟨C,k,hM⟩:=bd hM
  refine wg hS rfl rfl rfl f (a7 hS G0 rfl rfl (tO _ _ hS.dlt b.Key _ k) fun _ w hR a hk hA=>?_)
  obtain rfl:=hR
  have hS:=bM hA
  refine ai hS fun a hS=>?_
  rcases cd hM with ⟨n,hM⟩ | ⟨n,hM⟩
  ·exact fz
  refine ai hS fun a hS=>?_
  rcases cd hM with ⟨o,hM⟩ | ⟨o,hM⟩
  ·exact fz
  refine ai hS fun a hS=>?_
  rcases cd hM with ⟨p,hM⟩ | ⟨p,hM⟩
  ·exact fz
  refine ai hS fun a hS=>?_
  rcases cd hM with ⟨g,hM⟩ | ⟨g,hM⟩
  ·refine ai hS fun a hS=>?_
   obtain ⟨D,l,hM⟩:=bd hM
   refine wg hS rfl rfl rfl g (a7 hS IG rfl rfl (xd _ _ hS.dlt b.Key _ l) fun _ w hR a hk hA=>?_)
   obtain rfl:=hR
   have hS:=bM hA
   exact fz
  exact fz
 rintro a w ⟨d,hS,hM⟩
 unfold cR at hM
 rcases cd hM with ⟨q,hM⟩ | ⟨q,hM⟩
 ·exact fz
 refine ai hS fun a hS=>?_
 refine aI (J:=fun a w=>∃ (c:Bool),St W0 No T 67 [(2,.bool c)] [] [bu] a w∧d7 c=some y) ?_ ?_
 ·skip
  refine ai hS fun a hS=>?_
  rcases cd hM with ⟨r,hM⟩ | ⟨r,hM⟩
  ·refine ai hS fun a hS=>?_
   rcases cd hM with ⟨s,hM⟩ | ⟨s,hM⟩
   ·refine ai hS fun a hS=>?_
    rcases cd hM with ⟨t,hM⟩ | ⟨t,hM⟩
    ·refine ai hS fun a hS=>?_
     rcases cd hM with ⟨u,hM⟩ | ⟨u,hM⟩
     ·refine ai hS fun a hS=>?_
      rcases cd hM with ⟨h,hM⟩ | ⟨h,hM⟩
      ·refine ai hS fun a hS=>?_
       obtain ⟨A,i,hM⟩:=bd hM
       refine wg hS rfl rfl rfl h (a7 hS II rfl rfl (tU _ _ hS.dlt (hS.get 1 rfl) 96 IH [] vW jn (fun T W0 hT hLv _ E y hM=>tr T W0 hT hLv E y hM) trivial b.Reads _ (hS.get 0 rfl) _ i) fun _ w hR a hk hA=>?_)
       obtain rfl:=hR
       have hS:=bM hA
       exact fz
      exact fz
     exact fz
    exact fz
   exact fz
  exact fz
 rintro a w ⟨c,hS,hM⟩
 unfold d7 at hM
 exact fz
def kl (b:LR):Option Bool:=some (decide (((b.length:Int):Int)≤4000))
def cY (b:Int) (c:Bool):Option (Fl (Int) (Fl (Unit) Bool)):=cond c (some (.out (.out false))) (some (.go (IntKind.i64.wrap (b + 1))))
def fe (d:LR) (b:Int):Option (Fl (Int) (Fl (Unit) Bool)):=cond (decide ((b:Int) < (d.length:Int))) ((bm d b).bind fun c=>(l4 c).bind fun f=>cond (!(f)) (cY b true) (cond (decide ((0:Int) < b)) ((bm d (IntKind.i64.wrap (b - 1))).bind fun e=>(pM e.Key c.Key).bind fun g=>cY b (decide ((0:Int)≤g))) (cY b false))) (some (.out (.go ())))
def g9 (b:LR):Option Bool:=(loop (fun s:Int=>fe b s) 0).bind fun r=>Fl.el r (fun s=>kl b) (fun y=>some (y))
theorem rV (T:Nat→Prop) (W0:World) (hT:TW T W0) (hLv:c6 T W0) (b:LR) (d:Value) (C:aB aa T W0 d b) (y:Bool) (hM:g9 b=some y):aY Tryz.prog No 36 [d] W0 (fun v w'=>v = .bool y):=by
 refine en Tryz.func36 Tryz.ntmps36 hT fun a hS=>?_
 replace hS:=hS.fact bu (c6.dn hLv)
 replace hS:=hS.fS (aB.dn C)
 unfold g9 at hM
 refine ai hS fun a hS=>?_
 refine aI (J:=fun a w=>St W0 No T 35 [(0,d)] [] [aJ aa d b,bu] a w∧kl b=some y) ?_ ?_
 ·skip
  refine ai hS fun a hS=>?_
  obtain ⟨O,k,hMo1⟩:=bd hM
  refine bB _ (fun s a w=>∃ (c:Int),c=s∧St W0 No T 35 [(0,d),(5,d),(6,.int .i64 (b.length:Int)),(7,.int .i64 c)] [] [aJ aa d b,bu] a w) k ⟨_,rfl,hS.mt [] [0,1]⟩ ?_
  rintro s a w B ⟨c,rfl,hS⟩ hM hf1
  have hM:fe b c=some B:=hM
  unfold fe at hM
  refine ai hS fun a hS=>?_
  refine aw ?_
  rcases cd hM with ⟨r,hM⟩ | ⟨r,hM⟩
  ·refine ai hS fun a hS=>?_
   refine aw ?_
   refine ai hS fun a hS=>?_
   obtain ⟨g,h,hM⟩:=bd hM
   refine wl rfl (bf (R:=aa) hS nH kQ rfl rfl 0 rfl h rfl fun D I F t a hS=>?_)
   obtain ⟨M,rfl,n⟩:=t
   replace hS:=hS.fS n
   refine ai hS fun a hS=>?_
   refine ka hS fJ fun E H a w hk hS=>?_
   refine go hS fun a w hS=>?_
   refine aI (J:=fun a w=>∃ (e:Bool),St W0 No T 35 [(0,d),(5,d),(6,.int .i64 (b.length:Int)),(7,.int .i64 c),(30,.bool e)] [] [aJ aa d b,bu] a w∧cY c e=some B) ?_ ?_
   ·skip
    refine dr [] hS fun w hQ hS=>?_
    refine gE [0] hS fun a hS=>?_
    obtain ⟨K,l,hM⟩:=bd hM
    refine ec 1 hS It (u6 _ _ hS.dlt (hS.get 3 rfl) g _ (hS.get 0 rfl) _ l) fun _ w hR a hk hA=>?_
    obtain rfl:=hR
    have hS:=bM hA
    refine gE [2,3] hS fun a hS=>?_
    rcases cd hM with ⟨u,hM⟩ | ⟨u,hM⟩
    ·refine gE [4,5,6,7,8,9,10,11,12,13,14,15,16,17,18] hS fun a hS=>?_
     refine eD ?_
     exact ⟨_,hS.mt [] [2,3],hM⟩
    refine gE [4,5,6] hS fun a hS=>?_
    rcases cd hM with ⟨f,hM⟩ | ⟨f,hM⟩
    ·refine gE [7,8,9] hS fun a hS=>?_
     obtain ⟨q,j,hM⟩:=bd hM
     obtain ⟨p,A,G,x,z,hS⟩:=jS (R:=aa) hS nH kQ 2 rfl j
     obtain ⟨N,rfl,o⟩:=x
     replace hS:=hS.fS o
     refine we 10 (v:=pt p A) rfl (by kernel_rfl) (by kernel_rfl) (by kernel_rfl) rfl hQ hS (z rfl rfl) rfl rfl rfl f rfl rfl fun a hS=>?_
     refine gE [11,12,13,14] hS fun a hS=>?_
     obtain ⟨L,m,hM⟩:=bd hM
     refine bV (i:=15) rfl (by kernel_rfl) hS rfl rfl rfl f (a7 hS EL rfl rfl (tf _ _ hS.dlt (hS.get 5 rfl) q.Key g.Key _ m) fun _ w hR a hk hA=>⟨fx (hk),?_⟩)
     obtain rfl:=hR
     have hS:=bM hA
     refine gE [16,17,18] hS fun a hS=>?_
     refine eD ?_
     exact ⟨_,hS.mt [] [4,5],hM⟩
    refine gE [7,8,9,10,11,12,13,14,15,16,17,18] hS fun a hS=>?_
    refine eD ?_
    exact ⟨_,hS.mt [] [2,3],hM⟩
   rintro a w ⟨e,hS,hM⟩
   unfold cY at hM
   exact fz
  exact fz
 rintro a w ⟨hS,hM⟩
 unfold kl at hM
 exact fz
def jj (b:Bool):Option Bool:=some (b)
def ip (b:ae):Option Bool:=(gj b).bind fun c=>cond c ((px b).bind fun d=>jj d) (jj false)
theorem pD (T:Nat→Prop) (W0:World) (hT:TW T W0) (hLv:c6 T W0) (c:ae) (y:Bool) (hM:ip c=some y):aY Tryz.prog No 37 [.agg (aS c).toArray] W0 (fun v w'=>v = .bool y):=by
 refine en Tryz.func37 Tryz.ntmps37 hT fun a hS=>?_
 replace hS:=hS.fact bu (c6.dn hLv)
 unfold ip at hM
 refine ai hS fun a hS=>?_
 refine kb hS fun g h a w hk hS=>?_
 refine ai hS fun a hS=>?_
 refine aI (J:=fun a w=>∃ (b:Bool),St W0 No T 9 [(2,.bool b)] [] [bu] a w∧jj b=some y) ?_ ?_
 ·skip
  refine ai hS fun a hS=>?_
  obtain ⟨i,e,hM⟩:=bd hM
  refine kc hS EQ (qt _ _ hS.dlt (hS.get 0 rfl) c _ e) fun _ w hR a hk hA=>?_
  obtain rfl:=hR
  have hS:=bM hA
  refine ai hS fun a hS=>?_
  rcases cd hM with ⟨d,hM⟩ | ⟨d,hM⟩
  ·refine ai hS fun a hS=>?_
   obtain ⟨j,f,hM⟩:=bd hM
   refine wg hS rfl rfl rfl d (a7 hS G0 rfl rfl (tO _ _ hS.dlt c _ f) fun _ w hR a hk hA=>?_)
   obtain rfl:=hR
   have hS:=bM hA
   exact fz
  exact fz
 rintro a w ⟨b,hS,hM⟩
 unfold jj at hM
 exact fz
def mD:Option Int:=some ((-1))
def gU (c:LR) (f:al→Option Bool) (b:Int):Option (Fl (Int) (Fl (Unit) Int)):=cond (decide ((b:Int) < (c.length:Int))) ((bm c b).bind fun d=>(f d).bind fun e=>cond e (some (.out (.out b))) (some (.go (IntKind.i64.wrap (b + 1))))) (some (.out (.go ())))
def kA (b:al→Option Bool) (c:LR):Option Int:=(loop (fun s:Int=>gU c b s) 0).bind fun r=>Fl.el r (fun s=>mD) (fun y=>some (y))
theorem tV (T:Nat→Prop) (W0:World) (hT:TW T W0) (hLv:c6 T W0) (f_1g:Nat) (f:aM Tryz.prog f_1g=true) (f_1k:List Value) (f_1P:bW) (d:al→Option Bool) (o:∀ (T:Nat→Prop) (W0:World) (hT:TW T W0) (hLv:c6 T W0) (hP:f_1P.p T W0) (q:al) (k:Value) (A:aB ad T W0 k q.Reads) (y:Bool) (hM:d q=some y),aY Tryz.prog No f_1g ([.agg (aX q k).toArray] ++ f_1k) W0 (fun v w'=>v = .bool y)) (e:f_1P.p T W0) (c:LR) (j:Value) (t:aB aa T W0 j c) (y:Int) (hM:kA d c=some y):aY Tryz.prog No 70 [j,.func (.func f_1g) #[] f_1k.toArray] W0 (fun v w'=>v = .int .i64 y):=by
 refine en Tryz.func70 Tryz.ntmps70 hT fun a hS=>?_
 replace hS:=hS.fact f_1P (bW.dn _ e)
 replace hS:=hS.fact bu (c6.dn hLv)
 replace hS:=hS.fS (aB.dn t)
 unfold kA at hM
 refine ai hS fun a hS=>?_
 refine aI (J:=fun a w=>St W0 No T 19 [] [] [bu,f_1P] a w∧mD=some y) ?_ ?_
 ·skip
  refine ai hS fun a hS=>?_
  obtain ⟨E,r,hMo1⟩:=bd hM
  refine bB _ (fun s a w=>∃ (b:Int),b=s∧St W0 No T 19 [(0,j),(1,.func (.func f_1g) #[] f_1k.toArray),(7,.int .i64 (c.length:Int)),(8,.int .i64 b)] [] [aJ aa j c,bu,f_1P] a w) r ⟨_,rfl,hS.mt [] [0,1,2]⟩ ?_
  rintro s a w z ⟨b,rfl,hS⟩ hM hf1
  have hM:gU c d b=some z:=hM
  unfold gU at hM
  refine ai hS fun a hS=>?_
  refine aw ?_
  rcases cd hM with ⟨m,hM⟩ | ⟨m,hM⟩
  ·refine ai hS fun a hS=>?_
   refine aw ?_
   refine ai hS fun a hS=>?_
   obtain ⟨l,g,hM⟩:=bd hM
   refine wl rfl (bf (R:=aa) hS nH kQ rfl rfl 0 rfl g rfl fun u B x n a hS=>?_)
   obtain ⟨D,rfl,i⟩:=n
   replace hS:=hS.fS i
   refine ai hS fun a hS=>?_
   obtain ⟨C,h,hM⟩:=bd hM
   refine wl rfl (qU (cap:=f_1k) hS rfl f rfl rfl (o _ _ hS.dlt (hS.get 3 rfl) (hS.get 4 rfl) l _ (hS.get 0 rfl) _ h) fun _ w hR a hk hA=>?_)
   obtain rfl:=hR
   have hS:=bM hA
   exact fz
  exact fz
 rintro a w ⟨hS,hM⟩
 unfold mD at hM
 exact fz
def bz (c:al→Option Bool) (d:LR):Option Bool:=(kA c d).bind fun b=>some (decide ((0:Int)≤b))
theorem ir (T:Nat→Prop) (W0:World) (hT:TW T W0) (hLv:c6 T W0) (f_1g:Nat) (e:aM Tryz.prog f_1g=true) (f_1k:List Value) (f_1P:bW) (b:al→Option Bool) (h:∀ (T:Nat→Prop) (W0:World) (hT:TW T W0) (hLv:c6 T W0) (hP:f_1P.p T W0) (i:al) (g:Value) (l:aB ad T W0 g i.Reads) (y:Bool) (hM:b i=some y),aY Tryz.prog No f_1g ([.agg (aX i g).toArray] ++ f_1k) W0 (fun v w'=>v = .bool y)) (d:f_1P.p T W0) (c:LR) (k:Value) (j:aB aa T W0 k c) (y:Bool) (hM:bz b c=some y):aY Tryz.prog No 38 [k,.func (.func f_1g) #[] f_1k.toArray] W0 (fun v w'=>v = .bool y):=by
 refine en Tryz.func38 Tryz.ntmps38 hT fun a hS=>?_
 replace hS:=hS.fact f_1P (bW.dn _ d)
 replace hS:=hS.fact bu (c6.dn hLv)
 replace hS:=hS.fS (aB.dn j)
 unfold bz at hM
 refine ai hS fun a hS=>?_
 obtain ⟨m,f,hM⟩:=bd hM
 refine kc hS Iu (tV _ _ hS.dlt (hS.get 1 rfl) f_1g e f_1k f_1P b h (hS.get 2 rfl) c _ (hS.get 0 rfl) _ f) fun _ w hR a hk hA=>?_
 obtain rfl:=hR
 have hS:=bM hA
 exact fz
def il (c:al) (b:ah):Option Bool:=some (decide ((b.Revision:Int) < c.Verified))
theorem r6 (T:Nat→Prop) (W0:World) (hT:TW T W0) (d:al) (c:ah) (k:Value) (f:Value) (g:Value) (b:Nat) (h:aB ad T W0 k d.Reads) (i:aB ac T W0 f c.Inputs) (j:aB aa T W0 g c.Records) (e:(lN b 0 (aO c f g)).p T W0) (y:Bool) (hM:il d c=some y):aY Tryz.prog No 39 [.agg (aX d k).toArray,pt b 0] W0 (fun v w'=>v = .bool y):=by
 refine en Tryz.func39 Tryz.ntmps39 hT fun a hS=>?_
 replace hS:=hS.fact (lN b 0 (aO c f g)) (bW.dn _ e)
 replace hS:=hS.fS (aB.dn h)
 replace hS:=hS.fS (aB.dn i)
 replace hS:=hS.fS (aB.dn j)
 unfold il at hM
 refine ai hS fun a hS=>?_
 refine kb hS fun b l a w hk hS=>?_
 exact fz
def gB (b:ah):Option Bool:=(bz (fun d=>il d b) b.Records).bind fun c=>some (!(c))
def bU (b:Int) (c:Bool):Option (Fl (Int) (Fl (Unit) Bool)):=cond c (some (.out (.out false))) (some (.go (IntKind.i64.wrap (b + 1))))
def gC (d:ah) (b:Int):Option (Fl (Int) (Fl (Unit) Bool)):=cond (decide ((b:Int) < (d.Inputs.length:Int))) ((bm d.Inputs b).bind fun c=>(ip c.Key).bind fun f=>cond (!(f)) (bU b true) (cond (decide ((0:Int) < b)) ((bm d.Inputs (IntKind.i64.wrap (b - 1))).bind fun e=>(pM e.Key c.Key).bind fun g=>cond (decide ((0:Int)≤g)) (bU b true) (cond (decide ((1073741824:Int) < (c.Value.size:Int))) (bU b true) (cond (decide ((c.Changed:Int) < 0)) (bU b true) (bU b (decide ((d.Revision:Int) < c.Changed)))))) (cond (decide ((1073741824:Int) < (c.Value.size:Int))) (bU b true) (cond (decide ((c.Changed:Int) < 0)) (bU b true) (bU b (decide ((d.Revision:Int) < c.Changed))))))) (some (.out (.go ())))
def ik (b:ah):Option Bool:=cond (decide ((b.Revision:Int) < 0)) (some (false)) (cond (decide ((1073741824:Int) < b.Revision)) (some (false)) (cond (decide ((64:Int) < (b.Inputs.length:Int))) (some (false)) ((g9 b.Records).bind fun c=>cond (!(c)) (some (false)) ((loop (fun s:Int=>gC b s) 0).bind fun r=>Fl.el r (fun s=>gB b) (fun y=>some (y))))))
theorem pC (T:Nat→Prop) (W0:World) (hT:TW T W0) (hLv:c6 T W0) (b:ah) (e:Value) (f:Value) (Q:aB ac T W0 e b.Inputs) (S:aB aa T W0 f b.Records) (y:Bool) (hM:ik b=some y):aY Tryz.prog No 17 [.agg (aO b e f).toArray] W0 (fun v w'=>v = .bool y):=by
 refine en Tryz.func17 Tryz.ntmps17 hT fun a hS=>?_
 replace hS:=hS.fact bu (c6.dn hLv)
 replace hS:=hS.fS (aB.dn Q)
 replace hS:=hS.fS (aB.dn S)
 unfold ik at hM
 refine ai hS fun a hS=>?_
 refine kb hS fun c Z a w hk hS=>?_
 refine ai hS fun a hS=>?_
 refine aw ?_
 refine jO ?_
 refine ai hS fun a hS=>?_
 rcases cd hM with ⟨u,hM⟩ | ⟨u,hM⟩
 ·exact fz
 refine ai hS fun a hS=>?_
 rcases cd hM with ⟨x,hM⟩ | ⟨x,hM⟩
 ·exact fz
 refine ai hS fun a hS=>?_
 rcases cd hM with ⟨k,hM⟩ | ⟨k,hM⟩
 ·exact fz
 refine ai hS fun a hS=>?_
 obtain ⟨a5,q,hM⟩:=bd hM
 refine wg hS rfl rfl rfl k (a7 hS Ic rfl rfl (rV _ _ hS.dlt (hS.get 2 rfl) b.Records _ (hS.get 0 rfl) _ q) fun _ w hR a hk hA=>?_)
 obtain rfl:=hR
 have hS:=bM hA
 refine ai hS fun a hS=>?_
 rcases cd hM with ⟨z,hM⟩ | ⟨z,hM⟩
 ·exact fz
 refine ai hS fun a hS=>?_
 refine aI (J:=fun a w=>St W0 No T 78 [(1,pt c 0)] [.box c (aO b e f) 31] [aJ ac e b.Inputs,aJ aa f b.Records,bu] a w∧gB b=some y) ?_ ?_
 ·skip
  refine ai hS fun a hS=>?_
  obtain ⟨r1,P,hMo1⟩:=bd hM
  refine bB _ (fun s a w=>∃ (d:Int),d=s∧St W0 No T 78 [(1,pt c 0),(26,e),(27,.int .i64 (b.Inputs.length:Int)),(28,.int .i64 d)] [.box c (aO b e f) 31] [aJ ac e b.Inputs,aJ aa f b.Records,bu] a w) P ⟨_,rfl,hS.mt [0] [1,0,2]⟩ ?_
  rintro s a w O ⟨d,rfl,hS⟩ hM hf1
  have hM:gC b d=some O:=hM
  unfold gC at hM
  refine ai hS fun a hS=>?_
  refine aw ?_
  rcases cd hM with ⟨A,hM⟩ | ⟨A,hM⟩
  ·refine ai hS fun a hS=>?_
   refine aw ?_
   refine ai hS fun a hS=>?_
   obtain ⟨j,l,hM⟩:=bd hM
   refine wl rfl (bf (R:=ac) hS ro qN rfl rfl 0 rfl l rfl fun V a1 X B a hS=>?_)
   obtain rfl:=B
   refine ai hS fun a hS=>?_
   refine ka hS qn fun W a0 a w hk hS=>?_
   refine go hS fun a w hS=>?_
   refine aI (J:=fun a w=>∃ (g:Bool),St W0 No T 78 [(1,pt c 0),(26,e),(27,.int .i64 (b.Inputs.length:Int)),(28,.int .i64 d),(71,.bool g)] [.box c (aO b e f) 31] [aJ ac e b.Inputs,aJ aa f b.Records,bu] a w∧bU d g=some O) ?_ ?_
   ·skip
    refine dr [] hS fun w hQ hS=>?_
    refine gE [0,1] hS fun a hS=>?_
    obtain ⟨a3,o,hM⟩:=bd hM
    refine ec 2 hS GW (pD _ _ hS.dlt (hS.get 3 rfl) j.Key _ o) fun _ w hR a hk hA=>?_
    obtain rfl:=hR
    have hS:=bM hA
    refine gE [3,4] hS fun a hS=>?_
    rcases cd hM with ⟨C,hM⟩ | ⟨C,hM⟩
    ·refine gE [5,6,7,8,9,10,11,12,13,14,15,16,17,18,19,20,21,22,23,24,25,26,27,28,29,30,31,32,33,34,35,36,37,38] hS fun a hS=>?_
     refine eD ?_
     exact ⟨_,hS.mt [1] [1,2,3],hM⟩
    refine gE [5,6,7] hS fun a hS=>?_
    rcases cd hM with ⟨h,hM⟩ | ⟨h,hM⟩
    ·refine gE [8,9,10,11] hS fun a hS=>?_
     obtain ⟨t,m,hM⟩:=bd hM
     obtain ⟨r,M,Y,D,E,hS⟩:=jS (R:=ac) hS ro qN 1 rfl m
     obtain rfl:=D
     refine we 12 (v:=pt r M) rfl (by kernel_rfl) (by kernel_rfl) (by kernel_rfl) rfl hQ hS (E rfl rfl) rfl rfl rfl h rfl rfl fun a hS=>?_
     refine gE [13,14,15,16] hS fun a hS=>?_
     obtain ⟨a4,p,hM⟩:=bd hM
     refine bV (i:=17) rfl (by kernel_rfl) hS rfl rfl rfl h (a7 hS EL rfl rfl (tf _ _ hS.dlt (hS.get 4 rfl) t.Key j.Key _ p) fun _ w hR a hk hA=>⟨fx (hk),?_⟩)
     obtain rfl:=hR
     have hS:=bM hA
     refine gE [18,19,20,21] hS fun a hS=>?_
     rcases cd hM with ⟨F,hM⟩ | ⟨F,hM⟩
     ·refine gE [22,23,24,25,26,27,28,29,30,31,32,33,34,35,36,37,38] hS fun a hS=>?_
      refine eD ?_
      exact ⟨_,hS.mt [1] [2,3,4],hM⟩
     refine gE [22,23,24,25,26,27] hS fun a hS=>?_
     rcases cd hM with ⟨G,hM⟩ | ⟨G,hM⟩
     ·refine gE [28,29,30,31,32,33,34,35,36,37,38] hS fun a hS=>?_
      refine eD ?_
      exact ⟨_,hS.mt [1] [2,3,4],hM⟩
     refine gE [28,29,30,31,32] hS fun a hS=>?_
     rcases cd hM with ⟨H,hM⟩ | ⟨H,hM⟩
     ·refine gE [33,34,35,36,37,38] hS fun a hS=>?_
      refine eD ?_
      exact ⟨_,hS.mt [1] [2,3,4],hM⟩
     refine gE [33,34,35,36,37,38] hS fun a hS=>?_
     refine eD ?_
     exact ⟨_,hS.mt [1] [2,3,4],hM⟩
    refine gE [8,9,10,11,12,13,14,15,16,17,18,19,20,21,22,23,24,25,26,27] hS fun a hS=>?_
    rcases cd hM with ⟨I,hM⟩ | ⟨I,hM⟩
    ·refine gE [28,29,30,31,32,33,34,35,36,37,38] hS fun a hS=>?_
     refine eD ?_
     exact ⟨_,hS.mt [1] [1,2,3],hM⟩
    refine gE [28,29,30,31,32] hS fun a hS=>?_
    rcases cd hM with ⟨K,hM⟩ | ⟨K,hM⟩
    ·refine gE [33,34,35,36,37,38] hS fun a hS=>?_
     refine eD ?_
     exact ⟨_,hS.mt [1] [1,2,3],hM⟩
    refine gE [33,34,35,36,37,38] hS fun a hS=>?_
    refine eD ?_
    exact ⟨_,hS.mt [1] [1,2,3],hM⟩
   rintro a w ⟨g,hS,hM⟩
   unfold bU at hM
   exact fz
  exact fz
 rintro a w ⟨hS,hM⟩
 unfold gB at hM
 refine ai hS fun a hS=>?_
 replace hS:=hS.freezeBox 0 rfl
 refine qy hS (yL (vs:=[pt c 0]) hS rfl) fun a hS=>?_
 obtain ⟨a2,n,hM⟩:=bd hM
 refine kc hS Id (ir _ _ hS.dlt (hS.get 3 rfl) 39 Ie [pt c 0] (CJ (lN c 0 (aO b e f)) (CJ (aJ ac e b.Inputs) (CJ (aJ aa f b.Records) vW))) (fun N=>il N b) (fun T W0 hT hLv hP N U L y hM=>r6 T W0 hT N b U e f c L hP.2.1 hP.2.2.1 hP.1 y hM) ⟨(hS.get 0 rfl),(hS.get 1 rfl),(hS.get 2 rfl),trivial⟩ b.Records _ (hS.get 2 rfl) _ n) fun _ w hR a hk hA=>?_
 obtain rfl:=hR
 have hS:=bM hA
 exact fz
def cD:Option Int:=some ((-1))
def bA (c:LC) (f:aT→Option Bool) (b:Int):Option (Fl (Int) (Fl (Unit) Int)):=cond (decide ((b:Int) < (c.length:Int))) ((bm c b).bind fun d=>(f d).bind fun e=>cond e (some (.out (.out b))) (some (.go (IntKind.i64.wrap (b + 1))))) (some (.out (.go ())))
def bK (b:aT→Option Bool) (c:LC):Option Int:=(loop (fun s:Int=>bA c b s) 0).bind fun r=>Fl.el r (fun s=>cD) (fun y=>some (y))
theorem jf (T:Nat→Prop) (W0:World) (hT:TW T W0) (hLv:c6 T W0) (f_1g:Nat) (f:aM Tryz.prog f_1g=true) (f_1k:List Value) (f_1P:bW) (d:aT→Option Bool) (m:∀ (T:Nat→Prop) (W0:World) (hT:TW T W0) (hLv:c6 T W0) (hP:f_1P.p T W0) (q:aT) (y:Bool) (hM:d q=some y),aY Tryz.prog No f_1g ([.agg (dG q).toArray] ++ f_1k) W0 (fun v w'=>v = .bool y)) (e:f_1P.p T W0) (c:LC) (i:Value) (o:aB aK T W0 i c) (y:Int) (hM:bK d c=some y):aY Tryz.prog No 87 [i,.func (.func f_1g) #[] f_1k.toArray] W0 (fun v w'=>v = .int .i64 y):=by
 refine en Tryz.func87 Tryz.ntmps87 hT fun a hS=>?_
 replace hS:=hS.fact f_1P (bW.dn _ e)
 replace hS:=hS.fact bu (c6.dn hLv)
 replace hS:=hS.fS (aB.dn o)
 unfold bK at hM
 refine ai hS fun a hS=>?_
 refine aI (J:=fun a w=>St W0 No T 19 [] [] [bu,f_1P] a w∧cD=some y) ?_ ?_
 ·skip
  refine ai hS fun a hS=>?_
  obtain ⟨A,n,hMo1⟩:=bd hM
  refine bB _ (fun s a w=>∃ (b:Int),b=s∧St W0 No T 19 [(0,i),(1,.func (.func f_1g) #[] f_1k.toArray),(7,.int .i64 (c.length:Int)),(8,.int .i64 b)] [] [aJ aK i c,bu,f_1P] a w) n ⟨_,rfl,hS.mt [] [0,1,2]⟩ ?_
  rintro s a w u ⟨b,rfl,hS⟩ hM hf1
  have hM:bA c d b=some u:=hM
  unfold bA at hM
  refine ai hS fun a hS=>?_
  refine aw ?_
  rcases cd hM with ⟨k,hM⟩ | ⟨k,hM⟩
  ·refine ai hS fun a hS=>?_
   refine aw ?_
   refine ai hS fun a hS=>?_
   obtain ⟨j,g,hM⟩:=bd hM
   refine wl rfl (bf (R:=aK) hS vT vU rfl rfl 0 rfl g rfl fun r x t l a hS=>?_)
   obtain rfl:=l
   refine ai hS fun a hS=>?_
   obtain ⟨z,h,hM⟩:=bd hM
   refine wl rfl (qU (cap:=f_1k) hS rfl f rfl rfl (m _ _ hS.dlt (hS.get 2 rfl) (hS.get 3 rfl) j _ h) fun _ w hR a hk hA=>?_)
   obtain rfl:=hR
   have hS:=bM hA
   exact fz
  exact fz
 rintro a w ⟨hS,hM⟩
 unfold cD at hM
 exact fz
def bj (c:aT→Option Bool) (d:LC):Option Bool:=(bK c d).bind fun b=>some (decide ((0:Int)≤b))
theorem dF (T:Nat→Prop) (W0:World) (hT:TW T W0) (hLv:c6 T W0) (f_1g:Nat) (e:aM Tryz.prog f_1g=true) (f_1k:List Value) (f_1P:bW) (b:aT→Option Bool) (g:∀ (T:Nat→Prop) (W0:World) (hT:TW T W0) (hLv:c6 T W0) (hP:f_1P.p T W0) (j:aT) (y:Bool) (hM:b j=some y),aY Tryz.prog No f_1g ([.agg (dG j).toArray] ++ f_1k) W0 (fun v w'=>v = .bool y)) (d:f_1P.p T W0) (c:LC) (i:Value) (h:aB aK T W0 i c) (y:Bool) (hM:bj b c=some y):aY Tryz.prog No 55 [i,.func (.func f_1g) #[] f_1k.toArray] W0 (fun v w'=>v = .bool y):=by
 refine en Tryz.func55 Tryz.ntmps55 hT fun a hS=>?_
 replace hS:=hS.fact f_1P (bW.dn _ d)
 replace hS:=hS.fact bu (c6.dn hLv)
 replace hS:=hS.fS (aB.dn h)
 unfold bj at hM
 refine ai hS fun a hS=>?_
 obtain ⟨k,f,hM⟩:=bd hM
 refine kc hS IC (jf _ _ hS.dlt (hS.get 1 rfl) f_1g e f_1k f_1P b g (hS.get 2 rfl) c _ (hS.get 0 rfl) _ f) fun _ w hR a hk hA=>?_
 obtain rfl:=hR
 have hS:=bM hA
 exact fz
def im (c:aT):Option Bool:=(ip c.Key).bind fun b=>some (!(b))
theorem r7 (T:Nat→Prop) (W0:World) (hT:TW T W0) (hLv:c6 T W0) (b:aT) (y:Bool) (hM:im b=some y):aY Tryz.prog No 56 [.agg (dG b).toArray] W0 (fun v w'=>v = .bool y):=by
 refine en Tryz.func56 Tryz.ntmps56 hT fun a hS=>?_
 replace hS:=hS.fact bu (c6.dn hLv)
 unfold im at hM
 refine ai hS fun a hS=>?_
 refine kb hS fun d e a w hk hS=>?_
 refine ai hS fun a hS=>?_
 obtain ⟨f,c,hM⟩:=bd hM
 refine kc hS GW (pD _ _ hS.dlt (hS.get 0 rfl) b.Key _ c) fun _ w hR a hk hA=>?_
 obtain rfl:=hR
 have hS:=bM hA
 exact fz
def io (b:aT):Option Bool:=some (decide ((1073741824:Int) < (b.Value.size:Int)))
theorem r8 (T:Nat→Prop) (W0:World) (hT:TW T W0) (b:aT) (y:Bool) (hM:io b=some y):aY Tryz.prog No 57 [.agg (dG b).toArray] W0 (fun v w'=>v = .bool y):=by
 refine en Tryz.func57 Tryz.ntmps57 hT fun a hS=>?_
 unfold io at hM
 refine ai hS fun a hS=>?_
 refine kb hS fun c d a w hk hS=>?_
 exact fz
def jL (f:ah) (b:LC):Option Int:=(ik f).bind fun c=>cond (!(c)) (some (42)) (cond (decide ((32:Int) < (b.length:Int))) (some (3)) ((bj im b).bind fun d=>cond d (some (40)) ((bj io b).bind fun e=>cond e (some (3)) (some (0)))))
theorem tv (T:Nat→Prop) (W0:World) (hT:TW T W0) (hLv:c6 T W0) (b:ah) (c:LC) (n:Value) (o:Value) (p:Value) (k:aB ac T W0 n b.Inputs) (l:aB aa T W0 o b.Records) (m:aB aK T W0 p c) (y:Int) (hM:jL b c=some y):aY Tryz.prog No 28 [.agg (aO b n o).toArray,p] W0 (fun v w'=>v = .int .i64 y):=by
 refine en Tryz.func28 Tryz.ntmps28 hT fun a hS=>?_
 replace hS:=hS.fact bu (c6.dn hLv)
 replace hS:=hS.fS (aB.dn k)
 replace hS:=hS.fS (aB.dn l)
 replace hS:=hS.fS (aB.dn m)
 unfold jL at hM
 refine ai hS fun a hS=>?_
 refine kb hS fun q r a w hk hS=>?_
 refine ai hS fun a hS=>?_
 refine aw ?_
 refine ai hS fun a hS=>?_
 obtain ⟨s,d,hM⟩:=bd hM
 refine kc hS GR (pC _ _ hS.dlt (hS.get 3 rfl) b _ _ (hS.get 2 rfl) (hS.get 1 rfl) _ d) fun _ w hR a hk hA=>?_
 obtain rfl:=hR
 have hS:=bM hA
 refine ai hS fun a hS=>?_
 rcases cd hM with ⟨g,hM⟩ | ⟨g,hM⟩
 ·exact fz
 refine ai hS fun a hS=>?_
 rcases cd hM with ⟨h,hM⟩ | ⟨h,hM⟩
 ·exact fz
 refine ai hS fun a hS=>?_
 obtain ⟨t,e,hM⟩:=bd hM
 refine kc hS GY (dF _ _ hS.dlt (hS.get 3 rfl) 56 Il [] vW im (fun T W0 hT hLv _ j y hM=>r7 T W0 hT hLv j y hM) trivial c _ (hS.get 0 rfl) _ e) fun _ w hR a hk hA=>?_
 obtain rfl:=hR
 have hS:=bM hA
 refine ai hS fun a hS=>?_
 rcases cd hM with ⟨i,hM⟩ | ⟨i,hM⟩
 ·exact fz
 refine ai hS fun a hS=>?_
 obtain ⟨u,f,hM⟩:=bd hM
 refine kc hS GY (dF _ _ hS.dlt (hS.get 3 rfl) 57 Im [] vW io (fun T W0 hT hLv _ j y hM=>r8 T W0 hT j y hM) trivial c _ (hS.get 0 rfl) _ f) fun _ w hR a hk hA=>?_
 obtain rfl:=hR
 have hS:=bM hA
 exact fz
def cK (b:LI):Option LI:=gd (bG (([]:List aG).length + b.length)) <| some ((([]:List aG) ++ b))
theorem lq (T:Nat→Prop) (W0:World) (hT:TW T W0) (d:LI) (m:Value) (l:aB ac T W0 m d) (y:LI) (hM:cK d=some y):aY Tryz.prog No 58 [m] W0 (fun v w'=>∃ (k:Value) (oW:List Value),v=k∧iy ac T W0 w' [aP k oW] 61 k oW y):=by
 refine en Tryz.func58 Tryz.ntmps58 hT fun a hS=>?_
 replace hS:=hS.fS (aB.dn l)
 unfold cK at hM
 refine ai hS fun a hS=>?_
 refine aw ?_
 refine ai hS fun a hS=>?_
 obtain ⟨b,f,g,n⟩:=xA (R:=ac) hS ro 0 rfl
 refine wl rfl (ky (v:=.bool b) hS (g rfl) rfl rfl fun a hS=>?_)
 refine ai hS fun a hS=>?_
 rcases Bc (b) with c | c
 ·rw [f c] at hM
  have hM:some ([])=some y:=hM
  refine ai hS fun a hS=>?_
  cases hM
  refine aF hS rfl (ar hS rfl aH) ?_
  exact ⟨.slice none 0 0,[],rfl,q8 _ _ _ _ _ _⟩
 refine ai hS fun a hS=>?_
 refine wl rfl (tb ac hS vG rfl fun o a w hk hS=>?_)
 refine ai hS fun a hS=>?_
 obtain ⟨h,hM⟩:=ba hM
 refine wl rfl (bC (R:=ac) (xs:=([]:List aG)) (ys:=d) hS vG (by decide) (by decide) rfl rfl 0 rfl 0 rfl 1 rfl h rfl fun j e a w hk hS=>?_)
 refine ai hS fun a hS=>?_
 cases hM
 refine aF hS rfl (ar hS rfl aH) ?_
 exact ⟨j,e,rfl,hS.retOwn ⟨.inr (List.mem_of_getElem? (i:=0) rfl),trivial⟩ 0 rfl 0 rfl⟩
def lP (b:LR):Option LR:=gd (bG (([]:List al).length + b.length)) <| some ((([]:List al) ++ b))
theorem uE (T:Nat→Prop) (W0:World) (hT:TW T W0) (d:LR) (m:Value) (l:aB aa T W0 m d) (y:LR) (hM:lP d=some y):aY Tryz.prog No 88 [m] W0 (fun v w'=>∃ (k:Value) (oW:List Value),v=k∧iy aa T W0 w' [aE k oW] 77 k oW y):=by
 refine en Tryz.func88 Tryz.ntmps88 hT fun a hS=>?_
 replace hS:=hS.fS (aB.dn l)
 unfold lP at hM
 refine ai hS fun a hS=>?_
 refine aw ?_
 refine ai hS fun a hS=>?_
 obtain ⟨b,f,g,n⟩:=xA (R:=aa) hS nH 0 rfl
 refine wl rfl (ky (v:=.bool b) hS (g rfl) rfl rfl fun a hS=>?_)
 refine ai hS fun a hS=>?_
 rcases Bc (b) with c | c
 ·rw [f c] at hM
  have hM:some ([])=some y:=hM
  refine ai hS fun a hS=>?_
  cases hM
  refine aF hS rfl (ar hS rfl aH) ?_
  exact ⟨.slice none 0 0,[],rfl,q8 _ _ _ _ _ _⟩
 refine ai hS fun a hS=>?_
 refine wl rfl (tb aa hS pp rfl fun o a w hk hS=>?_)
 refine ai hS fun a hS=>?_
 obtain ⟨h,hM⟩:=ba hM
 refine wl rfl (bC (R:=aa) (xs:=([]:List al)) (ys:=d) hS pp (by decide) (by decide) rfl rfl 0 rfl 0 rfl 1 rfl h rfl fun j e a w hk hS=>?_)
 refine ai hS fun a hS=>?_
 cases hM
 refine aF hS rfl (ar hS rfl aH) ?_
 exact ⟨j,e,rfl,hS.retOwn ⟨.inr (List.mem_of_getElem? (i:=0) rfl),trivial⟩ 0 rfl 0 rfl⟩
def pj (b:LK):Option LK:=gd (bG (([]:List ae).length + b.length)) <| some ((([]:List ae) ++ b))
theorem xP (T:Nat→Prop) (W0:World) (hT:TW T W0) (d:LK) (m:Value) (l:aB ad T W0 m d) (y:LK) (hM:pj d=some y):aY Tryz.prog No 118 [m] W0 (fun v w'=>∃ (k:Value) (oW:List Value),v=k∧iy ad T W0 w' [au k oW] 35 k oW y):=by
 refine en Tryz.func118 Tryz.ntmps118 hT fun a hS=>?_
 replace hS:=hS.fS (aB.dn l)
 unfold pj at hM
 refine ai hS fun a hS=>?_
 refine aw ?_
 refine ai hS fun a hS=>?_
 obtain ⟨b,f,g,n⟩:=xA (R:=ad) hS nI 0 rfl
 refine wl rfl (ky (v:=.bool b) hS (g rfl) rfl rfl fun a hS=>?_)
 refine ai hS fun a hS=>?_
 rcases Bc (b) with c | c
 ·rw [f c] at hM
  have hM:some ([])=some y:=hM
  refine ai hS fun a hS=>?_
  cases hM
  refine aF hS rfl (ar hS rfl aH) ?_
  exact ⟨.slice none 0 0,[],rfl,q8 _ _ _ _ _ _⟩
 refine ai hS fun a hS=>?_
 refine wl rfl (tb ad hS iq rfl fun o a w hk hS=>?_)
 refine ai hS fun a hS=>?_
 obtain ⟨h,hM⟩:=ba hM
 refine wl rfl (bC (R:=ad) (xs:=([]:List ae)) (ys:=d) hS iq (by decide) (by decide) rfl rfl 0 rfl 0 rfl 1 rfl h rfl fun j e a w hk hS=>?_)
 refine ai hS fun a hS=>?_
 cases hM
 refine aF hS rfl (ar hS rfl aH) ?_
 exact ⟨j,e,rfl,hS.retOwn ⟨.inr (List.mem_of_getElem? (i:=0) rfl),trivial⟩ 0 rfl 0 rfl⟩
def ox (b:al):Option al:=(pj b.Reads).bind fun c=>some ((al.mk b.Key b.Value c b.Changed b.Verified b.Cost b.Dirty))
theorem xl (T:Nat→Prop) (W0:World) (hT:TW T W0) (b:al) (j:Value) (h:aB ad T W0 j b.Reads) (y:al) (hM:ox b=some y):aY Tryz.prog No 89 [.agg (aX b j).toArray] W0 (fun v w'=>∃ (g:Value) (oW:List Value),v = .agg (aX y g).toArray∧iy ad T W0 w' [au g oW] 35 g oW y.Reads):=by
 refine en Tryz.func89 Tryz.ntmps89 hT fun a hS=>?_
 replace hS:=hS.fS (aB.dn h)
 unfold ox at hM
 refine ai hS fun a hS=>?_
 refine kb hS fun k m a w hk hS=>?_
 refine ka hS fJ fun l n a w hk hS=>?_
 refine ai hS fun a hS=>?_
 obtain ⟨o,d,hM⟩:=bd hM
 refine kc hS GH (xP _ _ hS.dlt b.Reads _ (hS.get 0 rfl) _ d) fun _ w hR a hk hA=>?_
 obtain ⟨f,e,he,c⟩:=hR
 obtain rfl:=he.symm
 have hS:=pd hA c
 refine go hS fun a w hS=>?_
 cases hM
 refine aF hS rfl (rC 1 hS) ?_
 exact ⟨f,e,rfl,hS.retOwn ⟨.inr (List.mem_of_getElem? (i:=0) rfl),trivial⟩ 0 rfl 0 rfl⟩
def ow (b:LR):Option LR:=some (b)
def jm (e:LR) (c:LR) (b:Int):Option (Fl (LR×Int) (LR)):=cond (decide ((b:Int) < (e.length:Int))) ((bm c b).bind fun d=>(ox d).bind fun f=>(bm c b).bind fun g=>some (.go ((c.set (Int.toNat b) f),IntKind.i64.wrap (b + 1)))) (some (.out c))
def ns (c:LR):Option LR:=(lP c).bind fun b=>(loop (fun s:LR×Int=>jm b s.1 s.2) (b,0)).bind fun r=>ow r
theorem vH (T:Nat→Prop) (W0:World) (hT:TW T W0) (o:LR) (P:Value) (O:aB aa T W0 P o) (y:LR) (hM:ns o=some y):aY Tryz.prog No 59 [P] W0 (fun v w'=>∃ (M:Value) (oW:List Value),v=M∧iy aa T W0 w' [aE M oW] 77 M oW y):=by
 refine en Tryz.func59 Tryz.ntmps59 hT fun a hS=>?_
 replace hS:=hS.fS (aB.dn O)
 unfold ns at hM
 refine ai hS fun a hS=>?_
 obtain ⟨p,t,hM⟩:=bd hM
 refine kc hS ID (uE _ _ hS.dlt o _ (hS.get 0 rfl) _ t) fun _ w hR a hk hA=>?_
 obtain ⟨b,V,he,m⟩:=hR
 obtain rfl:=he.symm
 have hS:=pd hA m
 refine ai hS fun a hS=>?_
 refine aI (J:=fun a w=>∃ (g:LR) (c:LV),St W0 No T 22 [(3,b)] [aE b c] [am aa c g] a w∧ow g=some y) ?_ ?_
 ·skip
  refine ai hS fun a hS=>?_
  obtain ⟨r1,N,hMo1⟩:=bd hM
  refine bB _ (fun s a w=>∃ (e:LR) (d:Int) (f:LV),(e,d)=s∧St W0 No T 22 [(3,b),(8,b),(9,.int .i64 (p.length:Int)),(10,.int .i64 d)] [aE b f] [am aa f e] a w) N ⟨_,_,_,rfl,hS.mt [0] [0]⟩ ?_
  rintro s a w f1 ⟨e,d,f,rfl,hS⟩ hM hf1
  have hM:jm p e d=some f1:=hM
  unfold jm at hM
  refine ai hS fun a hS=>?_
  refine aw ?_
  rcases cd hM with ⟨B,hM⟩ | ⟨B,hM⟩
  ·refine ai hS fun a hS=>?_
   refine aw ?_
   refine ai hS fun a hS=>?_
   obtain ⟨l,r,hM⟩:=bd hM
   refine wl rfl (dI (R:=aa) hS nH kQ rfl rfl 0 rfl 0 rfl r rfl fun Q a2 a4 W C D E a hS=>?_)
   obtain ⟨I,rfl,x⟩:=C
   replace hS:=hS.fS x
   refine qy hS (cg (k:=0) hS kQ 0 rfl D E rfl id (us:=(aX l I)) rfl rfl (fun h=>by cases h)) fun a hS=>?_
   refine ka hS fJ fun S a1 a w hk hS=>?_
   refine go hS fun a w hS=>?_
   obtain ⟨q,u,hM⟩:=bd hM
   refine kc hS IE (xl _ _ hS.dlt l _ (hS.get 0 rfl) _ u) fun _ w hR a hk hA=>?_
   obtain ⟨K,X,he,n⟩:=hR
   obtain rfl:=he.symm
   have hS:=pd hA n
   obtain ⟨A,j,hM⟩:=bd hM
   refine wl rfl (dI (R:=aa) hS nH kQ rfl rfl 2 rfl 2 rfl j rfl fun U a3 a5 Y F G H a hS=>?_)
   obtain ⟨L,rfl,z⟩:=F
   replace hS:=hS.fS z
   replace hS:=hS.freeze (R:=ad) 0 rfl 1 rfl
   refine wl rfl (pu (R:=aa) (k:=0) (cs:=(aX A L)) (us:=(aX q K)) (x':=q) hS rfl rfl rfl kQ 1 rfl 4 rfl G H j (⟨_,rfl,(hS.get 1 rfl)⟩) rfl rfl (⟨_,rfl,(hS.get 0 rfl)⟩) fun Z w hk hS=>?_)
   exact fz
  exact fz
 rintro a w ⟨g,c,hS,hM⟩
 unfold ow at hM
 refine ai hS fun a hS=>?_
 cases hM
 refine aF hS rfl (ar hS rfl aH) ?_
 exact ⟨b,c,rfl,hS.retOwn ⟨.inr (List.mem_of_getElem? (i:=0) rfl),trivial⟩ 0 rfl 0 rfl⟩
def fw (b:ah):Option ah:=(cK b.Inputs).bind fun c=>(ns b.Records).bind fun d=>some ((ah.mk b.Revision c d))
theorem ld (T:Nat→Prop) (W0:World) (hT:TW T W0) (b:ah) (r:Value) (s:Value) (p:aB ac T W0 r b.Inputs) (q:aB aa T W0 s b.Records) (y:ah) (hM:fw b=some y):aY Tryz.prog No 29 [.agg (aO b r s).toArray] W0 (fun v w'=>∃ (f:Value) (tH:List Value) (g:Value) (xD:List Value),v = .agg (aO y f g).toArray∧iy ac T W0 w' [aP f tH,aE g xD] 61 f tH y.Inputs∧iy aa T W0 w' [aP f tH,aE g xD] 77 g xD y.Records∧(∀ k,f.ownBlock=some k→g.ownBlock ≠ some k)):=by
 refine en Tryz.func29 Tryz.ntmps29 hT fun a hS=>?_
 replace hS:=hS.fS (aB.dn p)
 replace hS:=hS.fS (aB.dn q)
 unfold fw at hM
 refine ai hS fun a hS=>?_
 refine kb hS fun c u a w hk hS=>?_
 refine ka hS jP fun t x a w hk hS=>?_
 refine ai hS fun a hS=>?_
 refine aw ?_
 refine dr [(7,.blk (some c)),(9,.blk (some c))] hS fun w hQ hS=>?_
 refine gE [0,1,3,4] hS fun a hS=>?_
 obtain ⟨z,h,hM⟩:=bd hM
 refine ec 2 hS In (lq _ _ hS.dlt b.Inputs _ (hS.get 1 rfl) _ h) fun _ w hR a hk hA=>?_
 obtain ⟨n,l,he,d⟩:=hR
 obtain rfl:=he.symm
 have hS:=pd hA d
 refine gE [6] hS fun a hS=>?_
 obtain ⟨A,j,hM⟩:=bd hM
 refine ec 5 hS Ip (vH _ _ hS.dlt b.Records _ (hS.get 1 rfl) _ j) fun _ w hR a hk hA=>?_
 obtain ⟨o,m,he,e⟩:=hR
 obtain rfl:=he.symm
 have hS:=pd hA e
 refine es 7 hS fun w hS=>?_
 refine gE [8] hS fun a hS=>?_
 refine es 9 hS fun w hS=>?_
 refine eD ?_
 refine go hS fun a w hS=>?_
 cases hM
 refine aF hS rfl (rC 2 hS) ?_
 exact ⟨n,l,o,m,rfl,hS.retOwn ⟨.inr (List.mem_of_getElem? (i:=1) rfl),⟨.inr (List.mem_of_getElem? (i:=0) rfl),trivial⟩⟩ 1 rfl 1 rfl,hS.retOwn ⟨.inr (List.mem_of_getElem? (i:=1) rfl),⟨.inr (List.mem_of_getElem? (i:=0) rfl),trivial⟩⟩ 0 rfl 0 rfl,(hS.apart2 1 rfl 0 rfl (by decide))⟩
def a6 (c:Int) (b:Bool):Option (Int×Bool):=some ((c,b))
def bo (d:LI) (c:ae) (e:aG→ae→Option Int) (b:Int):Option (Int×Bool):=cond (decide ((b:Int) < (d.length:Int))) ((bm d b).bind fun f=>(e f c).bind fun g=>a6 b ((g:Int) == 0)) (a6 b false)
def bp (h:LI) (d:ae) (e:aG→ae→Option Int) (b:Int) (c:Int):Option (Fl (Int×Int) (Int)):=cond (decide ((b:Int) < c)) ((bm h (IntKind.i64.wrap (yt .u64 (IntKind.u64.wrap (IntKind.i64.wrap (b + c))) 1))).bind fun f=>(e f d).bind fun g=>cond (decide ((g:Int) < 0)) (some (.go (IntKind.i64.wrap ((IntKind.i64.wrap (yt .u64 (IntKind.u64.wrap (IntKind.i64.wrap (b + c))) 1)) + 1),c))) (some (.go (b,IntKind.i64.wrap (yt .u64 (IntKind.u64.wrap (IntKind.i64.wrap (b + c))) 1))))) (some (.out b))
def aV (c:aG→ae→Option Int) (d:LI) (b:ae):Option (Int×Bool):=(loop (fun s:Int×Int=>bp d b c s.1 s.2) (0,(d.length:Int))).bind fun r=>bo d b c r
theorem fj (T:Nat→Prop) (W0:World) (hT:TW T W0) (hLv:c6 T W0) (cmp_g:Nat) (j:aM Tryz.prog cmp_g=true) (cmp_k:List Value) (cmp_P:bW) (f:aG→ae→Option Int) (m:∀ (T:Nat→Prop) (W0:World) (hT:TW T W0) (hLv:c6 T W0) (hP:cmp_P.p T W0) (L:aG) (M:ae) (y:Int) (hM:f L M=some y),aY Tryz.prog No cmp_g ([.agg (mC L).toArray,.agg (aS M).toArray] ++ cmp_k) W0 (fun v w'=>v = .int .i64 y)) (hPcmp_:cmp_P.p T W0) (c:LI) (b:ae) (n:Value) (K:aB ac T W0 n c) (y:Int×Bool) (hM:aV f c b=some y):aY Tryz.prog No 30 [n,.agg (aS b).toArray,.func (.func cmp_g) #[] cmp_k.toArray] W0 (fun v w'=>v = .tuple #[.int .i64 y.1,.bool y.2]):=by
 refine en Tryz.func30 Tryz.ntmps30 hT fun a hS=>?_
 replace hS:=hS.fact cmp_P (bW.dn _ hPcmp_)
 replace hS:=hS.fact bu (c6.dn hLv)
 replace hS:=hS.fS (aB.dn K)
 unfold aV at hM
 refine ai hS fun a hS=>?_
 refine kb hS fun e Q a w hk hS=>?_
 refine ai hS fun a hS=>?_
 refine aI (J:=fun a w=>∃ (d:Int),St W0 No T 49 [(0,n),(2,.func (.func cmp_g) #[] cmp_k.toArray),(4,pt e 0),(8,.int .i64 (c.length:Int)),(9,.int .i64 d)] [.box e (aS b) 35] [aJ ac n c,bu,cmp_P] a w∧bo c b f d=some y) ?_ ?_
 ·skip
  refine ai hS fun a hS=>?_
  obtain ⟨V,I,hMo1⟩:=bd hM
  refine bB _ (fun s a w=>∃ (g:Int) (h:Int),(g,h)=s∧St W0 No T 49 [(0,n),(2,.func (.func cmp_g) #[] cmp_k.toArray),(4,pt e 0),(8,.int .i64 (c.length:Int)),(9,.int .i64 g),(10,.int .i64 h)] [.box e (aS b) 35] [aJ ac n c,bu,cmp_P] a w) I ⟨_,_,rfl,hS.mt [0] [0,1,2]⟩ ?_
  rintro s a w P ⟨g,h,rfl,hS⟩ hM hf1
  have hM:bp c b f g h=some P:=hM
  unfold bp at hM
  refine aw ?_
  refine ai hS fun a hS=>?_
  rcases cd hM with ⟨B,hM⟩ | ⟨B,hM⟩
  ·refine ai hS fun a hS=>?_
   refine qy hS (HL hS rfl rfl rfl) fun a hS=>?_
   refine ai hS fun a hS=>?_
   refine aw ?_
   refine dr [] hS fun w hQ hS=>?_
   refine gE [0,1,2] hS fun a hS=>?_
   obtain ⟨A,q,hM⟩:=bd hM
   obtain ⟨u,G,N,C,D,hS⟩:=jS (R:=ac) hS ro qN 0 rfl q
   obtain rfl:=C
   refine dy 3 (v:=pt u G) rfl (by kernel_rfl) (by kernel_rfl) (by kernel_rfl) rfl hQ hS (D rfl rfl) rfl rfl rfl fun a hS=>?_
   refine gE [4,5] hS fun a hS=>?_
   obtain ⟨U,t,hM⟩:=bd hM
   refine e1 6 (qU (cap:=cmp_k) hS rfl j rfl rfl (m _ _ hS.dlt (hS.get 2 rfl) (hS.get 3 rfl) A b _ t) fun _ w hR a hk hA=>⟨fx (hk),?_⟩)
   obtain rfl:=hR
   have hS:=bM hA
   refine gE [7] hS fun a hS=>?_
   refine eD ?_
   exact fz
  exact fz
 rintro a w ⟨d,hS,hM⟩
 unfold bo at hM
 refine aI (J:=fun a w=>∃ (k:Bool),St W0 No T 49 [(6,.int .i64 d),(7,.bool k)] [] [bu,cmp_P] a w∧a6 d k=some y) ?_ ?_
 ·skip
  refine dr [] hS fun w hQ hS=>?_
  refine gE [0,1,2,3,4] hS fun a hS=>?_
  rcases cd hM with ⟨l,hM⟩ | ⟨l,hM⟩
  ·refine gE [5,6,7] hS fun a hS=>?_
   obtain ⟨z,o,hM⟩:=bd hM
   obtain ⟨x,H,O,E,F,hS⟩:=jS (R:=ac) hS ro qN 0 rfl o
   obtain rfl:=E
   refine we 8 (v:=pt x H) rfl (by kernel_rfl) (by kernel_rfl) (by kernel_rfl) rfl hQ hS (F rfl rfl) rfl rfl rfl l rfl rfl fun a hS=>?_
   refine gE [9,10] hS fun a hS=>?_
   obtain ⟨S,r,hM⟩:=bd hM
   refine bV (i:=11) rfl (by kernel_rfl) hS rfl rfl rfl l (qU (cap:=cmp_k) hS rfl j rfl rfl (m _ _ hS.dlt (hS.get 2 rfl) (hS.get 3 rfl) z b _ r) fun _ w hR a hk hA=>⟨fx (hk),?_⟩)
   obtain rfl:=hR
   have hS:=bM hA
   refine gE [12,13,14,15] hS fun a hS=>?_
   refine eD ?_
   exact ⟨_,hS.mt [] [2,3],hM⟩
  refine gE [5,6,7,8,9,10,11,12,13,14,15] hS fun a hS=>?_
  refine eD ?_
  exact ⟨_,hS.mt [] [1,2],hM⟩
 rintro a w ⟨k,hS,hM⟩
 unfold a6 at hM
 refine ai hS fun a hS=>?_
 cases hM
 refine aF hS Tryz.results30 (ar hS rfl (ar hS rfl aH)) ?_
 exact rfl
def dC (d:aG) (c:ae):Option Int:=(pM d.Key c).bind fun b=>some (b)
theorem r5 (T:Nat→Prop) (W0:World) (hT:TW T W0) (hLv:c6 T W0) (c:aG) (b:ae) (y:Int) (hM:dC c b=some y):aY Tryz.prog No 31 [.agg (mC c).toArray,.agg (aS b).toArray] W0 (fun v w'=>v = .int .i64 y):=by
 refine en Tryz.func31 Tryz.ntmps31 hT fun a hS=>?_
 replace hS:=hS.fact bu (c6.dn hLv)
 unfold dC at hM
 refine ai hS fun a hS=>?_
 refine kb hS fun e g a w hk hS=>?_
 refine kb hS fun f h a w hk hS=>?_
 refine ai hS fun a hS=>?_
 obtain ⟨i,d,hM⟩:=bd hM
 refine kc hS EL (tf _ _ hS.dlt (hS.get 0 rfl) c.Key b _ d) fun _ w hR a hk hA=>?_
 obtain rfl:=hR
 have hS:=bM hA
 exact fz
def eZ (d:ah) (b:ah) (e:Bool) (c:LI):Option (ah×Int):=cond (!(e)) (some (((ah.mk b.Revision c b.Records),0))) (cond (decide ((64:Int) < (c.length:Int))) ((fw d).bind fun f=>some ((f,45))) (cond ((d.Revision:Int) == 1073741824) ((fw d).bind fun g=>some ((g,3))) (some (((ah.mk (IntKind.i64.wrap (b.Revision + 1)) c b.Records),0)))))
def ce (f:ah) (g:Bool) (b:LI) (d:ae) (e:ByteArray):Option (Bool×LI):=(bL f d).bind fun h=>cond (h.toList == e.toList) (some (g,b)) ((aV dC b d).bind fun c=>cond c.2 ((bm b c.1).bind fun i=>some (true,(b.set (Int.toNat c.1) (aG.mk d e (IntKind.i64.wrap (f.Revision + 1)))))) (gd (decide (0≤c.1)) <| gd (decide ((c.1:Int)≤b.length)) <| gd (bG (b.length + 1)) <| some (true,(List.take (Int.toNat c.1) b ++ (aG.mk d e (IntKind.i64.wrap (f.Revision + 1))) :: List.drop (Int.toNat c.1) b))))
def ji (b:ah) (d:LB):Option (ah×Int):=(fw b).bind fun c=>(tq (fun (s:Bool×LI) (k:ae) (v:ByteArray)=>ce b s.1 s.2 k v) d (false,c.Inputs)).bind fun r=>eZ b c r.1 r.2
def e6 (e:LC) (d:LB) (b:Int):Option (Fl (LB×Int) (LB)):=cond (decide ((b:Int) < (e.length:Int))) ((bm e b).bind fun c=>some (.go ((cX aA c.Key c.Value d),IntKind.i64.wrap (b + 1)))) (some (.out d))
def cc (b:ah) (d:LC):Option (ah×Int):=(jL b d).bind fun c=>cond ((c:Int) != 0) ((fw b).bind fun e=>some ((e,c))) ((loop (fun s:LB×Int=>e6 d s.1 s.2) (([]:LB),0)).bind fun r=>ji b r)
theorem dD (T:Nat→Prop) (W0:World) (hT:TW T W0) (hLv:c6 T W0) (b:ah) (G:LC) (D:Value) (F:Value) (v3:Value) (e4:aB ac T W0 D b.Inputs) (e5:aB aa T W0 F b.Records) (e8:aB aK T W0 v3 G) (y:ah×Int) (hM:cc b G=some y):aY Tryz.prog No 13 [.agg (aO b D F).toArray,v3] W0 (fun v w'=>∃ (v4:Value) (wP:List Value) (v6:Value) (yZ:List Value),v = .tuple #[.agg (aO y.1 v4 v6).toArray,.int .i64 y.2]∧iy ac T W0 w' [aP v4 wP,aE v6 yZ] 61 v4 wP y.1.Inputs∧iy aa T W0 w' [aP v4 wP,aE v6 yZ] 77 v6 yZ y.1.Records∧(∀ k,v4.ownBlock=some k→v6.ownBlock ≠ some k)):=by
 refine en Tryz.func13 Tryz.ntmps13 hT fun a hS=>?_
 replace hS:=hS.fact bu (c6.dn hLv)
 replace hS:=hS.fS (aB.dn e4)
 replace hS:=hS.fS (aB.dn e5)
 replace hS:=hS.fS (aB.dn e8)
 unfold cc at hM
 refine ai hS fun a hS=>?_
 refine kb hS fun j eX a w hk hS=>?_
 refine ka hS jP fun l f2 a w hk hS=>?_
 refine ai hS fun a hS=>?_
 refine aw ?_
 refine ai hS fun a hS=>?_
 obtain ⟨g4,ax,hM⟩:=bd hM
 refine kc hS H7 (tv _ _ hS.dlt (hS.get 3 rfl) b G _ _ _ (hS.get 2 rfl) (hS.get 1 rfl) (hS.get 0 rfl) _ ax) fun _ w hR a hk hA=>?_
 obtain rfl:=hR
 have hS:=bM hA
 refine ai hS fun a hS=>?_
 rcases cd hM with ⟨bs,hM⟩ | ⟨bs,hM⟩
 ·refine ai hS fun a hS=>?_
  obtain ⟨g5,ay,hM⟩:=bd hM
  refine kc hS CW (ld _ _ hS.dlt b _ _ (hS.get 2 rfl) (hS.get 1 rfl) _ ay) fun _ w hR a hk hA=>?_
  obtain ⟨d6,b3,dc,b4,he,W,X,B⟩:=hR
  obtain rfl:=he.symm
  have hS:=sZ hA W X B
  refine go hS fun a w hS=>?_
  cases hM
  refine aF hS Tryz.results13 (a8 hS rfl 2 rfl fG rfl (fun h=>by cases h) (ar hS rfl aH)) ?_
  exact ⟨d6,b3,dc,b4,rfl,hS.retOwn ⟨.inr (List.mem_of_getElem? (i:=0) rfl),⟨.inr (List.mem_of_getElem? (i:=1) rfl),trivial⟩⟩ 0 rfl 1 rfl,hS.retOwn ⟨.inr (List.mem_of_getElem? (i:=0) rfl),⟨.inr (List.mem_of_getElem? (i:=1) rfl),trivial⟩⟩ 1 rfl 0 rfl,(hS.apart2 0 rfl 1 rfl (by decide))⟩
 refine ai hS fun a hS=>?_
 refine wl rfl (uV ad true aR.str false hS rfl fun n f3 a w hk hS=>?_)
 refine ai hS fun a hS=>?_
 refine aI (J:=fun a w=>∃ (C:LB) (m:AM) (g:Nat),St W0 No T 100 [(2,pt j 0),(4,pt l 0),(7,.map (some n))] [om n m g,.box j (aO b D F) 31,.box l [.int .i64 0,.slice none 0 0,.slice none 0 0] 31] [lL m C,tC m g,aJ ac D b.Inputs,aJ aa F b.Records,bu] a w∧ji b C=some y) ?_ ?_
 ·skip
  refine ai hS fun a hS=>?_
  obtain ⟨r1,a4,hMo1⟩:=bd hM
  refine bB _ (fun s a w=>∃ (M:LB) (K:Int) (I:AM) (Q:Nat),(M,K)=s∧St W0 No T 100 [(2,pt j 0),(4,pt l 0),(7,.map (some n)),(26,v3),(27,.int .i64 (G.length:Int)),(28,.int .i64 K)] [om n I Q,.box j (aO b D F) 31,.box l [.int .i64 0,.slice none 0 0,.slice none 0 0] 31] [lL I M,tC I Q,aJ aK v3 G,aJ ac D b.Inputs,aJ aa F b.Records,bu] a w) a4 ⟨_,_,_,_,rfl,hS.mt [0,2,1] [1,0,2,4,3,5]⟩ ?_
  rintro s a w f1 ⟨M,K,I,Q,rfl,hS⟩ hM hf1
  have hM:e6 G M K=some f1:=hM
  unfold e6 at hM
  refine ai hS fun a hS=>?_
  refine aw ?_
  rcases cd hM with ⟨bt,hM⟩ | ⟨bt,hM⟩
  ·refine ai hS fun a hS=>?_
   refine aw ?_
   refine ai hS fun a hS=>?_
   obtain ⟨H,ab,hM⟩:=bd hM
   refine wl rfl (bf (R:=aK) hS vT vU rfl rfl 2 rfl ab rfl fun ea fn eq c0 a hS=>?_)
   obtain rfl:=c0
   refine ai hS fun a hS=>?_
   refine ka hS pb fun ed f4 a w hk hS=>?_
   refine go hS fun a w hS=>?_
   refine wl rfl (xb hS rU dE 1 rfl 1 rfl 2 rfl (c:=(aS H.Key)) (cv:=[.string H.Value]) (key:=H.Key) (val:=H.Value) rfl rfl rfl rfl rfl fun ez er w hk hS=>?_)
   exact fz
  exact fz
 rintro a w ⟨C,m,g,hS,hM⟩
 unfold ji at hM
 refine ai hS fun a hS=>?_
 obtain ⟨o,af,hM⟩:=bd hM
 refine kc hS CW (ld _ _ hS.dlt b _ _ (hS.get 2 rfl) (hS.get 3 rfl) _ af) fun _ w hR a hk hA=>?_
 obtain ⟨di,b5,p,r,he,Y,Z,B⟩:=hR
 obtain rfl:=he.symm
 have hS:=sZ hA Y Z B
 refine ka hS jP fun x f5 a w hk hS=>?_
 refine go hS fun a w hS=>?_
 refine aI (J:=fun a w=>∃ (P:Bool) (S:LI) (E:Value) (z:LV),St W0 No T 100 [(2,pt j 0),(4,pt l 0),(10,pt x 0),(11,.bool P)] [.box j (aO b D F) 31,.box l [.int .i64 0,.slice none 0 0,.slice none 0 0] 31,aP E z,aE p r,.box x (aO o E p) 31] [aJ ac D b.Inputs,aJ aa F b.Records,am ac z S,am aa r o.Records,bu] a w∧eZ b o P S=some y) ?_ ?_
 ·skip
  refine ai hS fun a hS=>?_
  refine wl rfl (Dt hS rfl rU 3 rfl rfl fun O f6 a w hk hS=>?_)
  refine ai hS fun a hS=>?_
  obtain ⟨r1,a4,hMo1⟩:=bd hM
  refine Gh (fun (s:Bool×LI) (k:ae) (v:ByteArray)=>ce b s.1 s.2 k v) (fun s rest a w=>∃ (q:Bool) (f:LI) (U:(Array Nat)) (t:Value) (A:LV),(q,f)=s∧oI m U C=rest∧St W0 No T 100 [(2,pt j 0),(4,pt l 0),(10,pt x 0),(11,.bool q),(41,pt O 0)] [om n m g,.obj O (.mapIter (some n) g U g),.box j (aO b D F) 31,.box l [.int .i64 0,.slice none 0 0,.slice none 0 0] 31,aP t A,aE p r,.box x (aO o t p) 31] [lL m C,tC m g,aJ ac D b.Inputs,aJ aa F b.Records,am ac A f,am aa r o.Records,bu] a w) (zg a4) ⟨false,o.Inputs,(#[]),di,b5,rfl,zj (hS.mapOk 2 rfl).1,(hS.meet [4,0,5,6,2,3,1] (by decide) ⟨rfl,rfl,rfl,rfl,rfl,trivial⟩ ⟨rfl,rfl,rfl,rfl,rfl,rfl,rfl,trivial⟩ ⟨⟨2,rfl⟩,⟨3,rfl⟩,⟨4,rfl⟩,⟨5,rfl⟩,⟨1,rfl⟩,⟨0,rfl⟩,⟨6,rfl⟩,trivial⟩)⟩ ?_
  rintro s rest a w ⟨q,f,U,t,A,rfl,rfl,hS⟩ hrest
  refine ai hS fun a hS=>?_
  refine wl rfl (FX hS rfl rfl 0 rfl 1 rfl (by decide) 0 rfl 1 rfl (fun c1 a hS=>?_) (fun d e et ex N a w hk c2 c3 L hS=>?_))
  ·have hr:=DH c1 hrest
   subst hr
   refine ai hS fun a hS=>?_
   refine aw ?_
   refine ai hS fun a hS=>?_
   have hM:eZ b o q f=some y:=hMo1
   exact ⟨_,_,_,_,hS.mt [2,3,4,5,6] [2,3,4,5,6],hM⟩
  obtain rfl:=c2
  obtain rfl:=c3
  obtain ⟨s1,hM,hrest⟩:=AA L hrest
  have hM:ce b q f d e=some s1:=hM
  unfold ce at hM
  refine ai hS fun a hS=>?_
  refine aw ?_
  refine ai hS fun a hS=>?_
  refine qy hS (DR hS rfl 0 rfl 1 rfl 2 rfl 0 rfl) fun a hS=>?_
  refine ai hS fun a hS=>?_
  refine ka hS gM fun b0 fd a w hk hS=>?_
  refine go hS fun a w hS=>?_
  refine aw ?_
  refine ai hS fun a hS=>?_
  obtain ⟨g3,ao,hM⟩:=bd hM
  refine kc hS uB (cP _ _ hS.dlt (hS.get 7 rfl) b d _ _ (hS.get 3 rfl) (hS.get 4 rfl) _ ao) fun _ w hR a hk hA=>?_
  obtain rfl:=hR
  have hS:=bM hA
  refine ai hS fun a hS=>?_
  rcases cd hM with ⟨c4,hM⟩ | ⟨c4,hM⟩
  ·refine ai hS fun a hS=>?_
   cases hM
   exact ⟨(q,f),_,xu L,hrest,q,f,N,t,A,rfl,rfl,(hS.meet [1,2,3,4,5,6,7] (by decide) ⟨rfl,rfl,rfl,rfl,rfl,trivial⟩ ⟨rfl,rfl,rfl,rfl,rfl,rfl,rfl,trivial⟩ ⟨⟨1,rfl⟩,⟨2,rfl⟩,⟨3,rfl⟩,⟨4,rfl⟩,⟨5,rfl⟩,⟨6,rfl⟩,⟨7,rfl⟩,trivial⟩)⟩
  refine ai hS fun a hS=>?_
  refine qy hS (br (ps:=[(0,.tmp 52),(1,.tmp 53),(2,.tmp 56)]) hS B6 qn rfl (us:=[(aS d),[.string e],[.int .i64 (IntKind.i64.wrap (b.Revision + 1))]]) ⟨rfl,⟨rfl,⟨rfl,trivial⟩⟩⟩ (ws:=[.int .i64 d.Kind,.string d.Text,.string e,.int .i64 (IntKind.i64.wrap (b.Revision + 1))]) rfl) fun a hS=>?_
  refine ka hS qn fun b1 fl a w hk hS=>?_
  refine go hS fun a w hS=>?_
  have hL:=hS
  replace hL:=hL.freeze (R:=ac) 6 rfl 5 rfl
  obtain ⟨u,av,hM⟩:=bd hM
  refine kc hS H8 (fj _ _ hL.dlt (hL.get 8 rfl) 31 H9 [] vW dC (fun T W0 hT hLv _ x0 x1 y hM=>r5 T W0 hT hLv x0 x1 y hM) trivial f d _ (hL.get 0 rfl) _ av) fun _ w hR a hk hA=>?_
  obtain rfl:=hR
  have hS:=bM hA
  refine ai hS fun a hS=>?_
  rcases cd hM with ⟨c5,hM⟩ | ⟨c5,hM⟩
  ·refine ai hS fun a hS=>?_
   obtain ⟨bq,V,hM⟩:=bd hM
   refine wl rfl (dI (R:=ac) hS ro qN rfl rfl 6 rfl 5 rfl V rfl fun el fr fs ey c9 ca cb a hS=>?_)
   obtain rfl:=c9
   refine wl rfl (pu (R:=ac) (k:=0) (cs:=(mC bq)) (us:=[.int .i64 d.Kind,.string d.Text,.string e,.int .i64 (IntKind.i64.wrap (b.Revision + 1))]) (x':=(aG.mk d e (IntKind.i64.wrap (b.Revision + 1)))) hS rfl rfl rfl qN 6 rfl 5 rfl ca cb V rfl rfl rfl rfl fun b6 w hk hS=>?_)
   refine ai hS fun a hS=>?_
   cases hM
   exact ⟨(true,(f.set (Int.toNat u.1) (aG.mk d e (IntKind.i64.wrap (b.Revision + 1))))),_,xu L,hrest,true,(f.set (Int.toNat u.1) (aG.mk d e (IntKind.i64.wrap (b.Revision + 1)))),N,t,b6,rfl,rfl,(hS.meet [2,3,4,5,6,7,8] (by decide) ⟨rfl,rfl,rfl,rfl,rfl,trivial⟩ ⟨rfl,rfl,rfl,rfl,rfl,rfl,rfl,trivial⟩ ⟨⟨2,rfl⟩,⟨3,rfl⟩,⟨4,rfl⟩,⟨5,rfl⟩,⟨0,rfl⟩,⟨7,rfl⟩,⟨8,rfl⟩,trivial⟩)⟩
  refine ai hS fun a hS=>?_
  refine wl rfl (aZ (ps:=[(0,.tmp 74)]) hS vG qn (zl:=[.int .i64 0,.string (ByteArray.mk #[]),.string (ByteArray.mk #[]),.int .i64 0]) (by kernel_rfl) rfl (us:=[[.int .i64 d.Kind,.string d.Text,.string e,.int .i64 (IntKind.i64.wrap (b.Revision + 1))]]) ⟨rfl,trivial⟩ (ws:=[.int .i64 d.Kind,.string d.Text,.string e,.int .i64 (IntKind.i64.wrap (b.Revision + 1))]) rfl rfl rfl rfl fun b2 a w hk hS=>?_)
  obtain ⟨ch,hM⟩:=ba hM
  obtain ⟨ck,hM⟩:=ba hM
  obtain ⟨cl,hM⟩:=ba hM
  replace hS:=hS.re [7,0] [1,2,3,4,5,6,8,9]
  have co:ac.rel (dT T ([aP t A,.box b2 [.int .i64 d.Kind,.string d.Text,.string e,.int .i64 (IntKind.i64.wrap (b.Revision + 1))] 61] ++ [.box b1 [.int .i64 d.Kind,.string d.Text,.string e,.int .i64 (IntKind.i64.wrap (b.Revision + 1))] 61,.box b0 (aS d) 35,om n m g,.obj O (.mapIter (some n) g N g),.box j (aO b D F) 31,.box l [.int .i64 0,.slice none 0 0,.slice none 0 0] 31,aE p r,.box x (aO o t p) 31])) w [.int .i64 d.Kind,.string d.Text,.string e,.int .i64 (IntKind.i64.wrap (b.Revision + 1))] (aG.mk d e (IntKind.i64.wrap (b.Revision + 1))):=rfl
  refine wl rfl (cF hS Ia rfl rfl (y6 (R:=ac) rfl _ _ _ _ _ _ _ _ _ hS.dok (hS.getD 5 rfl) (ac.keep co (Kt.refl _ _) (fun k hk=>.inl ((uI k).1 hk))) ch ck cl) fun dl w hR a hk hA=>?_)
  obtain ⟨b8,d0,d1⟩:=hR
  have hS:=hA _ d1
  replace hS:=hS.fR (d0.keep (Kt.refl _ _) (ap _))
  refine go hS fun a w hS=>?_
  cases hM
  exact ⟨(true,(List.take (Int.toNat u.1) f ++ (aG.mk d e (IntKind.i64.wrap (b.Revision + 1))) :: List.drop (Int.toNat u.1) f)),_,xu L,hrest,true,(List.take (Int.toNat u.1) f ++ (aG.mk d e (IntKind.i64.wrap (b.Revision + 1))) :: List.drop (Int.toNat u.1) f),N,dl,b8,rfl,rfl,(hS.meet [3,4,5,6,0,7,8] (by decide) ⟨rfl,rfl,rfl,rfl,rfl,trivial⟩ ⟨rfl,rfl,rfl,rfl,rfl,rfl,rfl,trivial⟩ ⟨⟨2,rfl⟩,⟨3,rfl⟩,⟨4,rfl⟩,⟨5,rfl⟩,⟨0,rfl⟩,⟨7,rfl⟩,⟨8,rfl⟩,trivial⟩)⟩
 rintro a w ⟨P,S,E,z,hS,hM⟩
 unfold eZ at hM
 refine aw ?_
 refine ai hS fun a hS=>?_
 rcases cd hM with ⟨d2,hM⟩ | ⟨d2,hM⟩
 ·refine go hS fun a w hS=>?_
  cases hM
  refine aF hS Tryz.results13 (a8 hS rfl 1 rfl fG rfl (fun h=>by cases h) (ar hS rfl aH)) ?_
  exact ⟨E,z,p,r,rfl,hS.retOwn ⟨.inr (List.mem_of_getElem? (i:=2) rfl),⟨.inr (List.mem_of_getElem? (i:=3) rfl),trivial⟩⟩ 2 rfl 2 rfl,hS.retOwn ⟨.inr (List.mem_of_getElem? (i:=2) rfl),⟨.inr (List.mem_of_getElem? (i:=3) rfl),trivial⟩⟩ 3 rfl 3 rfl,(hS.apart2 2 rfl 3 rfl (by decide))⟩
 refine ai hS fun a hS=>?_
 rcases cd hM with ⟨d3,hM⟩ | ⟨d3,hM⟩
 ·refine ai hS fun a hS=>?_
  obtain ⟨g1,ag,hM⟩:=bd hM
  refine kc hS CW (ld _ _ hS.dlt b _ _ (hS.get 0 rfl) (hS.get 1 rfl) _ ag) fun _ w hR a hk hA=>?_
  obtain ⟨ds,b9,e0,bb,he,a0,a1,B⟩:=hR
  obtain rfl:=he.symm
  have hS:=sZ hA a0 a1 B
  refine go hS fun a w hS=>?_
  cases hM
  refine aF hS Tryz.results13 (a8 hS rfl 3 rfl fG rfl (fun h=>by cases h) (ar hS rfl aH)) ?_
  exact ⟨ds,b9,e0,bb,rfl,hS.retOwn ⟨.inr (List.mem_of_getElem? (i:=0) rfl),⟨.inr (List.mem_of_getElem? (i:=1) rfl),trivial⟩⟩ 0 rfl 1 rfl,hS.retOwn ⟨.inr (List.mem_of_getElem? (i:=0) rfl),⟨.inr (List.mem_of_getElem? (i:=1) rfl),trivial⟩⟩ 1 rfl 0 rfl,(hS.apart2 0 rfl 1 rfl (by decide))⟩
 refine ai hS fun a hS=>?_
 rcases cd hM with ⟨d4,hM⟩ | ⟨d4,hM⟩
 ·refine ai hS fun a hS=>?_
  obtain ⟨g2,ak,hM⟩:=bd hM
  refine kc hS CW (ld _ _ hS.dlt b _ _ (hS.get 0 rfl) (hS.get 1 rfl) _ ak) fun _ w hR a hk hA=>?_
  obtain ⟨e2,bi,e3,bl,he,a2,a3,B⟩:=hR
  obtain rfl:=he.symm
  have hS:=sZ hA a2 a3 B
  refine go hS fun a w hS=>?_
  cases hM
  refine aF hS Tryz.results13 (a8 hS rfl 3 rfl fG rfl (fun h=>by cases h) (ar hS rfl aH)) ?_
  exact ⟨e2,bi,e3,bl,rfl,hS.retOwn ⟨.inr (List.mem_of_getElem? (i:=0) rfl),⟨.inr (List.mem_of_getElem? (i:=1) rfl),trivial⟩⟩ 0 rfl 1 rfl,hS.retOwn ⟨.inr (List.mem_of_getElem? (i:=0) rfl),⟨.inr (List.mem_of_getElem? (i:=1) rfl),trivial⟩⟩ 1 rfl 0 rfl,(hS.apart2 0 rfl 1 rfl (by decide))⟩
 refine go hS fun a w hS=>?_
 cases hM
 refine aF hS Tryz.results13 (a8 hS rfl 1 rfl fG rfl (fun h=>by cases h) (ar hS rfl aH)) ?_
 exact ⟨E,z,p,r,rfl,hS.retOwn ⟨.inr (List.mem_of_getElem? (i:=2) rfl),⟨.inr (List.mem_of_getElem? (i:=3) rfl),trivial⟩⟩ 2 rfl 2 rfl,hS.retOwn ⟨.inr (List.mem_of_getElem? (i:=2) rfl),⟨.inr (List.mem_of_getElem? (i:=3) rfl),trivial⟩⟩ 3 rfl 3 rfl,(hS.apart2 2 rfl 3 rfl (by decide))⟩
end
end
section
set_option maxRecDepth 100000
set_option maxHeartbeats 4000000
open Go.RowKit
noncomputable section
def l6:Option Bool:=some (true)
def gw (e:LK) (f:LK) (b:Int):Option (Fl (Int) (Fl (Unit) Bool)):=cond (decide ((b:Int) < (e.length:Int))) ((bm e b).bind fun c=>(bm f b).bind fun d=>cond (!((d.Kind:Int) == c.Kind && d.Text.toList == c.Text.toList)) (some (.out (.out false))) (some (.go (IntKind.i64.wrap (b + 1))))) (some (.out (.go ())))
def jp (b:LK) (c:LK):Option Bool:=cond (((b.length:Int):Int) != (c.length:Int)) (some (false)) ((loop (fun s:Int=>gw b c s) 0).bind fun r=>Fl.el r (fun s=>l6) (fun y=>some (y)))
theorem tu (T:Nat→Prop) (W0:World) (hT:TW T W0) (c:LK) (d:LK) (i:Value) (j:Value) (t:aB ad T W0 i c) (u:aB ad T W0 j d) (y:Bool) (hM:jp c d=some y):aY Tryz.prog No 93 [i,j] W0 (fun v w'=>v = .bool y):=by
 refine en Tryz.func93 Tryz.ntmps93 hT fun a hS=>?_
 replace hS:=hS.fS (aB.dn t)
 replace hS:=hS.fS (aB.dn u)
 unfold jp at hM
 refine ai hS fun a hS=>?_
 refine aw ?_
 refine ai hS fun a hS=>?_
 rcases cd hM with ⟨l,hM⟩ | ⟨l,hM⟩
 ·exact fz
 refine ai hS fun a hS=>?_
 refine aI (J:=fun a w=>St W0 No T 26 [] [] [] a w∧l6=some y) ?_ ?_
 ·skip
  refine ai hS fun a hS=>?_
  obtain ⟨F,r,hMo1⟩:=bd hM
  refine bB _ (fun s a w=>∃ (b:Int),b=s∧St W0 No T 26 [(1,j),(12,i),(13,.int .i64 (c.length:Int)),(14,.int .i64 b)] [] [aJ ad j d,aJ ad i c] a w) r ⟨_,rfl,hS.mt [] [0,1]⟩ ?_
  rintro s a w C ⟨b,rfl,hS⟩ hM hf1
  have hM:gw c d b=some C:=hM
  unfold gw at hM
  refine ai hS fun a hS=>?_
  refine aw ?_
  rcases cd hM with ⟨m,hM⟩ | ⟨m,hM⟩
  ·refine ai hS fun a hS=>?_
   refine aw ?_
   refine ai hS fun a hS=>?_
   obtain ⟨e,g,hM⟩:=bd hM
   refine wl rfl (bf (R:=ad) hS nI fY rfl rfl 1 rfl g rfl fun x E A n a hS=>?_)
   obtain rfl:=n
   refine ai hS fun a hS=>?_
   refine ka hS gM fun z D a w hk hS=>?_
   refine go hS fun a w hS=>?_
   refine aw ?_
   refine dr [] hS fun w hQ hS=>?_
   refine gE [0,1] hS fun a hS=>?_
   obtain ⟨f,h,hM⟩:=bd hM
   obtain ⟨k,q,B,o,p,hS⟩:=jS (R:=ad) hS nI fY 1 rfl h
   obtain rfl:=o
   refine dy 2 (v:=pt k q) rfl (by kernel_rfl) (by kernel_rfl) (by kernel_rfl) rfl hQ hS (p rfl rfl) rfl rfl rfl fun a hS=>?_
   refine gE [3,4] hS fun a hS=>?_
   refine dy 5 (v:=.bool (!((f.Kind:Int) == e.Kind && f.Text.toList == e.Text.toList))) rfl (by kernel_rfl) (by kernel_rfl) (by kernel_rfl) rfl hQ hS (wh hS rfl rfl) rfl rfl rfl fun a hS=>?_
   refine eD ?_
   exact fz
  exact fz
 rintro a w ⟨hS,hM⟩
 unfold l6 at hM
 exact fz
def cH (b:Bool):Option Bool:=some (b)
def kH (b:al) (c:al):Option Bool:=cond ((b.Key.Kind:Int) == c.Key.Kind && b.Key.Text.toList == c.Key.Text.toList) (cond (b.Value.toList == c.Value.toList) ((jp b.Reads c.Reads).bind fun d=>cond d (cond ((b.Changed:Int) == c.Changed) (cond ((b.Verified:Int) == c.Verified) (cond ((b.Cost:Int) == c.Cost) (cH (b.Dirty == c.Dirty)) (cH false)) (cH false)) (cH false)) (cH false)) (cH false)) (cH false)
theorem tW (T:Nat→Prop) (W0:World) (hT:TW T W0) (b:al) (c:al) (n:Value) (o:Value) (l:aB ad T W0 n b.Reads) (m:aB ad T W0 o c.Reads) (y:Bool) (hM:kH b c=some y):aY Tryz.prog No 65 [.agg (aX b n).toArray,.agg (aX c o).toArray] W0 (fun v w'=>v = .bool y):=by
 refine en Tryz.func65 Tryz.ntmps65 hT fun a hS=>?_
 replace hS:=hS.fS (aB.dn l)
 replace hS:=hS.fS (aB.dn m)
 unfold kH at hM
 refine ai hS fun a hS=>?_
 refine kb hS fun p r a w hk hS=>?_
 refine kb hS fun q s a w hk hS=>?_
 refine ai hS fun a hS=>?_
 refine aI (J:=fun a w=>∃ (d:Bool),St W0 No T 52 [(4,.bool d)] [] [] a w∧cH d=some y) ?_ ?_
 ·skip
  refine ai hS fun a hS=>?_
  refine wl rfl (ky (v:=.bool ((b.Key.Kind:Int) == c.Key.Kind && b.Key.Text.toList == c.Key.Text.toList)) hS (wW hS rfl rfl) rfl rfl fun a hS=>?_)
  refine ai hS fun a hS=>?_
  rcases cd hM with ⟨h,hM⟩ | ⟨h,hM⟩
  ·refine ai hS fun a hS=>?_
   rcases cd hM with ⟨e,hM⟩ | ⟨e,hM⟩
   ·refine ai hS fun a hS=>?_
    obtain ⟨t,g,hM⟩:=bd hM
    refine wg hS rfl rfl rfl e (a7 hS IF rfl rfl (tu _ _ hS.dlt b.Reads c.Reads _ _ (hS.get 1 rfl) (hS.get 0 rfl) _ g) fun _ w hR a hk hA=>?_)
    obtain rfl:=hR
    have hS:=bM hA
    refine ai hS fun a hS=>?_
    rcases cd hM with ⟨i,hM⟩ | ⟨i,hM⟩
    ·refine ai hS fun a hS=>?_
     rcases cd hM with ⟨j,hM⟩ | ⟨j,hM⟩
     ·refine ai hS fun a hS=>?_
      rcases cd hM with ⟨k,hM⟩ | ⟨k,hM⟩
      ·refine ai hS fun a hS=>?_
       rcases cd hM with ⟨f,hM⟩ | ⟨f,hM⟩
       ·refine ai hS fun a hS=>?_
        refine qg hS f (qQ hS rfl rfl Tryz.underlying4 (.inl ⟨rfl,rfl⟩)) fun a hS=>?_
        exact fz
       exact fz
      exact fz
     exact fz
    exact fz
   exact fz
  exact fz
 rintro a w ⟨d,hS,hM⟩
 unfold cH at hM
 exact fz
def o2:Option Bool:=some (true)
def kI (c:LR) (g:LR) (b:Int):Option (Fl (Int) (Fl (Unit) Bool)):=cond (decide ((b:Int) < (c.length:Int))) ((bm c b).bind fun d=>(bm g b).bind fun e=>(kH d e).bind fun f=>cond (!(f)) (some (.out (.out false))) (some (.go (IntKind.i64.wrap (b + 1))))) (some (.out (.go ())))
def oA (b:LR) (c:LR):Option Bool:=cond (((b.length:Int):Int) != (c.length:Int)) (some (false)) ((loop (fun s:Int=>kI b c s) 0).bind fun r=>Fl.el r (fun s=>o2) (fun y=>some (y)))
theorem xn (T:Nat→Prop) (W0:World) (hT:TW T W0) (c:LR) (d:LR) (j:Value) (k:Value) (z:aB aa T W0 j c) (A:aB aa T W0 k d) (y:Bool) (hM:oA c d=some y):aY Tryz.prog No 34 [j,k] W0 (fun v w'=>v = .bool y):=by
 refine en Tryz.func34 Tryz.ntmps34 hT fun a hS=>?_
 replace hS:=hS.fS (aB.dn z)
 replace hS:=hS.fS (aB.dn A)
 unfold oA at hM
 refine ai hS fun a hS=>?_
 refine aw ?_
 refine ai hS fun a hS=>?_
 rcases cd hM with ⟨o,hM⟩ | ⟨o,hM⟩
 ·exact fz
 refine ai hS fun a hS=>?_
 refine aI (J:=fun a w=>St W0 No T 27 [] [] [] a w∧o2=some y) ?_ ?_
 ·skip
  refine ai hS fun a hS=>?_
  obtain ⟨M,x,hMo1⟩:=bd hM
  refine bB _ (fun s a w=>∃ (b:Int),b=s∧St W0 No T 27 [(1,k),(12,j),(13,.int .i64 (c.length:Int)),(14,.int .i64 b)] [] [aJ aa k d,aJ aa j c] a w) x ⟨_,rfl,hS.mt [] [0,1]⟩ ?_
  rintro s a w F ⟨b,rfl,hS⟩ hM hf1
  have hM:kI c d b=some F:=hM
  unfold kI at hM
  refine ai hS fun a hS=>?_
  refine aw ?_
  rcases cd hM with ⟨p,hM⟩ | ⟨p,hM⟩
  ·refine ai hS fun a hS=>?_
   refine aw ?_
   refine ai hS fun a hS=>?_
   obtain ⟨m,e,hM⟩:=bd hM
   refine wl rfl (bf (R:=aa) hS nH kQ rfl rfl 1 rfl e rfl fun B H D q a hS=>?_)
   obtain ⟨K,rfl,h⟩:=q
   replace hS:=hS.fS h
   refine ai hS fun a hS=>?_
   refine ka hS fJ fun C G a w hk hS=>?_
   refine go hS fun a w hS=>?_
   refine aw ?_
   refine dr [] hS fun w hQ hS=>?_
   refine gE [0,1,2] hS fun a hS=>?_
   obtain ⟨n,f,hM⟩:=bd hM
   obtain ⟨l,u,E,r,t,hS⟩:=jS (R:=aa) hS nH kQ 2 rfl f
   obtain ⟨L,rfl,i⟩:=r
   replace hS:=hS.fS i
   refine dy 3 (v:=pt l u) rfl (by kernel_rfl) (by kernel_rfl) (by kernel_rfl) rfl hQ hS (t rfl rfl) rfl rfl rfl fun a hS=>?_
   refine gE [4] hS fun a hS=>?_
   obtain ⟨I,g,hM⟩:=bd hM
   refine ec 5 hS Is (tW _ _ hS.dlt m n _ _ (hS.get 2 rfl) (hS.get 0 rfl) _ g) fun _ w hR a hk hA=>?_
   obtain rfl:=hR
   have hS:=bM hA
   refine gE [6] hS fun a hS=>?_
   refine eD ?_
   exact fz
  exact fz
 rintro a w ⟨hS,hM⟩
 unfold o2 at hM
 exact fz
def o3:Option Bool:=some (true)
def kJ (e:ah) (f:ah) (d:Int):Option (Fl (Int) (Fl (Unit) Bool)):=cond (decide ((d:Int) < (e.Inputs.length:Int))) ((bm e.Inputs d).bind fun b=>(bm f.Inputs d).bind fun c=>cond (!((c.Key.Kind:Int) == b.Key.Kind && c.Key.Text.toList == b.Key.Text.toList && c.Value.toList == b.Value.toList && (c.Changed:Int) == b.Changed)) (some (.out (.out false))) (some (.go (IntKind.i64.wrap (d + 1))))) (some (.out (.go ())))
def jy (b:ah) (c:ah):Option Bool:=cond ((b.Revision:Int) != c.Revision) (some (false)) (cond (((b.Inputs.length:Int):Int) != (c.Inputs.length:Int)) (some (false)) ((oA b.Records c.Records).bind fun d=>cond (!(d)) (some (false)) ((loop (fun s:Int=>kJ b c s) 0).bind fun r=>Fl.el r (fun s=>o3) (fun y=>some (y)))))
theorem pU (T:Nat→Prop) (W0:World) (hT:TW T W0) (c:ah) (b:ah) (l:Value) (F:Value) (m:Value) (n:Value) (B:aB ac T W0 l c.Inputs) (C:aB aa T W0 F c.Records) (D:aB ac T W0 m b.Inputs) (E:aB aa T W0 n b.Records) (y:Bool) (hM:jy c b=some y):aY Tryz.prog No 14 [.agg (aO c l F).toArray,.agg (aO b m n).toArray] W0 (fun v w'=>v = .bool y):=by
 refine en Tryz.func14 Tryz.ntmps14 hT fun a hS=>?_
 replace hS:=hS.fS (aB.dn B)
 replace hS:=hS.fS (aB.dn C)
 replace hS:=hS.fS (aB.dn D)
 replace hS:=hS.fS (aB.dn E)
 unfold jy at hM
 refine ai hS fun a hS=>?_
 refine kb hS fun G N a w hk hS=>?_
 refine kb hS fun g O a w hk hS=>?_
 refine ai hS fun a hS=>?_
 refine aw ?_
 refine jO ?_
 refine ai hS fun a hS=>?_
 rcases cd hM with ⟨p,hM⟩ | ⟨p,hM⟩
 ·exact fz
 refine ai hS fun a hS=>?_
 rcases cd hM with ⟨h,hM⟩ | ⟨h,hM⟩
 ·exact fz
 refine ai hS fun a hS=>?_
 obtain ⟨S,k,hM⟩:=bd hM
 refine wg hS rfl rfl rfl h (a7 hS Ib rfl rfl (xn _ _ hS.dlt c.Records b.Records _ _ (hS.get 2 rfl) (hS.get 0 rfl) _ k) fun _ w hR a hk hA=>?_)
 obtain rfl:=hR
 have hS:=bM hA
 refine ai hS fun a hS=>?_
 rcases cd hM with ⟨q,hM⟩ | ⟨q,hM⟩
 ·exact fz
 refine ai hS fun a hS=>?_
 refine aI (J:=fun a w=>St W0 No T 45 [] [] [] a w∧o3=some y) ?_ ?_
 ·skip
  refine ai hS fun a hS=>?_
  obtain ⟨U,A,hMo1⟩:=bd hM
  refine bB _ (fun s a w=>∃ (f:Int),f=s∧St W0 No T 45 [(3,pt g 0),(30,l),(31,.int .i64 (c.Inputs.length:Int)),(32,.int .i64 f)] [.box g (aO b m n) 31] [aJ ac l c.Inputs,aJ ac m b.Inputs,aJ aa n b.Records] a w) A ⟨_,rfl,hS.mt [0] [3,1,0]⟩ ?_
  rintro s a w M ⟨f,rfl,hS⟩ hM hf1
  have hM:kJ c b f=some M:=hM
  unfold kJ at hM
  refine ai hS fun a hS=>?_
  refine aw ?_
  rcases cd hM with ⟨r,hM⟩ | ⟨r,hM⟩
  ·refine ai hS fun a hS=>?_
   refine aw ?_
   refine ai hS fun a hS=>?_
   obtain ⟨d,i,hM⟩:=bd hM
   refine wl rfl (bf (R:=ac) hS ro qN rfl rfl 0 rfl i rfl fun H Q K t a hS=>?_)
   obtain rfl:=t
   refine ai hS fun a hS=>?_
   refine ka hS qn fun I P a w hk hS=>?_
   refine go hS fun a w hS=>?_
   refine aw ?_
   refine dr [] hS fun w hQ hS=>?_
   refine gE [0,1,2] hS fun a hS=>?_
   obtain ⟨e,j,hM⟩:=bd hM
   obtain ⟨o,z,L,u,x,hS⟩:=jS (R:=ac) hS ro qN 2 rfl j
   obtain rfl:=u
   refine dy 3 (v:=pt o z) rfl (by kernel_rfl) (by kernel_rfl) (by kernel_rfl) rfl hQ hS (x rfl rfl) rfl rfl rfl fun a hS=>?_
   refine gE [4,5] hS fun a hS=>?_
   refine dy 6 (v:=.bool (!((e.Key.Kind:Int) == d.Key.Kind && e.Key.Text.toList == d.Key.Text.toList && e.Value.toList == d.Value.toList && (e.Changed:Int) == d.Changed))) rfl (by kernel_rfl) (by kernel_rfl) (by kernel_rfl) rfl hQ hS (G9 hS rfl rfl) rfl rfl rfl fun a hS=>?_
   refine eD ?_
   exact fz
  exact fz
 rintro a w ⟨hS,hM⟩
 unfold o3 at hM
 exact fz
def cZ (b:Int):Option ae:=cond (decide ((b:Int) < 0)) (some ((ae.mk 0 (ByteArray.mk #[])))) (cond (decide ((99:Int) < b)) (some ((ae.mk 0 (ByteArray.mk #[])))) ((tN b).bind fun c=>some ((ae.mk 30 c))))
theorem eG (T:Nat→Prop) (W0:World) (hT:TW T W0) (hLv:c6 T W0) (b:Int) (y:ae) (hM:cZ b=some y):aY Tryz.prog No 16 [.int .i64 b] W0 (fun v w'=>v = .agg (aS y).toArray):=by
 refine en Tryz.func16 Tryz.ntmps16 hT fun a hS=>?_
 replace hS:=hS.fact bu (c6.dn hLv)
 unfold cZ at hM
 refine ai hS fun a hS=>?_
 refine ka hS gM fun g h a w hk hS=>?_
 refine ai hS fun a hS=>?_
 refine aw ?_
 refine jO ?_
 refine ai hS fun a hS=>?_
 rcases cd hM with ⟨e,hM⟩ | ⟨e,hM⟩
 ·refine ai hS fun a hS=>?_
  refine qy hS (br (ps:=[]) hS zd gM rfl (us:=[]) trivial (ws:=[.int .i64 0,.string (ByteArray.mk #[])]) rfl) fun a hS=>?_
  refine go hS fun a w hS=>?_
  cases hM
  refine aF hS rfl (rC 0 hS) ?_
  exact rfl
 refine ai hS fun a hS=>?_
 rcases cd hM with ⟨f,hM⟩ | ⟨f,hM⟩
 ·refine ai hS fun a hS=>?_
  refine qy hS (br (ps:=[]) hS zd gM rfl (us:=[]) trivial (ws:=[.int .i64 0,.string (ByteArray.mk #[])]) rfl) fun a hS=>?_
  refine go hS fun a w hS=>?_
  cases hM
  refine aF hS rfl (rC 0 hS) ?_
  exact rfl
 refine ai hS fun a hS=>?_
 obtain ⟨c,d,hM⟩:=bd hM
 refine kc hS CX (ue _ _ hS.dlt (hS.get 0 rfl) b _ d) fun _ w hR a hk hA=>?_
 obtain rfl:=hR
 have hS:=bM hA
 refine qy hS (br (ps:=[(0,.const (.int .i64 30)),(1,.tmp 11)]) hS zd gM rfl (us:=[[.int .i64 30],[.string c]]) ⟨rfl,⟨rfl,trivial⟩⟩ (ws:=[.int .i64 30,.string c]) rfl) fun a hS=>?_
 refine go hS fun a w hS=>?_
 cases hM
 refine aF hS rfl (rC 0 hS) ?_
 exact rfl
def cC (c:ah) (d:ae):Option Int:=(ja c d).bind fun b=>some (b.Changed)
theorem kh (T:Nat→Prop) (W0:World) (hT:TW T W0) (hLv:c6 T W0) (b:ah) (c:ae) (g:Value) (h:Value) (e:aB ac T W0 g b.Inputs) (f:aB aa T W0 h b.Records) (y:Int) (hM:cC b c=some y):aY Tryz.prog No 18 [.agg (aO b g h).toArray,.agg (aS c).toArray] W0 (fun v w'=>v = .int .i64 y):=by
 refine en Tryz.func18 Tryz.ntmps18 hT fun a hS=>?_
 replace hS:=hS.fact bu (c6.dn hLv)
 replace hS:=hS.fS (aB.dn e)
 replace hS:=hS.fS (aB.dn f)
 unfold cC at hM
 refine ai hS fun a hS=>?_
 refine kb hS fun i k a w hk hS=>?_
 refine kb hS fun j l a w hk hS=>?_
 refine ai hS fun a hS=>?_
 obtain ⟨m,d,hM⟩:=bd hM
 refine kc hS GU (qe _ _ hS.dlt (hS.get 2 rfl) b c _ _ (hS.get 1 rfl) (hS.get 0 rfl) _ d) fun _ w hR a hk hA=>?_
 obtain rfl:=hR
 have hS:=bM hA
 refine qy hS (sX hS rfl Tryz.underlying61 rfl rfl wI rfl rfl (fun _=>rfl)) fun a hS=>?_
 exact fz
def dN (b:Bool):Option Bool:=some (b)
def dY:Option Bool:=(cZ 3).bind fun d=>(cc (ah.mk 0 ([]) ([])) ([(aT.mk d (ByteArray.mk #[55]))])).bind fun b=>(cc (ah.mk b.1.Revision b.1.Inputs b.1.Records) ([(aT.mk d (ByteArray.mk #[55]))])).bind fun c=>cond ((b.2:Int) == 0) (cond ((c.2:Int) == 0) (cond ((b.1.Revision:Int) == 1) ((cZ 3).bind fun e=>(bL (ah.mk b.1.Revision b.1.Inputs b.1.Records) e).bind fun f=>cond (f.toList == (ByteArray.mk #[55]).toList) ((cZ 3).bind fun g=>(cC (ah.mk b.1.Revision b.1.Inputs b.1.Records) g).bind fun h=>cond ((h:Int) == 1) ((jy (ah.mk b.1.Revision b.1.Inputs b.1.Records) (ah.mk c.1.Revision c.1.Inputs c.1.Records)).bind fun i=>dN i) (dN false)) (dN false)) (dN false)) (dN false)) (dN false)
theorem ft (T:Nat→Prop) (W0:World) (hT:TW T W0) (hLv:c6 T W0) (y:Bool) (hM:dY=some y):aY Tryz.prog No 8 [] W0 (fun v w'=>v = .bool y):=by
 refine en Tryz.func8 Tryz.ntmps8 hT fun a hS=>?_
 replace hS:=hS.fact bu (c6.dn hLv)
 unfold dY at hM
 refine ai hS fun a hS=>?_
 obtain ⟨b,o,hM⟩:=bd hM
 refine kc hS vD (eG _ _ hS.dlt (hS.get 0 rfl) 3 _ o) fun _ w hR a hk hA=>?_
 obtain rfl:=hR
 have hS:=bM hA
 refine qy hS (br (ps:=[(0,.tmp 6),(1,.const (.string ⟨#[55]⟩))]) hS DE pb rfl (us:=[(aS b),[.string (ByteArray.mk #[55])]]) ⟨rfl,⟨rfl,trivial⟩⟩ (ws:=[.int .i64 b.Kind,.string b.Text,.string (ByteArray.mk #[55])]) rfl) fun a hS=>?_
 refine wl rfl (aZ (ps:=[(0,.tmp 7)]) hS y4 pb (zl:=[.int .i64 0,.string (ByteArray.mk #[]),.string (ByteArray.mk #[])]) (by kernel_rfl) rfl (us:=[[.int .i64 b.Kind,.string b.Text,.string (ByteArray.mk #[55])]]) ⟨rfl,trivial⟩ (ws:=[.int .i64 b.Kind,.string b.Text,.string (ByteArray.mk #[55])]) rfl rfl rfl rfl fun E a w hk hS=>?_)
 refine ai hS fun a hS=>?_
 refine qy hS (br (ps:=[]) hS B5 jP rfl (us:=[]) trivial (ws:=[.int .i64 0,.slice none 0 0,.slice none 0 0]) rfl) fun a hS=>?_
 refine ai hS fun a hS=>?_
 replace hS:=hS.fact (aJ ac (.slice none 0 0) []) (aB.nil_ _ _ _)
 replace hS:=hS.fact (aJ aa (.slice none 0 0) []) (aB.nil_ _ _ _)
 replace hS:=hS.lit (R:=aK) (us:=[.int .i64 b.Kind,.string b.Text,.string (ByteArray.mk #[55])]) (xs:=[(aT.mk b (ByteArray.mk #[55]))]) 0 rfl (by decide) (aD.one_ (R:=aK) (x:=(aT.mk b (ByteArray.mk #[55]))) rfl) rfl rfl
 replace hS:=hS.freeze (R:=aK) 0 rfl 0 rfl
 obtain ⟨c,p,hM⟩:=bd hM
 refine kc hS xO (dD _ _ hS.dlt (hS.get 4 rfl) (ah.mk 0 ([]) ([])) ([(aT.mk b (ByteArray.mk #[55]))]) _ _ _ (hS.get 3 rfl) (hS.get 2 rfl) (hS.get 0 rfl) _ p) fun _ w hR a hk hA=>?_
 obtain ⟨S,H,U,I,he,k,l,j⟩:=hR
 obtain rfl:=he.symm
 have hS:=sZ hA k l j
 refine ai hS fun a hS=>?_
 refine ka hS jP fun F M a w hk hS=>?_
 refine go hS fun a w hS=>?_
 replace hS:=hS.freeze (R:=ac) 1 rfl 1 rfl
 replace hS:=hS.freeze (R:=aa) 1 rfl 1 rfl
 obtain ⟨g,q,hM⟩:=bd hM
 refine kc hS xO (dD _ _ hS.dlt (hS.get 8 rfl) (ah.mk c.1.Revision c.1.Inputs c.1.Records) ([(aT.mk b (ByteArray.mk #[55]))]) _ _ _ (hS.get 1 rfl) (hS.get 0 rfl) (hS.get 4 rfl) _ q) fun _ w hR a hk hA=>?_
 obtain ⟨V,K,W,L,he,m,n,j⟩:=hR
 obtain rfl:=he.symm
 have hS:=sZ hA m n j
 refine ai hS fun a hS=>?_
 refine ka hS jP fun G N a w hk hS=>?_
 refine go hS fun a w hS=>?_
 refine aI (J:=fun a w=>∃ (d:Bool),St W0 No T 49 [(0,.bool d)] [] [bu] a w∧dN d=some y) ?_ ?_
 ·skip
  refine dr [] hS fun w hQ hS=>?_
  refine gE [0,1,2] hS fun a hS=>?_
  rcases cd hM with ⟨A,hM⟩ | ⟨A,hM⟩
  ·refine gE [3,4,5,6] hS fun a hS=>?_
   rcases cd hM with ⟨B,hM⟩ | ⟨B,hM⟩
   ·refine gE [7,8,9,10,11] hS fun a hS=>?_
    rcases cd hM with ⟨e,hM⟩ | ⟨e,hM⟩
    ·refine gE [12] hS fun a hS=>?_
     obtain ⟨C,r,hM⟩:=bd hM
     refine bV (i:=13) rfl (by kernel_rfl) hS rfl rfl rfl e (a7 hS vD rfl rfl (eG _ _ hS.dlt (hS.get 10 rfl) 3 _ r) fun _ w hR a hk hA=>⟨fx (hk),?_⟩)
     obtain rfl:=hR
     have hS:=bM hA
     obtain ⟨O,s,hM⟩:=bd hM
     refine bV (i:=14) rfl (by kernel_rfl) hS rfl rfl rfl e (a7 hS uB rfl rfl (cP _ _ hS.dlt (hS.get 10 rfl) (ah.mk c.1.Revision c.1.Inputs c.1.Records) C _ _ (hS.get 3 rfl) (hS.get 2 rfl) _ s) fun _ w hR a hk hA=>⟨fx (hk),?_⟩)
     obtain rfl:=hR
     have hS:=bM hA
     refine gE [15,16,17] hS fun a hS=>?_
     rcases cd hM with ⟨f,hM⟩ | ⟨f,hM⟩
     ·refine gE [18] hS fun a hS=>?_
      obtain ⟨D,t,hM⟩:=bd hM
      refine bV (i:=19) rfl (by kernel_rfl) hS rfl rfl rfl f (a7 hS vD rfl rfl (eG _ _ hS.dlt (hS.get 10 rfl) 3 _ t) fun _ w hR a hk hA=>⟨fx (hk),?_⟩)
      obtain rfl:=hR
      have hS:=bM hA
      obtain ⟨P,u,hM⟩:=bd hM
      refine bV (i:=20) rfl (by kernel_rfl) hS rfl rfl rfl f (a7 hS CV rfl rfl (kh _ _ hS.dlt (hS.get 10 rfl) (ah.mk c.1.Revision c.1.Inputs c.1.Records) D _ _ (hS.get 3 rfl) (hS.get 2 rfl) _ u) fun _ w hR a hk hA=>⟨fx (hk),?_⟩)
      obtain rfl:=hR
      have hS:=bM hA
      refine gE [21,22,23] hS fun a hS=>?_
      rcases cd hM with ⟨h,hM⟩ | ⟨h,hM⟩
      ·refine gE [24,25] hS fun a hS=>?_
       have hL:=hS
       replace hL:=hL.freeze (R:=ac) 1 rfl 1 rfl
       replace hL:=hL.freeze (R:=aa) 1 rfl 1 rfl
       obtain ⟨Q,z,hM⟩:=bd hM
       refine bV (i:=26) rfl (by kernel_rfl) hS rfl rfl rfl h (a7 hS EK rfl rfl (pU _ _ hL.dlt (ah.mk c.1.Revision c.1.Inputs c.1.Records) (ah.mk g.1.Revision g.1.Inputs g.1.Records) _ _ _ _ (hL.get 5 rfl) (hL.get 4 rfl) (hL.get 1 rfl) (hL.get 0 rfl) _ z) fun _ w hR a hk hA=>⟨fx (hk),?_⟩)
       obtain rfl:=hR
       have hS:=bM hA
       refine gE [27,28] hS fun a hS=>?_
       refine eD ?_
       exact ⟨_,hS.mt [] [10],hM⟩
      refine gE [24,25,26,27,28] hS fun a hS=>?_
      refine eD ?_
      exact ⟨_,hS.mt [] [10],hM⟩
     refine gE [18,19,20,21,22,23,24,25,26,27,28] hS fun a hS=>?_
     refine eD ?_
     exact ⟨_,hS.mt [] [10],hM⟩
    refine gE [12,13,14,15,16,17,18,19,20,21,22,23,24,25,26,27,28] hS fun a hS=>?_
    refine eD ?_
    exact ⟨_,hS.mt [] [10],hM⟩
   refine gE [7,8,9,10,11,12,13,14,15,16,17,18,19,20,21,22,23,24,25,26,27,28] hS fun a hS=>?_
   refine eD ?_
   exact ⟨_,hS.mt [] [10],hM⟩
  refine gE [3,4,5,6,7,8,9,10,11,12,13,14,15,16,17,18,19,20,21,22,23,24,25,26,27,28] hS fun a hS=>?_
  refine eD ?_
  exact ⟨_,hS.mt [] [10],hM⟩
 rintro a w ⟨d,hS,hM⟩
 unfold dN at hM
 exact fz
def n3 (b:LN):Option aQ:=some ((aQ.mk b 0))
theorem oS (T:Nat→Prop) (W0:World) (hT:TW T W0) (d:LN) (b:Value) (g:aB (aR.int .i64) T W0 b d) (y:aQ) (hM:n3 d=some y):aY Tryz.prog No 9 [b] W0 (fun v w'=>∃ (c:Nat) (f:Value),v=pt c 0∧W0.heap.size≤c∧w'.heap[c]? = some (.cells (aU y f).toArray 55 (0,0))∧aB (aR.int .i64) (dT T [.box c (aU y f) 55]) w' f y.L):=by
 refine en Tryz.func9 Tryz.ntmps9 hT fun a hS=>?_
 replace hS:=hS.fS (aB.dn g)
 unfold n3 at hM
 refine ai hS fun a hS=>?_
 refine qy hS (br (ps:=[(0,.tmp 3)]) hS IS I4 rfl (us:=[[b]]) ⟨(lO (aB.one ((hS.get 0 rfl):aB (aR.int .i64) _ _ _ _))),trivial⟩ (ws:=[b,.int .i64 0]) rfl) fun a hS=>?_
 refine kb hS fun e h a w hk hS=>?_
 refine ai hS fun a hS=>?_
 cases hM
 refine aF hS rfl (ar hS rfl aH) ?_
 exact ⟨e,b,rfl,hS.boxNew 0 rfl,hS.boxRow 0 rfl,(aB.up ⟨.inr (List.mem_of_getElem? (i:=0) rfl),trivial⟩ (hS.get 0 rfl))⟩
def ot (c:Int) (b:Int):Option Int:=cond (decide ((b:Int) < 1)) (some (0)) (gd ((b:Int) != 0) <| gd ((b:Int) != 0) <| some (Int.tmod (IntKind.i64.wrap ((Int.tmod c b) + b)) b))
theorem u5 (T:Nat→Prop) (W0:World) (hT:TW T W0) (c:Int) (b:Int) (y:Int) (hM:ot c b=some y):aY Tryz.prog No 20 [.int .i64 c,.int .i64 b] W0 (fun v w'=>v = .int .i64 y):=by
 refine en Tryz.func20 Tryz.ntmps20 hT fun a hS=>?_
 unfold ot at hM
 refine ai hS fun a hS=>?_
 refine aw ?_
 refine ai hS fun a hS=>?_
 rcases cd hM with ⟨d,hM⟩ | ⟨d,hM⟩
 ·exact fz
 refine ai hS fun a hS=>?_
 obtain ⟨e,hM⟩:=ba hM
 refine qy hS (wL hS rfl rfl (bne_iff_ne.1 e)) fun a hS=>?_
 refine ai hS fun a hS=>?_
 obtain ⟨f,hM⟩:=ba hM
 refine qy hS (wL hS rfl rfl (bne_iff_ne.1 f)) fun a hS=>?_
 exact fz
def bI (b:aQ) (e:Int):Option (Int×aQ):=cond (decide (((b.L.length:Int):Int)≤b.At)) (some ((0,b))) ((bm b.L (IntKind.i64.wrap ((IntKind.i64.wrap (b.At + 1)) - 1))).bind fun c=>(ot c e).bind fun d=>some ((d,(aQ.mk b.L (IntKind.i64.wrap (b.At + 1))))))
theorem bg (T:Nat→Prop) (W0:World) (hT:TW T W0) (d:aQ) (e:Int) (f:Value) (b:Nat) (m:W0.heap[b]? = some (.cells (aU d f).toArray 55 (0,0))) (q:¬ T b) (t:aB (aR.int .i64) (dT T [.box b (aU d f) 55]) W0 f d.L) (y:Int×aQ) (hM:bI d e=some y):aY Tryz.prog (fun k=>k=b) 25 [pt b 0,.int .i64 e] W0 (fun v w'=>∃ (s:Value),v = .int .i64 y.1∧w'.heap[b]? = some (.cells (aU y.2 s).toArray 55 (0,0))∧aB (aR.int .i64) (dT T [.box b (aU y.2 s) 55]) w' s y.2.L):=by
 refine pJ (c:=_) Tryz.func25 rfl T 35 Tryz.ntmps25 hT rfl m q fun a hS=>?_
 replace hS:=hS.fS t
 unfold bI at hM
 refine ai hS fun a hS=>?_
 refine aw ?_
 refine aw ?_
 refine dr [] hS fun w hQ hS=>?_
 refine gE [0,1,2,3,4,5,6,7,8,9] hS fun a hS=>?_
 refine eD ?_
 refine ai hS fun a hS=>?_
 rcases cd hM with ⟨n,hM⟩ | ⟨n,hM⟩
 ·refine ai hS fun a hS=>?_
  cases hM
  refine aF hS rfl (ar hS rfl aH) ?_
  exact ⟨f,rfl,hS.boxRow 0 rfl,(aB.up ⟨.inr (List.mem_of_getElem? (i:=0) rfl),trivial⟩ (hS.get 0 rfl))⟩
 refine go hS fun a w hS=>?_
 refine aw ?_
 refine dr [] hS fun w hQ hS=>?_
 refine gE [0,1,2,3,4,5,6,7,8] hS fun a hS=>?_
 obtain ⟨l,g,hM⟩:=bd hM
 obtain ⟨j,r,u,o,p,hS⟩:=jS (R:=(aR.int .i64)) hS AZ wI 0 rfl g
 obtain rfl:=o
 refine dy 9 (v:=pt j r) rfl (by kernel_rfl) (by kernel_rfl) (by kernel_rfl) rfl hQ hS (p rfl rfl) rfl rfl rfl fun a hS=>?_
 refine gE [10,11] hS fun a hS=>?_
 obtain ⟨x,h,hM⟩:=bd hM
 refine ec 12 hS GS (u5 _ _ hS.dlt l e _ h) fun _ w hR a hk hA=>?_
 obtain rfl:=hR
 have hS:=bM hA
 refine gE [13] hS fun a hS=>?_
 refine eD ?_
 refine ai hS fun a hS=>?_
 cases hM
 refine aF hS rfl (ar hS rfl aH) ?_
 exact ⟨f,rfl,hS.boxRow 0 rfl,(aB.up ⟨.inr (List.mem_of_getElem? (i:=0) rfl),trivial⟩ (hS.get 1 rfl))⟩
def po (e:aQ) (c:LY):Option (ByteArray×aQ):=(bI e (c.length:Int)).bind fun b=>(bm c b.1).bind fun d=>some ((d,(aQ.mk b.2.L b.2.At)))
theorem xT (T:Nat→Prop) (W0:World) (hT:TW T W0) (b:aQ) (f:LY) (l:Value) (t:Value) (d:Nat) (q:W0.heap[d]? = some (.cells (aU b l).toArray 55 (0,0))) (n:¬ T d) (r:aB (aR.int .i64) (dT T [.box d (aU b l) 55]) W0 l b.L) (s:aB aR.str (dT T [.box d (aU b l) 55]) W0 t f) (y:ByteArray×aQ) (hM:po b f=some y):aY Tryz.prog (fun k=>k=d) 26 [pt d 0,t] W0 (fun v w'=>∃ (p:Value),v = .string y.1∧w'.heap[d]? = some (.cells (aU y.2 p).toArray 55 (0,0))∧aB (aR.int .i64) (dT T [.box d (aU y.2 p) 55]) w' p y.2.L):=by
 refine pJ (c:=_) Tryz.func26 rfl T 12 Tryz.ntmps26 hT rfl q n fun a hS=>?_
 replace hS:=hS.fS r
 replace hS:=hS.fS s
 unfold po at hM
 refine ai hS fun a hS=>?_
 obtain ⟨o,j,hM⟩:=bd hM
 refine wl rfl (bR hS lJ rfl rfl 0 rfl (bg _ _ (hS.drop 0).dlt b (f.length:Int) _ _ (hS.boxRow 0 rfl) (hS.notin 0 rfl) (aB.lent (i:=0) rfl (hS.get 1 rfl)) _ j) fun _ w hR hk=>?_)
 obtain ⟨g,he,hrow,e⟩:=hR
 obtain rfl:=he.symm
 refine ⟨(aU o.2 g),hrow,fun a hS=>?_⟩
 replace hS:=hS.fS (aB.back (i:=0) rfl e)
 obtain ⟨z,h,hM⟩:=bd hM
 refine wl rfl (bf (R:=aR.str) hS Cq DM rfl rfl 1 rfl h rfl fun u A x m a hS=>?_)
 obtain rfl:=m
 refine ai hS fun a hS=>?_
 cases hM
 refine aF hS rfl (ar hS rfl aH) ?_
 exact ⟨g,rfl,hS.boxRow 0 rfl,(aB.up ⟨.inr (List.mem_of_getElem? (i:=0) rfl),trivial⟩ (hS.get 1 rfl))⟩
def ly (e:aQ):Option (aT×aQ):=(bI e 4).bind fun b=>(cZ b.1).bind fun d=>(po (aQ.mk b.2.L b.2.At) ([(ByteArray.mk #[48]),(ByteArray.mk #[49]),(ByteArray.mk #[50]),(ByteArray.mk #[51]),(ByteArray.mk #[55]),(ByteArray.mk #[49,48,48]),(ByteArray.mk #[]),(ByteArray.mk #[120]),(ByteArray.mk #[49,54]),(ByteArray.mk #[49])])).bind fun c=>some (((aT.mk d c.1),(aQ.mk c.2.L c.2.At)))
theorem rB (T:Nat→Prop) (W0:World) (hT:TW T W0) (d:aQ) (q:Value) (b:Nat) (m:W0.heap[b]? = some (.cells (aU d q).toArray 55 (0,0))) (r:¬ T b) (u:aB (aR.int .i64) (dT T [.box b (aU d q) 55]) W0 q d.L) (hLv:c6 (dT T [.box b (aU d q) 55]) W0) (y:aT×aQ) (hM:ly d=some y):aY Tryz.prog (fun k=>k=b) 11 [pt b 0] W0 (fun v w'=>∃ (t:Value),v = .agg (dG y.1).toArray∧w'.heap[b]? = some (.cells (aU y.2 t).toArray 55 (0,0))∧aB (aR.int .i64) (dT T [.box b (aU y.2 t) 55]) w' t y.2.L):=by
 refine pJ (c:=_) Tryz.func11 rfl T 10 Tryz.ntmps11 hT rfl m r fun a hS=>?_
 replace hS:=hS.fact bu hLv
 replace hS:=hS.fS u
 unfold ly at hM
 refine ai hS fun a hS=>?_
 refine ka hS pb fun z B a w hk hS=>?_
 refine ai hS fun a hS=>?_
 obtain ⟨e,n,hM⟩:=bd hM
 refine wl rfl (bR hS lJ rfl rfl 1 rfl (bg _ _ (hS.drop 1).dlt d 4 _ _ (hS.boxRow 1 rfl) (hS.notin 1 rfl) (aB.lent (i:=1) rfl (hS.get 0 rfl)) _ n) fun _ w hR hk=>?_)
 obtain ⟨s,he,hrow,h⟩:=hR
 obtain rfl:=he.symm
 refine ⟨(aU e.2 s),hrow,fun a hS=>?_⟩
 replace hS:=hS.fS (aB.back (i:=1) rfl h)
 obtain ⟨f,o,hM⟩:=bd hM
 refine kc hS vD (eG _ _ hS.dlt (hS.get 2 rfl) e.1 _ o) fun _ w hR a hk hA=>?_
 obtain rfl:=hR
 have hS:=bM hA
 refine ai hS fun a hS=>?_
 refine wl rfl (aZ (ps:=[(0,.const (.string ⟨#[48]⟩)),(1,.const (.string ⟨#[49]⟩)),(2,.const (.string ⟨#[50]⟩)),(3,.const (.string ⟨#[51]⟩)),(4,.const (.string ⟨#[55]⟩)),(5,.const (.string ⟨#[49,48,48]⟩)),(6,.const (.string ⟨#[]⟩)),(7,.const (.string ⟨#[120]⟩)),(8,.const (.string ⟨#[49,54]⟩)),(9,.const (.string ⟨#[49]⟩))]) hS uM HP (zl:=[.string (ByteArray.mk #[]),.string (ByteArray.mk #[]),.string (ByteArray.mk #[]),.string (ByteArray.mk #[]),.string (ByteArray.mk #[]),.string (ByteArray.mk #[]),.string (ByteArray.mk #[]),.string (ByteArray.mk #[]),.string (ByteArray.mk #[]),.string (ByteArray.mk #[])]) (by kernel_rfl) rfl (us:=[[.string (ByteArray.mk #[48])],[.string (ByteArray.mk #[49])],[.string (ByteArray.mk #[50])],[.string (ByteArray.mk #[51])],[.string (ByteArray.mk #[55])],[.string (ByteArray.mk #[49,48,48])],[.string (ByteArray.mk #[])],[.string (ByteArray.mk #[120])],[.string (ByteArray.mk #[49,54])],[.string (ByteArray.mk #[49])]]) ⟨rfl,⟨rfl,⟨rfl,⟨rfl,⟨rfl,⟨rfl,⟨rfl,⟨rfl,⟨rfl,⟨rfl,trivial⟩⟩⟩⟩⟩⟩⟩⟩⟩⟩ (ws:=[.string (ByteArray.mk #[48]),.string (ByteArray.mk #[49]),.string (ByteArray.mk #[50]),.string (ByteArray.mk #[51]),.string (ByteArray.mk #[55]),.string (ByteArray.mk #[49,48,48]),.string (ByteArray.mk #[]),.string (ByteArray.mk #[120]),.string (ByteArray.mk #[49,54]),.string (ByteArray.mk #[49])]) rfl rfl rfl rfl fun A a w hk hS=>?_)
 replace hS:=hS.lit (R:=aR.str) (us:=[.string (ByteArray.mk #[48]),.string (ByteArray.mk #[49]),.string (ByteArray.mk #[50]),.string (ByteArray.mk #[51]),.string (ByteArray.mk #[55]),.string (ByteArray.mk #[49,48,48]),.string (ByteArray.mk #[]),.string (ByteArray.mk #[120]),.string (ByteArray.mk #[49,54]),.string (ByteArray.mk #[49])]) (xs:=[(ByteArray.mk #[48]),(ByteArray.mk #[49]),(ByteArray.mk #[50]),(ByteArray.mk #[51]),(ByteArray.mk #[55]),(ByteArray.mk #[49,48,48]),(ByteArray.mk #[]),(ByteArray.mk #[120]),(ByteArray.mk #[49,54]),(ByteArray.mk #[49])]) 0 rfl (by decide) ((aD.one_ (R:=aR.str) (x:=(ByteArray.mk #[48])) rfl).append ((aD.one_ (R:=aR.str) (x:=(ByteArray.mk #[49])) rfl).append ((aD.one_ (R:=aR.str) (x:=(ByteArray.mk #[50])) rfl).append ((aD.one_ (R:=aR.str) (x:=(ByteArray.mk #[51])) rfl).append ((aD.one_ (R:=aR.str) (x:=(ByteArray.mk #[55])) rfl).append ((aD.one_ (R:=aR.str) (x:=(ByteArray.mk #[49,48,48])) rfl).append ((aD.one_ (R:=aR.str) (x:=(ByteArray.mk #[])) rfl).append ((aD.one_ (R:=aR.str) (x:=(ByteArray.mk #[120])) rfl).append ((aD.one_ (R:=aR.str) (x:=(ByteArray.mk #[49,54])) rfl).append (aD.one_ (R:=aR.str) (x:=(ByteArray.mk #[49])) rfl)))))))))) rfl rfl
 replace hS:=hS.freeze (R:=aR.str) 0 rfl 0 rfl
 obtain ⟨g,p,hM⟩:=bd hM
 refine wl rfl (bR hS H6 rfl rfl 1 rfl (xT _ _ (hS.drop 1).dlt (aQ.mk e.2.L e.2.At) ([(ByteArray.mk #[48]),(ByteArray.mk #[49]),(ByteArray.mk #[50]),(ByteArray.mk #[51]),(ByteArray.mk #[55]),(ByteArray.mk #[49,48,48]),(ByteArray.mk #[]),(ByteArray.mk #[120]),(ByteArray.mk #[49,54]),(ByteArray.mk #[49])]) _ _ _ (hS.boxRow 1 rfl) (hS.notin 1 rfl) (aB.lent (i:=1) rfl (hS.get 2 rfl)) (aB.lent (i:=1) rfl (hS.get 0 rfl)) _ p) fun _ w hR hk=>?_)
 obtain ⟨l,he,hrow,j⟩:=hR
 obtain rfl:=he.symm
 refine ⟨(aU g.2 l),hrow,fun a hS=>?_⟩
 replace hS:=hS.fS (aB.back (i:=1) rfl j)
 refine qy hS (br (ps:=[(0,.tmp 5),(1,.tmp 8)]) hS DE pb rfl (us:=[(aS f),[.string g.1]]) ⟨rfl,⟨rfl,trivial⟩⟩ (ws:=[.int .i64 f.Kind,.string f.Text,.string g.1]) rfl) fun a hS=>?_
 refine go hS fun a w hS=>?_
 cases hM
 refine aF hS rfl (rC 0 hS) ?_
 exact ⟨l,rfl,hS.boxRow 1 rfl,(aB.up ⟨.inr (List.mem_of_getElem? (i:=1) rfl),trivial⟩ (hS.get 0 rfl))⟩
def kR (d:LC) (b:LN) (c:Int):Option (LC×aQ):=some ((d,(aQ.mk b c)))
def kS (c:LC) (f:Int) (d:LN) (e:Int):Option (Fl (LC×Int×LN×Int) (LC×LN×Int)):=cond (decide ((0:Int) < f)) ((ly (aQ.mk d e)).bind fun b=>gd (bG (c.length + ([(aT.mk (ae.mk b.1.Key.Kind b.1.Key.Text) b.1.Value)]).length)) <| some (.go ((c ++ ([(aT.mk (ae.mk b.1.Key.Kind b.1.Key.Text) b.1.Value)])),IntKind.i64.wrap (f - 1),b.2.L,b.2.At))) (some (.out (c,d,e)))
def gt (d:aQ) (c:Int):Option (LC×aQ):=(bI d (IntKind.i64.wrap (c + 1))).bind fun b=>(loop (fun s:LC×Int×LN×Int=>kS s.1 s.2.1 s.2.2.1 s.2.2.2) (([]:List aT),b.1,b.2.L,b.2.At)).bind fun r=>kR r.1 r.2.1 r.2.2
theorem lX (T:Nat→Prop) (W0:World) (hT:TW T W0) (h:aQ) (m:Int) (E:Value) (d:Nat) (P:W0.heap[d]? = some (.cells (aU h E).toArray 55 (0,0))) (K:¬ T d) (S:aB (aR.int .i64) (dT T [.box d (aU h E) 55]) W0 E h.L) (hLv:c6 (dT T [.box d (aU h E) 55]) W0) (y:LC×aQ) (hM:gt h m=some y):aY Tryz.prog (fun k=>k=d) 15 [pt d 0,.int .i64 m] W0 (fun v w'=>∃ (F:Value) (tH:List Value) (G:Value),v=F∧iy aK T W0 w' [fc F tH,.box d (aU y.2 G) 55] 37 F tH y.1∧w'.heap[d]? = some (.cells (aU y.2 G).toArray 55 (0,0))∧aB (aR.int .i64) (dT T [fc F tH,.box d (aU y.2 G) 55]) w' G y.2.L):=by
 refine pJ (c:=_) Tryz.func15 rfl T 21 Tryz.ntmps15 hT rfl P K fun a hS=>?_
 replace hS:=hS.fact bu hLv
 replace hS:=hS.fS S
 unfold gt at hM
 refine ai hS fun a hS=>?_
 refine aI (J:=fun a w=>∃ (t:LC) (q:LN) (r:Int) (n:Value) (j:LV) (o:Value),St W0 (fun k=>k=d) T 21 [(5,n)] [fc n j,.box d [o,.int .i64 r] 55] [am aK j t,aJ (aR.int .i64) o q,bu] a w∧kR t q r=some y) ?_ ?_
 ·skip
  refine ai hS fun a hS=>?_
  obtain ⟨M,D,hM⟩:=bd hM
  refine wl rfl (bR hS lJ rfl rfl 0 rfl (bg _ _ (hS.drop 0).dlt h (IntKind.i64.wrap (m + 1)) _ _ (hS.boxRow 0 rfl) (hS.notin 0 rfl) (aB.lent (i:=0) rfl (hS.get 0 rfl)) _ D) fun _ w hR hk=>?_)
  obtain ⟨N,he,hrow,A⟩:=hR
  obtain rfl:=he.symm
  refine ⟨(aU M.2 N),hrow,fun a hS=>?_⟩
  replace hS:=hS.fS (aB.back (i:=0) rfl A)
  refine ai hS fun a hS=>?_
  replace hS:=hS.nilRow aK 37 (by decide)
  obtain ⟨Y,Q,hMo1⟩:=bd hM
  refine bB _ (fun s a w=>∃ (g:LC) (l:Int) (e:LN) (f:Int) (u:Value) (p:LV) (z:Value),(g,l,e,f)=s∧St W0 (fun k=>k=d) T 21 [(0,pt d 0),(5,u),(6,.int .i64 l)] [fc u p,.box d [z,.int .i64 f] 55] [am aK p g,aJ (aR.int .i64) z e,bu] a w) Q ⟨_,_,_,_,_,_,_,rfl,hS.mt [0,1] [0,1,3]⟩ ?_
  rintro s a w W ⟨g,l,e,f,u,p,z,rfl,hS⟩ hM hf1
  have hM:kS g l e f=some W:=hM
  unfold kS at hM
  refine aw ?_
  refine ai hS fun a hS=>?_
  rcases cd hM with ⟨H,hM⟩ | ⟨H,hM⟩
  ·refine ai hS fun a hS=>?_
   refine aw ?_
   refine ai hS fun a hS=>?_
   obtain ⟨b,C,hM⟩:=bd hM
   refine wl rfl (bR hS GB rfl rfl 1 rfl (rB _ _ (hS.drop 1).dlt (aQ.mk e f) _ _ (hS.boxRow 1 rfl) (hS.notin 1 rfl) (aB.lent (i:=1) rfl (hS.get 1 rfl)) (bu.keep (hS.get 2 rfl) (Kt.refl _ _) (fun k hk=>.inl ((mz (i:=1) rfl k).1 hk))) _ C) fun _ w hR hk=>?_)
   obtain ⟨O,he,hrow,B⟩:=hR
   obtain rfl:=he.symm
   refine ⟨(aU b.2 O),hrow,fun a hS=>?_⟩
   replace hS:=hS.fS (aB.back (i:=1) rfl B)
   refine wl rfl (aZ (ps:=[(0,.tmp 17)]) hS y4 pb (zl:=[.int .i64 0,.string (ByteArray.mk #[]),.string (ByteArray.mk #[])]) (by kernel_rfl) rfl (us:=[(dG b.1)]) ⟨rfl,trivial⟩ (ws:=(dG b.1)) rfl rfl rfl rfl fun U a w hk hS=>?_)
   replace hS:=hS.lit (R:=aK) (us:=(dG b.1)) (xs:=[(aT.mk (ae.mk b.1.Key.Kind b.1.Key.Text) b.1.Value)]) 0 rfl (by decide) (aD.one_ (R:=aK) (x:=(aT.mk (ae.mk b.1.Key.Kind b.1.Key.Text) b.1.Value)) rfl) rfl rfl
   replace hS:=hS.freeze (R:=aK) 0 rfl 0 rfl
   obtain ⟨I,hM⟩:=ba hM
   refine wl rfl (bC (R:=aK) (xs:=g) (ys:=[(aT.mk (ae.mk b.1.Key.Kind b.1.Key.Text) b.1.Value)]) hS y4 (by decide) (by decide) rfl rfl 0 rfl 3 rfl 0 rfl I rfl fun X V a w hk hS=>?_)
   exact fz
  refine ai hS fun a hS=>?_
  cases hM
  have hr:=hf1 _ rfl
  subst hr
  have hM:kR g e f=some y:=hMo1
  exact ⟨_,_,_,_,_,_,hS.mt [0,1] [0,1,2],hM⟩
 rintro a w ⟨t,q,r,n,j,o,hS,hM⟩
 unfold kR at hM
 refine ai hS fun a hS=>?_
 cases hM
 refine aF hS rfl (ar hS rfl aH) ?_
 exact ⟨n,j,o,rfl,hS.retOwnm ⟨.inr (List.mem_of_getElem? (i:=0) rfl),⟨.inr (List.mem_of_getElem? (i:=1) rfl),trivial⟩⟩ 0 rfl 0 rfl 1 rfl (by decide),hS.boxRow 1 rfl,(aB.up ⟨.inr (List.mem_of_getElem? (i:=0) rfl),⟨.inr (List.mem_of_getElem? (i:=1) rfl),trivial⟩⟩ (hS.get 1 rfl))⟩
def jr (b:Int) (c:Int):Option (Int×Int):=some ((b,c))
def eK (c:LU) (f:Int) (b:Int):Option (Fl (Int) (Int)):=(bm c f).bind fun d=>cond d.Ring (cond (decide ((b:Int) < (c.length:Int))) ((bm c b).bind fun e=>cond e.Ring (some (.go (IntKind.i64.wrap (b + 1)))) (some (.out b))) (some (.out b))) (some (.out b))
def jt (b:LU) (c:Int) (d:Int):Option (Int×Int):=(loop (fun s:Int=>eK b c s) (IntKind.i64.wrap (c + 1))).bind fun r=>jr d r
def eL (c:LU) (f:Int) (b:Int):Option (Fl (Int) (Int)):=(bm c f).bind fun d=>cond d.Ring (cond (decide ((0:Int) < b)) ((bm c (IntKind.i64.wrap (b - 1))).bind fun e=>cond e.Ring (some (.go (IntKind.i64.wrap (b - 1)))) (some (.out b))) (some (.out b))) (some (.out b))
def lB (b:LU) (c:Int):Option (Int×Int):=cond (decide ((c:Int) < 0)) (some ((0,0))) (cond (decide (((b.length:Int):Int)≤c)) (some ((0,0))) ((loop (fun s:Int=>eL b c s) c).bind fun r=>jt b c r))
theorem rF (T:Nat→Prop) (W0:World) (hT:TW T W0) (b:LU) (c:Int) (g:Value) (G:aB aq T W0 g b) (y:Int×Int) (hM:lB b c=some y):aY Tryz.prog No 40 [g,.int .i64 c] W0 (fun v w'=>v = .tuple #[.int .i64 y.1,.int .i64 y.2]):=by
 refine en Tryz.func40 Tryz.ntmps40 hT fun a hS=>?_
 replace hS:=hS.fS (aB.dn G)
 unfold lB at hM
 refine ai hS fun a hS=>?_
 refine aw ?_
 refine jO ?_
 refine ai hS fun a hS=>?_
 rcases cd hM with ⟨x,hM⟩ | ⟨x,hM⟩
 ·refine ai hS fun a hS=>?_
  cases hM
  refine aF hS Tryz.results40 (ar hS rfl (ar hS rfl aH)) ?_
  exact rfl
 refine ai hS fun a hS=>?_
 rcases cd hM with ⟨z,hM⟩ | ⟨z,hM⟩
 ·refine ai hS fun a hS=>?_
  cases hM
  refine aF hS Tryz.results40 (ar hS rfl (ar hS rfl aH)) ?_
  exact rfl
 refine ai hS fun a hS=>?_
 refine aI (J:=fun a w=>∃ (d:Int),St W0 No T 60 [(0,g),(1,.int .i64 c),(6,.int .i64 d),(7,.int .i64 (IntKind.i64.wrap (c + 1)))] [] [aJ aq g b] a w∧jt b c d=some y) ?_ ?_
 ·skip
  refine ai hS fun a hS=>?_
  obtain ⟨r1,k,hMo1⟩:=bd hM
  refine bB _ (fun s a w=>∃ (e:Int),e=s∧St W0 No T 60 [(0,g),(1,.int .i64 c),(6,.int .i64 e),(7,.int .i64 (IntKind.i64.wrap (c + 1)))] [] [aJ aq g b] a w) k ⟨_,rfl,hS.mt [] [0]⟩ ?_
  rintro s a w u ⟨e,rfl,hS⟩ hM hf1
  have hM:eL b c e=some u:=hM
  unfold eL at hM
  refine aw ?_
  refine jO ?_
  refine ai hS fun a hS=>?_
  obtain ⟨U,n,hM⟩:=bd hM
  refine wl rfl (bf (R:=aq) hS tx sU rfl rfl 0 rfl n rfl fun H W M A a hS=>?_)
  obtain ⟨a1,rfl,p⟩:=A
  replace hS:=hS.fS p
  refine ai hS fun a hS=>?_
  rcases cd hM with ⟨B,hM⟩ | ⟨B,hM⟩
  ·refine ai hS fun a hS=>?_
   rcases cd hM with ⟨i,hM⟩ | ⟨i,hM⟩
   ·refine ai hS fun a hS=>?_
    obtain ⟨V,o,hM⟩:=bd hM
    refine wg hS rfl rfl rfl i (bf (R:=aq) hS tx sU rfl rfl 2 rfl o rfl fun I X N C a hS=>?_)
    obtain ⟨a2,rfl,q⟩:=C
    replace hS:=hS.fS q
    exact fz
   exact fz
  exact fz
 rintro a w ⟨d,hS,hM⟩
 unfold jt at hM
 refine aI (J:=fun a w=>∃ (h:Int),St W0 No T 60 [(6,.int .i64 d),(7,.int .i64 h)] [] [] a w∧jr d h=some y) ?_ ?_
 ·skip
  refine ai hS fun a hS=>?_
  obtain ⟨r1,k,hMo1⟩:=bd hM
  refine bB _ (fun s a w=>∃ (f:Int),f=s∧St W0 No T 60 [(0,g),(1,.int .i64 c),(6,.int .i64 d),(7,.int .i64 f)] [] [aJ aq g b] a w) k ⟨_,rfl,hS.mt [] [0]⟩ ?_
  rintro s a w u ⟨f,rfl,hS⟩ hM hf1
  have hM:eK b c f=some u:=hM
  unfold eK at hM
  refine aw ?_
  refine jO ?_
  refine ai hS fun a hS=>?_
  obtain ⟨Q,l,hM⟩:=bd hM
  refine wl rfl (bf (R:=aq) hS tx sU rfl rfl 0 rfl l rfl fun K Y O D a hS=>?_)
  obtain ⟨a3,rfl,r⟩:=D
  replace hS:=hS.fS r
  refine ai hS fun a hS=>?_
  rcases cd hM with ⟨E,hM⟩ | ⟨E,hM⟩
  ·refine ai hS fun a hS=>?_
   rcases cd hM with ⟨j,hM⟩ | ⟨j,hM⟩
   ·refine ai hS fun a hS=>?_
    obtain ⟨S,m,hM⟩:=bd hM
    refine wg hS rfl rfl rfl j (bf (R:=aq) hS tx sU rfl rfl 2 rfl m rfl fun L Z P F a hS=>?_)
    obtain ⟨a4,rfl,t⟩:=F
    replace hS:=hS.fS t
    exact fz
   exact fz
  exact fz
 rintro a w ⟨h,hS,hM⟩
 unfold jr at hM
 refine ai hS fun a hS=>?_
 cases hM
 refine aF hS Tryz.results40 (ar hS rfl (ar hS rfl aH)) ?_
 exact rfl
def kB (d:LU) (b:LN) (c:Int):Option (LU×aQ):=some ((d,(aQ.mk b c)))
def m4 (d:Int) (e:LU) (b:LN) (c:Int):Option (Fl (LU×Int×LN×Int) (LU×LN×Int)):=some (.go (e,IntKind.i64.wrap (d + 1),b,c))
def kC (c:LU) (b:Int) (f:Bool) (g:Int) (h:Int) (d:LN) (e:Int) (i:(List cI)):Option (Fl (LU×Int×LN×Int) (LU×LN×Int)):=(bm c b).bind fun j=>m4 b (c.set (Int.toNat b) (aL.mk f i g h)) d e
def m5 (d:Int) (b:LN) (c:Int) (e:(List cI)):Option (Fl (Int×LN×Int×(List cI)) (LN×Int×(List cI))):=some (.go (IntKind.i64.wrap (d - 1),b,c,e))
def iS (i:Int) (b:(List cI)) (c:Bool) (d:Int) (g:LN) (h:Int) (e:Bool) (f:Int):Option (Fl (Int×LN×Int×(List cI)) (LN×Int×(List cI))):=gd (bG (b.length + ([(cI.mk c e d f)]).length)) <| m5 i g h (b ++ ([(cI.mk c e d f)]))
def gH (e:Int) (f:(List cI)) (g:Bool) (j:Int) (h:Int) (i:Bool) (c:LN) (d:Int):Option (Fl (Int×LN×Int×(List cI)) (LN×Int×(List cI))):=cond i ((bI (aQ.mk c d) j).bind fun b=>iS e f g h b.2.L b.2.At true b.1) (iS e f g h c d false 0)
def iT (j:Bool) (e:Int) (b:(List cI)) (h:Bool) (f:Int) (c:LN) (d:Int) (i:Int):Option (Fl (Int×LN×Int×(List cI)) (LN×Int×(List cI))):=cond (!(j)) (cond (decide ((0:Int) < (b.length:Int))) ((bI (aQ.mk c d) 3).bind fun g=>gH e b h f i ((g.1:Int) == 1) g.2.L g.2.At) (gH e b h f i false c d)) (gH e b h f i false c d)
def iU (g:Bool) (f:Int) (h:(List cI)) (i:Bool) (b:Int) (k:(Int×aQ)) (j:Bool) (d:LN) (e:Int):Option (Fl (Int×LN×Int×(List cI)) (LN×Int×(List cI))):=cond j ((bI (aQ.mk d e) (min b 3)).bind fun c=>iT g f h i b c.2.L c.2.At (IntKind.i64.wrap ((IntKind.i64.wrap (b - 1)) - c.1))) (iT g f h i b d e k.1)
def iV (g:Bool) (f:Int) (h:(List cI)) (i:LN) (j:Int) (e:Bool) (c:Int):Option (Fl (Int×LN×Int×(List cI)) (LN×Int×(List cI))):=(bI (aQ.mk i j) c).bind fun b=>cond (!(e)) ((bI (aQ.mk b.2.L b.2.At) 2).bind fun d=>iU g f h e c b ((d.1:Int) == 0) d.2.L d.2.At) (iU g f h e c b false b.2.L b.2.At)
def gV (h:Int) (f:Bool) (e:Int) (g:(List cI)) (c:LN) (d:Int) (b:Bool):Option (Fl (Int×LN×Int×(List cI)) (LN×Int×(List cI))):=cond b (iV f e g c d b 4) (iV f e g c d b h)
def gY (c:Int) (h:Bool) (d:Int) (f:LN) (g:Int) (e:(List cI)):Option (Fl (Int×LN×Int×(List cI)) (LN×Int×(List cI))):=cond (decide ((0:Int) < d)) ((bI (aQ.mk f g) 3).bind fun b=>cond ((b.1:Int) == 0) (gV c h d e b.2.L b.2.At true) (gV c h d e b.2.L b.2.At ((c:Int) == 0))) (some (.out (f,g,e)))
def gW (h:LU) (g:Int) (d:Int) (c:Bool) (e:LN) (f:Int) (i:Int) (j:Int):Option (Fl (LU×Int×LN×Int) (LU×LN×Int)):=(bI (aQ.mk e f) 4).bind fun b=>(loop (fun s:Int×LN×Int×(List cI)=>gY d c s.1 s.2.1 s.2.2.1 s.2.2.2) (b.1,b.2.L,b.2.At,([]:List cI))).bind fun r=>kC h g c i j r.1 r.2.1 r.2.2
def lY (h:LU) (g:Int) (d:Int) (e:LN) (f:Int) (b:Bool) (j:Int) (k:Int):Option (Fl (LU×Int×LN×Int) (LU×LN×Int)):=cond b ((bI (aQ.mk e f) 6).bind fun c=>(bm ([0,1,2,4,8,16]) c.1).bind fun i=>gW h g d b c.2.L c.2.At 5 i) (gW h g d b e f j k)
def gX (e:LU) (d:Int) (g:LN) (h:Int) (f:Int):Option (Fl (LU×Int×LN×Int) (LU×LN×Int)):=(bm e d).bind fun i=>(bI (aQ.mk g h) 4).bind fun b=>(bI (aQ.mk b.2.L b.2.At) 6).bind fun c=>lY e d f c.2.L c.2.At i.Ring (IntKind.i64.wrap (1 + b.1)) c.1
def gZ (h:LU) (c:LU) (b:Int) (d:LN) (e:Int):Option (Fl (LU×Int×LN×Int) (LU×LN×Int)):=cond (decide ((b:Int) < (h.length:Int))) ((lB c b).bind fun f=>(bm c b).bind fun g=>cond (!(g.Ring)) (gX c b d e f.1) (gX c b d e f.2)) (some (.out (c,d,e)))
def jl (b:LU) (c:LN) (d:Int):Option (LU×aQ):=(loop (fun s:LU×Int×LN×Int=>gZ b s.1 s.2.1 s.2.2.1 s.2.2.2) (b,0,c,d)).bind fun r=>kB r.1 r.2.1 r.2.2
def lZ (c:LU) (f:Int) (d:LN) (e:Int):Option (Fl (LU×Int×LN×Int) (LU×LN×Int)):=cond (decide ((0:Int) < f)) ((bI (aQ.mk d e) 3).bind fun b=>gd (bG (c.length + ([(aL.mk ((b.1:Int) == 1) ([]) 0 0)]).length)) <| some (.go ((c ++ ([(aL.mk ((b.1:Int) == 1) ([]) 0 0)])),IntKind.i64.wrap (f - 1),b.2.L,b.2.At))) (some (.out (c,d,e)))
def ou (c:aQ):Option (LU×aQ):=(bI c 7).bind fun b=>(loop (fun s:LU×Int×LN×Int=>lZ s.1 s.2.1 s.2.2.1 s.2.2.2) (([]:List aL),IntKind.i64.wrap (2 + b.1),b.2.L,b.2.At)).bind fun r=>jl r.1 r.2.1 r.2.2
theorem xi (T:Nat→Prop) (W0:World) (hT:TW T W0) (bi:aQ) (v2:Value) (e:Nat) (kx:W0.heap[e]? = some (.cells (aU bi v2).toArray 55 (0,0))) (hV:¬ T e) (l1:aB (aR.int .i64) (dT T [.box e (aU bi v2) 55]) W0 v2 bi.L) (y:LU×aQ) (hM:ou bi=some y):aY Tryz.prog (fun k=>k=e) 22 [pt e 0] W0 (fun v w'=>∃ (v3:Value) (tH:List Value) (v5:Value),v=v3∧iy aq T W0 w' [bJ v3 tH,.box e (aU y.2 v5) 55] 81 v3 tH y.1∧w'.heap[e]? = some (.cells (aU y.2 v5).toArray 55 (0,0))∧aB (aR.int .i64) (dT T [bJ v3 tH,.box e (aU y.2 v5) 55]) w' v5 y.2.L):=by
 refine pJ (c:=_) Tryz.func22 rfl T 132 Tryz.ntmps22 hT rfl kx hV fun a hS=>?_
 replace hS:=hS.fS l1
 unfold ou at hM
 refine ai hS fun a hS=>?_
 refine aI (J:=fun a w=>∃ (q:LU) (co:LN) (cv:Int) (d:Value) (bq:LV) (dl:Value),St W0 (fun k=>k=e) T 132 [(0,pt e 0),(3,d)] [bJ d bq,.box e [dl,.int .i64 cv] 55] [am aq bq q,aJ (aR.int .i64) dl co] a w∧jl q co cv=some y) ?_ ?_
 ·skip
  refine ai hS fun a hS=>?_
  obtain ⟨i5,h6,hM⟩:=bd hM
  refine wl rfl (bR hS lJ rfl rfl 0 rfl (bg _ _ (hS.drop 0).dlt bi 7 _ _ (hS.boxRow 0 rfl) (hS.notin 0 rfl) (aB.lent (i:=0) rfl (hS.get 0 rfl)) _ h6) fun _ w hR hk=>?_)
  obtain ⟨i9,he,hrow,f5⟩:=hR
  obtain rfl:=he.symm
  refine ⟨(aU i5.2 i9),hrow,fun a hS=>?_⟩
  replace hS:=hS.fS (aB.back (i:=0) rfl f5)
  refine ai hS fun a hS=>?_
  replace hS:=hS.nilRow aq 81 (by decide)
  obtain ⟨r1,g6,hMo1⟩:=bd hM
  refine bB _ (fun s a w=>∃ (Z:LU) (b5:Int) (W:LN) (X:Int) (dn:Value) (bs:LV) (ds:Value),(Z,b5,W,X)=s∧St W0 (fun k=>k=e) T 132 [(0,pt e 0),(3,dn),(4,.int .i64 b5)] [bJ dn bs,.box e [ds,.int .i64 X] 55] [am aq bs Z,aJ (aR.int .i64) ds W] a w) g6 ⟨_,_,_,_,_,_,_,rfl,hS.mt [0,1] [0,1]⟩ ?_
  rintro s a w f1 ⟨Z,b5,W,X,dn,bs,ds,rfl,hS⟩ hM hf1
  have hM:lZ Z b5 W X=some f1:=hM
  unfold lZ at hM
  refine aw ?_
  refine ai hS fun a hS=>?_
  rcases cd hM with ⟨hm,hM⟩ | ⟨hm,hM⟩
  ·refine ai hS fun a hS=>?_
   refine aw ?_
   refine ai hS fun a hS=>?_
   obtain ⟨I,h5,hM⟩:=bd hM
   refine wl rfl (bR hS lJ rfl rfl 1 rfl (bg _ _ (hS.drop 1).dlt (aQ.mk W X) 3 _ _ (hS.boxRow 1 rfl) (hS.notin 1 rfl) (aB.lent (i:=1) rfl (hS.get 1 rfl)) _ h5) fun _ w hR hk=>?_)
   obtain ⟨ib,he,hrow,f6⟩:=hR
   obtain rfl:=he.symm
   refine ⟨(aU I.2 ib),hrow,fun a hS=>?_⟩
   replace hS:=hS.fS (aB.back (i:=1) rfl f6)
   refine ai hS fun a hS=>?_
   refine qy hS (br (ps:=[(0,.tmp 22)]) hS DF tZ rfl (us:=[[.bool ((I.1:Int) == 1)]]) ⟨rfl,trivial⟩ (ws:=[.bool ((I.1:Int) == 1),.slice none 0 0,.int .i64 0,.int .i64 0]) rfl) fun a hS=>?_
   refine wl rfl (aZ (ps:=[(0,.tmp 23)]) hS C5 tZ (zl:=[.bool false,.slice none 0 0,.int .i64 0,.int .i64 0]) (by kernel_rfl) rfl (us:=[[.bool ((I.1:Int) == 1),.slice none 0 0,.int .i64 0,.int .i64 0]]) ⟨rfl,trivial⟩ (ws:=[.bool ((I.1:Int) == 1),.slice none 0 0,.int .i64 0,.int .i64 0]) rfl rfl rfl rfl fun l2 a w hk hS=>?_)
   replace hS:=hS.lit (R:=aq) (us:=[.bool ((I.1:Int) == 1),.slice none 0 0,.int .i64 0,.int .i64 0]) (xs:=[(aL.mk ((I.1:Int) == 1) ([]) 0 0)]) 0 rfl (by decide) (aD.one_ (R:=aq) (x:=(aL.mk ((I.1:Int) == 1) ([]) 0 0)) (⟨_,rfl,aB.nil_ _ _ _⟩)) rfl rfl
   replace hS:=hS.freeze (R:=aq) 0 rfl 0 rfl
   obtain ⟨hn,hM⟩:=ba hM
   refine wl rfl (bC (R:=aq) (xs:=Z) (ys:=[(aL.mk ((I.1:Int) == 1) ([]) 0 0)]) hS C5 (by decide) (by decide) rfl rfl 0 rfl 3 rfl 0 rfl hn rfl fun no lv a w hk hS=>?_)
   exact fz
  refine ai hS fun a hS=>?_
  cases hM
  have hr:=hf1 _ rfl
  subst hr
  have hM:jl Z W X=some y:=hMo1
  exact ⟨_,_,_,_,_,_,hS.mt [0,1] [0,1],hM⟩
 rintro a w ⟨q,co,cv,d,bq,dl,hS,hM⟩
 unfold jl at hM
 refine aI (J:=fun a w=>∃ (d3:LU) (c2:LN) (c3:Int) (ak:LV) (b9:Value),St W0 (fun k=>k=e) T 132 [(3,d)] [bJ d ak,.box e [b9,.int .i64 c3] 55] [am aq ak d3,aJ (aR.int .i64) b9 c2] a w∧kB d3 c2 c3=some y) ?_ ?_
 ·skip
  refine ai hS fun a hS=>?_
  obtain ⟨r1,g6,hMo1⟩:=bd hM
  refine bB _ (fun s a w=>∃ (h:LU) (b:Int) (G:LN) (H:Int) (g:LV) (af:Value),(h,b,G,H)=s∧St W0 (fun k=>k=e) T 132 [(0,pt e 0),(3,d),(27,.int .i64 (q.length:Int)),(28,.int .i64 b)] [bJ d g,.box e [af,.int .i64 H] 55] [am aq g h,aJ (aR.int .i64) af G] a w) g6 ⟨_,_,_,_,_,_,rfl,hS.mt [0,1] [0,1]⟩ ?_
  rintro s a w f1 ⟨h,b,G,H,g,af,rfl,hS⟩ hM hf1
  have hM:gZ q h b G H=some f1:=hM
  unfold gZ at hM
  refine ai hS fun a hS=>?_
  refine aw ?_
  rcases cd hM with ⟨ho,hM⟩ | ⟨ho,hM⟩
  ·refine ai hS fun a hS=>?_
   refine aI (J:=fun a w=>∃ (d4:LU) (c4:LN) (c5:Int) (bt:LV) (e0:Value),St W0 (fun k=>k=e) T 132 [(0,pt e 0),(3,d),(27,.int .i64 (q.length:Int)),(28,.int .i64 b)] [bJ d bt,.box e [e0,.int .i64 c5] 55] [am aq bt d4,aJ (aR.int .i64) e0 c4] a w∧m4 b d4 c4 c5=some f1) ?_ ?_
   ·skip
    refine ai hS fun a hS=>?_
    have hL:=hS
    replace hL:=hL.freeze (R:=aq) 0 rfl 0 rfl
    obtain ⟨nm,h4,hM⟩:=bd hM
    refine kc hS GX (rF _ _ hL.dlt h b _ (hL.get 0 rfl) _ h4) fun _ w hR a hk hA=>?_
    obtain rfl:=hR
    have hS:=bM hA
    refine ai hS fun a hS=>?_
    refine aI (J:=fun a w=>∃ (n:Int),St W0 (fun k=>k=e) T 132 [(0,pt e 0),(3,d),(5,.int .i64 b),(7,.int .i64 n),(27,.int .i64 (q.length:Int)),(28,.int .i64 b)] [bJ d g,.box e [af,.int .i64 H] 55] [am aq g h,aJ (aR.int .i64) af G] a w∧gX h b G H n=some f1) ?_ ?_
    ·skip
     refine ai hS fun a hS=>?_
     obtain ⟨hl,gi,hM⟩:=bd hM
     refine wl rfl (dI (R:=aq) hS tx sU rfl rfl 0 rfl 0 rfl gi rfl fun la n0 n2 lV hp hq hs a hS=>?_)
     obtain ⟨np,rfl,h8⟩:=hp
     replace hS:=hS.fS h8
     refine ai hS fun a hS=>?_
     refine qy hS (cg (k:=0) hS Ge 0 rfl hq hs rfl id (us:=[.bool hl.Ring]) rfl rfl (fun _=>rfl)) fun a hS=>?_
     exact fz
    rintro a w ⟨n,hS,hM⟩
    unfold gX at hM
    refine aI (J:=fun a w=>∃ (a1:LN) (a2:Int) (m:Bool) (dc:Int) (di:Int) (f:Nat) (e2:Value),St W0 (fun k=>k=e) T 132 [(0,pt e 0),(3,d),(5,.int .i64 b),(7,.int .i64 n),(8,pt f 0),(27,.int .i64 (q.length:Int)),(28,.int .i64 b)] [bJ d g,.box e [e2,.int .i64 a2] 55,.box f [.bool m,.slice none 0 0,.int .i64 dc,.int .i64 di] 81] [am aq g h,aJ (aR.int .i64) e2 a1] a w∧lY h b n a1 a2 m dc di=some f1) ?_ ?_
    ·skip
     obtain ⟨N202,g8⟩:∃ N,N=w.heap.size:=⟨_,rfl⟩
     replace hS:=hS.fact (Ak N202) (Nat.le_of_eq g8)
     refine dr [(6,.blk (some e)),(9,.blk (some e)),(12,.new N202)] hS fun w hQ hS=>?_
     refine gE [0,1] hS fun a hS=>?_
     obtain ⟨F,gb,hM⟩:=bd hM
     obtain ⟨hd,hW,nd,m0,ht,d2,hu,hv⟩:=ni (R:=aq) hS tx sU 0 rfl 1 rfl gb
     obtain ⟨of,rfl,h9⟩:=ht
     replace hS:=hS.fS h9
     refine dy 2 (v:=pt hd hW) rfl (by kernel_rfl) (by kernel_rfl) (by kernel_rfl) rfl hQ hS (hv rfl rfl) rfl rfl rfl fun a hS=>?_
     refine gE [3] hS fun a hS=>?_
     refine dy (l:=[.blk (some e),.blk (some e)]) 4 (v:=.bool F.Ring) rfl (by kernel_rfl) (by kernel_rfl) (by kernel_rfl) (by kernel_rfl) hQ hS (cg (k:=0) hS Ge 0 rfl d2 hu rfl (iv hS 0 rfl (sB d2) 1 rfl rfl (by decide) (iv hS 0 rfl (sB d2) 1 rfl rfl (by decide) bE)) (us:=[.bool F.Ring]) rfl rfl (fun _=>rfl)) rfl rfl rfl fun a hS=>?_
     refine gE [5,8] hS fun a hS=>?_
     obtain ⟨t,ez,hM⟩:=bd hM
     refine dU (i:=6) (j:=11) rfl rfl (by kernel_rfl) rfl rfl ?_ ?_
     ·skip
      skip
      refine id (bR hS lJ rfl rfl 1 rfl (bg _ _ (hS.drop 1).dlt (aQ.mk G H) 4 _ _ (hS.boxRow 1 rfl) (hS.notin 1 rfl) (aB.lent (i:=1) rfl (hS.get 3 rfl)) _ ez) fun _ w hR hk=>?_)
      obtain ⟨ii,he,hrow,fd⟩:=hR
      obtain rfl:=he.symm
      refine ⟨(aU t.2 ii),hrow,fun a hS=>⟨kp rfl hk iE,?_⟩⟩
      replace hS:=hS.fS (aB.back (i:=1) rfl fd)
      refine gE [7] hS fun a hS=>?_
      obtain ⟨O,eT,hM⟩:=bd hM
      refine dU (i:=9) (j:=11) rfl rfl (by kernel_rfl) rfl rfl ?_ ?_
      ·skip
       skip
       refine id (bR hS lJ rfl rfl 1 rfl (bg _ _ (hS.drop 1).dlt (aQ.mk t.2.L t.2.At) 6 _ _ (hS.boxRow 1 rfl) (hS.notin 1 rfl) (aB.lent (i:=1) rfl (hS.get 0 rfl)) _ eT) fun _ w hR hk=>?_)
       obtain ⟨it,he,hrow,fl⟩:=hR
       obtain rfl:=he.symm
       refine ⟨(aU O.2 it),hrow,fun a hS=>⟨kp rfl hk iE,?_⟩⟩
       replace hS:=hS.fS (aB.back (i:=1) rfl fl)
       refine dy 10 (v:=.agg #[.bool F.Ring,.slice none 0 0,.int .i64 (IntKind.i64.wrap (1 + t.1)),.int .i64 O.1]) rfl (by kernel_rfl) (by kernel_rfl) (by kernel_rfl) rfl hQ hS (br (ps:=[(0,.tmp 48),(2,.tmp 51),(3,.tmp 53)]) hS DF tZ rfl (us:=[[.bool F.Ring],[.int .i64 (IntKind.i64.wrap (1 + t.1))],[.int .i64 O.1]]) ⟨rfl,⟨rfl,⟨rfl,trivial⟩⟩⟩ (ws:=[.bool F.Ring,.slice none 0 0,.int .i64 (IntKind.i64.wrap (1 + t.1)),.int .i64 O.1]) rfl) rfl rfl rfl fun a hS=>?_
       have hw:=(hS.get 3 rfl:N202≤w.heap.size)
       refine e1 11 (cE hS tZ rfl fun hf hx a w hk hS=>⟨fx (hk),?_⟩)
       refine cN 12 (.blk (some hf)) _ (by kernel_rfl) (my (Nat.le_trans hw hx)) ?_
       refine es 12 hS fun w hS=>?_
       refine eD ?_
       exact ⟨_,_,_,_,_,_,_,hS.mt [1,2,0] [4,0],hM⟩
      skip
      have hy:=(hS.get 2 rfl:N202≤w.heap.size)
      refine id (cE hS tZ rfl fun hg hz a w hk hS=>⟨fx (hk),?_⟩)
      refine cN 12 (.blk (some hg)) _ (by kernel_rfl) (my (Nat.le_trans hy hz)) ?_
      refine e1 9 (bR hS lJ rfl rfl 2 rfl (bg _ _ (hS.drop 2).dlt (aQ.mk t.2.L t.2.At) 6 _ _ (hS.boxRow 2 rfl) (hS.notin 2 rfl) (aB.lent (i:=2) rfl (hS.get 0 rfl)) _ eT) fun _ w hR hk=>?_)
      obtain ⟨e3,he,hrow,a5⟩:=hR
      obtain rfl:=he.symm
      refine ⟨(aU O.2 e3),hrow,fun a hS=>⟨kp rfl hk iE,?_⟩⟩
      replace hS:=hS.fS (aB.back (i:=2) rfl a5)
      refine dy 10 (v:=.agg #[.bool F.Ring,.slice none 0 0,.int .i64 (IntKind.i64.wrap (1 + t.1)),.int .i64 O.1]) rfl (by kernel_rfl) (by kernel_rfl) (by kernel_rfl) rfl hQ hS (br (ps:=[(0,.tmp 48),(2,.tmp 51),(3,.tmp 53)]) hS DF tZ rfl (us:=[[.bool F.Ring],[.int .i64 (IntKind.i64.wrap (1 + t.1))],[.int .i64 O.1]]) ⟨rfl,⟨rfl,⟨rfl,trivial⟩⟩⟩ (ws:=[.bool F.Ring,.slice none 0 0,.int .i64 (IntKind.i64.wrap (1 + t.1)),.int .i64 O.1]) rfl) rfl rfl rfl fun a hS=>?_
      refine es 12 hS fun w hS=>?_
      refine eD ?_
      exact ⟨_,_,_,_,_,_,_,hS.mt [1,2,0] [4,0],hM⟩
     skip
     have hB:=(hS.get 1 rfl:N202≤w.heap.size)
     refine id (cE hS tZ rfl fun hh hC a w hk hS=>⟨fx (hk),?_⟩)
     refine cN 12 (.blk (some hh)) _ (by kernel_rfl) (my (Nat.le_trans hB hC)) ?_
     refine e1 6 (bR hS lJ rfl rfl 2 rfl (bg _ _ (hS.drop 2).dlt (aQ.mk G H) 4 _ _ (hS.boxRow 2 rfl) (hS.notin 2 rfl) (aB.lent (i:=2) rfl (hS.get 3 rfl)) _ ez) fun _ w hR hk=>?_)
     obtain ⟨jb,he,hrow,fn⟩:=hR
     obtain rfl:=he.symm
     refine ⟨(aU t.2 jb),hrow,fun a hS=>⟨kp rfl hk iE,?_⟩⟩
     replace hS:=hS.fS (aB.back (i:=2) rfl fn)
     refine gE [7] hS fun a hS=>?_
     obtain ⟨b8,h7,hM⟩:=bd hM
     refine e1 9 (bR hS lJ rfl rfl 2 rfl (bg _ _ (hS.drop 2).dlt (aQ.mk t.2.L t.2.At) 6 _ _ (hS.boxRow 2 rfl) (hS.notin 2 rfl) (aB.lent (i:=2) rfl (hS.get 0 rfl)) _ h7) fun _ w hR hk=>?_)
     obtain ⟨e3,he,hrow,a5⟩:=hR
     obtain rfl:=he.symm
     refine ⟨(aU b8.2 e3),hrow,fun a hS=>⟨kp rfl hk iE,?_⟩⟩
     replace hS:=hS.fS (aB.back (i:=2) rfl a5)
     refine dy 10 (v:=.agg #[.bool F.Ring,.slice none 0 0,.int .i64 (IntKind.i64.wrap (1 + t.1)),.int .i64 b8.1]) rfl (by kernel_rfl) (by kernel_rfl) (by kernel_rfl) rfl hQ hS (br (ps:=[(0,.tmp 48),(2,.tmp 51),(3,.tmp 53)]) hS DF tZ rfl (us:=[[.bool F.Ring],[.int .i64 (IntKind.i64.wrap (1 + t.1))],[.int .i64 b8.1]]) ⟨rfl,⟨rfl,⟨rfl,trivial⟩⟩⟩ (ws:=[.bool F.Ring,.slice none 0 0,.int .i64 (IntKind.i64.wrap (1 + t.1)),.int .i64 b8.1]) rfl) rfl rfl rfl fun a hS=>?_
     refine es 12 hS fun w hS=>?_
     refine eD ?_
     exact ⟨_,_,_,_,_,_,_,hS.mt [1,2,0] [4,0],hM⟩
    rintro a w ⟨a1,a2,m,dc,di,f,e2,hS,hM⟩
    unfold lY at hM
    refine aI (J:=fun a w=>∃ (b2:LN) (b3:Int) (u:Int) (z:Int) (e4:Value),St W0 (fun k=>k=e) T 132 [(0,pt e 0),(3,d),(5,.int .i64 b),(7,.int .i64 n),(8,pt f 0),(27,.int .i64 (q.length:Int)),(28,.int .i64 b)] [bJ d g,.box e [e4,.int .i64 b3] 55,.box f [.bool m,.slice none 0 0,.int .i64 u,.int .i64 z] 81] [am aq g h,aJ (aR.int .i64) e4 b2] a w∧gW h b n m b2 b3 u z=some f1) ?_ ?_
    ·skip
     refine ai hS fun a hS=>?_
     rcases cd hM with ⟨hD,hM⟩ | ⟨hD,hM⟩
     ·refine ai hS fun a hS=>?_
      refine dr [(2,.blk (some e)),(6,.blk (some f)),(8,.blk (some f))] hS fun w hQ hS=>?_
      refine gE [1,5] hS fun a hS=>?_
      obtain ⟨g7,ey,hM⟩:=bd hM
      refine dU (i:=0) (j:=2) rfl rfl (by kernel_rfl) rfl rfl ?_ ?_
      ·skip
       skip
       refine id (aZ (ps:=[(0,.const (.int .i64 0)),(1,.const (.int .i64 1)),(2,.const (.int .i64 2)),(3,.const (.int .i64 4)),(4,.const (.int .i64 8)),(5,.const (.int .i64 16))]) hS C4 HW (zl:=[.int .i64 0,.int .i64 0,.int .i64 0,.int .i64 0,.int .i64 0,.int .i64 0]) (by kernel_rfl) rfl (us:=[[.int .i64 0],[.int .i64 1],[.int .i64 2],[.int .i64 4],[.int .i64 8],[.int .i64 16]]) ⟨rfl,⟨rfl,⟨rfl,⟨rfl,⟨rfl,⟨rfl,trivial⟩⟩⟩⟩⟩⟩ (ws:=[.int .i64 0,.int .i64 1,.int .i64 2,.int .i64 4,.int .i64 8,.int .i64 16]) rfl rfl rfl rfl fun lb a w hk hS=>⟨fx (hk),?_⟩)
       refine e1 2 (bR hS lJ rfl rfl 2 rfl (bg _ _ (hS.drop 2).dlt (aQ.mk a1 a2) 6 _ _ (hS.boxRow 2 rfl) (hS.notin 2 rfl) (aB.lent (i:=2) rfl (hS.get 1 rfl)) _ ey) fun _ w hR hk=>?_)
       obtain ⟨jc,he,hrow,fr⟩:=hR
       obtain rfl:=he.symm
       refine ⟨(aU g7.2 jc),hrow,fun a hS=>⟨kp rfl hk iE,?_⟩⟩
       replace hS:=hS.fS (aB.back (i:=2) rfl fr)
       replace hS:=hS.lit (R:=(aR.int .i64)) (us:=[.int .i64 0,.int .i64 1,.int .i64 2,.int .i64 4,.int .i64 8,.int .i64 16]) (xs:=[0,1,2,4,8,16]) 0 rfl (by decide) ((aD.one_ (R:=(aR.int .i64)) (x:=0) rfl).append ((aD.one_ (R:=(aR.int .i64)) (x:=1) rfl).append ((aD.one_ (R:=(aR.int .i64)) (x:=2) rfl).append ((aD.one_ (R:=(aR.int .i64)) (x:=4) rfl).append ((aD.one_ (R:=(aR.int .i64)) (x:=8) rfl).append (aD.one_ (R:=(aR.int .i64)) (x:=16) rfl)))))) rfl rfl
       replace hS:=hS.freeze (R:=(aR.int .i64)) 0 rfl 0 rfl
       obtain ⟨Y,P,hM⟩:=bd hM
       obtain ⟨a0,a9,eX,a3,a4,hS⟩:=jS (R:=(aR.int .i64)) hS AZ wI 0 rfl P
       obtain rfl:=a3
       refine dy 3 (v:=pt a0 a9) rfl (by kernel_rfl) (by kernel_rfl) (by kernel_rfl) rfl hQ hS (a4 rfl rfl) rfl rfl rfl fun a hS=>?_
       refine dy (l:=[.blk (some f)]) 4 (v:=.int .i64 Y) rfl (by kernel_rfl) (by kernel_rfl) (by kernel_rfl) (by kernel_rfl) hQ hS (sY (k:=0) hS wI 0 rfl rfl (Eq 2 rfl rfl y5) (us:=[.int .i64 Y]) rfl rfl (fun _=>rfl)) rfl rfl rfl fun a hS=>?_
       refine es 6 hS fun w hS=>?_
       refine gE [7] hS fun a hS=>?_
       refine es 8 hS fun w hS=>?_
       refine eD ?_
       exact ⟨_,_,_,_,_,hS.mt [0,1,2] [4,3],hM⟩
      skip
      refine id (bR hS lJ rfl rfl 1 rfl (bg _ _ (hS.drop 1).dlt (aQ.mk a1 a2) 6 _ _ (hS.boxRow 1 rfl) (hS.notin 1 rfl) (aB.lent (i:=1) rfl (hS.get 1 rfl)) _ ey) fun _ w hR hk=>?_)
      obtain ⟨js,he,hrow,fs⟩:=hR
      obtain rfl:=he.symm
      refine ⟨(aU g7.2 js),hrow,fun a hS=>⟨kp rfl hk iE,?_⟩⟩
      replace hS:=hS.fS (aB.back (i:=1) rfl fs)
      refine dU (i:=0) (j:=6) rfl rfl (by kernel_rfl) rfl rfl ?_ ?_
      ·skip
       skip
       refine id (aZ (ps:=[(0,.const (.int .i64 0)),(1,.const (.int .i64 1)),(2,.const (.int .i64 2)),(3,.const (.int .i64 4)),(4,.const (.int .i64 8)),(5,.const (.int .i64 16))]) hS C4 HW (zl:=[.int .i64 0,.int .i64 0,.int .i64 0,.int .i64 0,.int .i64 0,.int .i64 0]) (by kernel_rfl) rfl (us:=[[.int .i64 0],[.int .i64 1],[.int .i64 2],[.int .i64 4],[.int .i64 8],[.int .i64 16]]) ⟨rfl,⟨rfl,⟨rfl,⟨rfl,⟨rfl,⟨rfl,trivial⟩⟩⟩⟩⟩⟩ (ws:=[.int .i64 0,.int .i64 1,.int .i64 2,.int .i64 4,.int .i64 8,.int .i64 16]) rfl rfl rfl rfl fun hi a w hk hS=>⟨fx (hk),?_⟩)
       replace hS:=hS.lit (R:=(aR.int .i64)) (us:=[.int .i64 0,.int .i64 1,.int .i64 2,.int .i64 4,.int .i64 8,.int .i64 16]) (xs:=[0,1,2,4,8,16]) 0 rfl (by decide) ((aD.one_ (R:=(aR.int .i64)) (x:=0) rfl).append ((aD.one_ (R:=(aR.int .i64)) (x:=1) rfl).append ((aD.one_ (R:=(aR.int .i64)) (x:=2) rfl).append ((aD.one_ (R:=(aR.int .i64)) (x:=4) rfl).append ((aD.one_ (R:=(aR.int .i64)) (x:=8) rfl).append (aD.one_ (R:=(aR.int .i64)) (x:=16) rfl)))))) rfl rfl
       replace hS:=hS.freeze (R:=(aR.int .i64)) 0 rfl 0 rfl
       obtain ⟨Y,P,hM⟩:=bd hM
       obtain ⟨a0,a9,eX,a3,a4,hS⟩:=jS (R:=(aR.int .i64)) hS AZ wI 0 rfl P
       obtain rfl:=a3
       refine dy 3 (v:=pt a0 a9) rfl (by kernel_rfl) (by kernel_rfl) (by kernel_rfl) rfl hQ hS (a4 rfl rfl) rfl rfl rfl fun a hS=>?_
       refine dy (l:=[.blk (some f)]) 4 (v:=.int .i64 Y) rfl (by kernel_rfl) (by kernel_rfl) (by kernel_rfl) (by kernel_rfl) hQ hS (sY (k:=0) hS wI 0 rfl rfl (Eq 2 rfl rfl y5) (us:=[.int .i64 Y]) rfl rfl (fun _=>rfl)) rfl rfl rfl fun a hS=>?_
       refine es 6 hS fun w hS=>?_
       refine gE [7] hS fun a hS=>?_
       refine es 8 hS fun w hS=>?_
       refine eD ?_
       exact ⟨_,_,_,_,_,hS.mt [0,1,2] [4,3],hM⟩
      skip
      refine id (pL hS rfl rfl (us:=[.int .i64 5]) rfl wI 2 rfl rfl rfl (oc rfl on) fun w hk hS=>⟨kp rfl hk iE,?_⟩)
      refine e1 0 (aZ (ps:=[(0,.const (.int .i64 0)),(1,.const (.int .i64 1)),(2,.const (.int .i64 2)),(3,.const (.int .i64 4)),(4,.const (.int .i64 8)),(5,.const (.int .i64 16))]) hS C4 HW (zl:=[.int .i64 0,.int .i64 0,.int .i64 0,.int .i64 0,.int .i64 0,.int .i64 0]) (by kernel_rfl) rfl (us:=[[.int .i64 0],[.int .i64 1],[.int .i64 2],[.int .i64 4],[.int .i64 8],[.int .i64 16]]) ⟨rfl,⟨rfl,⟨rfl,⟨rfl,⟨rfl,⟨rfl,trivial⟩⟩⟩⟩⟩⟩ (ws:=[.int .i64 0,.int .i64 1,.int .i64 2,.int .i64 4,.int .i64 8,.int .i64 16]) rfl rfl rfl rfl fun hi a w hk hS=>⟨fx (hk),?_⟩)
      replace hS:=hS.lit (R:=(aR.int .i64)) (us:=[.int .i64 0,.int .i64 1,.int .i64 2,.int .i64 4,.int .i64 8,.int .i64 16]) (xs:=[0,1,2,4,8,16]) 0 rfl (by decide) ((aD.one_ (R:=(aR.int .i64)) (x:=0) rfl).append ((aD.one_ (R:=(aR.int .i64)) (x:=1) rfl).append ((aD.one_ (R:=(aR.int .i64)) (x:=2) rfl).append ((aD.one_ (R:=(aR.int .i64)) (x:=4) rfl).append ((aD.one_ (R:=(aR.int .i64)) (x:=8) rfl).append (aD.one_ (R:=(aR.int .i64)) (x:=16) rfl)))))) rfl rfl
      replace hS:=hS.freeze (R:=(aR.int .i64)) 0 rfl 0 rfl
      obtain ⟨Y,P,hM⟩:=bd hM
      obtain ⟨a0,a9,eX,a3,a4,hS⟩:=jS (R:=(aR.int .i64)) hS AZ wI 0 rfl P
      obtain rfl:=a3
      refine dy 3 (v:=pt a0 a9) rfl (by kernel_rfl) (by kernel_rfl) (by kernel_rfl) rfl hQ hS (a4 rfl rfl) rfl rfl rfl fun a hS=>?_
      refine gE [4,7] hS fun a hS=>?_
      refine es 8 hS fun w hS=>?_
      refine eD ?_
      exact ⟨_,_,_,_,_,hS.mt [0,1,2] [4,3],hM⟩
     exact fz
    rintro a w ⟨b2,b3,u,z,e4,hS,hM⟩
    unfold gW at hM
    refine aI (J:=fun a w=>∃ (c9:LN) (ca:Int) (b6:(List cI)) (bb:Value) (c0:LV) (e5:Value),St W0 (fun k=>k=e) T 132 [(0,pt e 0),(3,d),(5,.int .i64 b),(8,pt f 0),(27,.int .i64 (q.length:Int)),(28,.int .i64 b)] [bJ d g,.box e [e5,.int .i64 ca] 55,sA bb c0,.box f [.bool m,bb,.int .i64 u,.int .i64 z] 81] [am aq g h,aJ (aR.int .i64) e5 c9,am eb c0 b6] a w∧kC h b m u z c9 ca b6=some f1) ?_ ?_
    ·skip
     refine ai hS fun a hS=>?_
     obtain ⟨i4,h3,hM⟩:=bd hM
     refine wl rfl (bR hS lJ rfl rfl 1 rfl (bg _ _ (hS.drop 1).dlt (aQ.mk b2 b3) 4 _ _ (hS.boxRow 1 rfl) (hS.notin 1 rfl) (aB.lent (i:=1) rfl (hS.get 1 rfl)) _ h3) fun _ w hR hk=>?_)
     obtain ⟨k0,he,hrow,fM⟩:=hR
     obtain rfl:=he.symm
     refine ⟨(aU i4.2 k0),hrow,fun a hS=>?_⟩
     replace hS:=hS.fS (aB.back (i:=1) rfl fM)
     refine ai hS fun a hS=>?_
     replace hS:=hS.nilRow eb 85 (by decide)
     obtain ⟨r2,l0,hMo2⟩:=bd hM
     refine bB _ (fun s a w=>∃ (p:Int) (U:LN) (V:Int) (r:(List cI)) (B:Value) (A:LV) (e8:Value),(p,U,V,r)=s∧St W0 (fun k=>k=e) T 132 [(0,pt e 0),(3,d),(5,.int .i64 b),(7,.int .i64 n),(8,pt f 0),(9,.int .i64 p),(27,.int .i64 (q.length:Int)),(28,.int .i64 b)] [bJ d g,.box e [e8,.int .i64 V] 55,sA B A,.box f [.bool m,B,.int .i64 u,.int .i64 z] 81] [am aq g h,aJ (aR.int .i64) e8 U,am eb A r] a w) l0 ⟨_,_,_,_,_,_,_,rfl,hS.mt [1,2,0,3] [2,1,0]⟩ ?_
     rintro s a w f2 ⟨p,U,V,r,B,A,e8,rfl,hS⟩ hM hf2
     have hM:gY n m p U V r=some f2:=hM
     unfold gY at hM
     refine aw ?_
     refine ai hS fun a hS=>?_
     rcases cd hM with ⟨hE,hM⟩ | ⟨hE,hM⟩
     ·refine ai hS fun a hS=>?_
      refine aI (J:=fun a w=>∃ (cb:LN) (ch:Int) (d6:(List cI)) (ea:Value) (c1:LV) (ed:Value),St W0 (fun k=>k=e) T 132 [(0,pt e 0),(3,d),(5,.int .i64 b),(7,.int .i64 n),(8,pt f 0),(9,.int .i64 p),(27,.int .i64 (q.length:Int)),(28,.int .i64 b)] [bJ d g,.box e [ed,.int .i64 ch] 55,sA ea c1,.box f [.bool m,ea,.int .i64 u,.int .i64 z] 81] [am aq g h,aJ (aR.int .i64) ed cb,am eb c1 d6] a w∧m5 p cb ch d6=some f2) ?_ ?_
      ·skip
       refine ai hS fun a hS=>?_
       refine aI (J:=fun a w=>∃ (Q:LN) (S:Int) (o:Bool) (C:Nat) (ag:Value),St W0 (fun k=>k=e) T 132 [(0,pt e 0),(3,d),(5,.int .i64 b),(7,.int .i64 n),(8,pt f 0),(9,.int .i64 p),(10,pt C 0),(27,.int .i64 (q.length:Int)),(28,.int .i64 b)] [bJ d g,.box e [ag,.int .i64 S] 55,sA B A,.box f [.bool m,B,.int .i64 u,.int .i64 z] 81,.box C [.bool o,.bool false,.int .i64 0,.int .i64 0] 85] [am aq g h,aJ (aR.int .i64) ag Q,am eb A r] a w∧gV n m p r Q S o=some f2) ?_ ?_
       ·skip
        refine ai hS fun a hS=>?_
        obtain ⟨i3,h2,hM⟩:=bd hM
        refine wl rfl (bR hS lJ rfl rfl 1 rfl (bg _ _ (hS.drop 1).dlt (aQ.mk U V) 3 _ _ (hS.boxRow 1 rfl) (hS.notin 1 rfl) (aB.lent (i:=1) rfl (hS.get 1 rfl)) _ h2) fun _ w hR hk=>?_)
        obtain ⟨k1,he,hrow,g0⟩:=hR
        obtain rfl:=he.symm
        refine ⟨(aU i3.2 k1),hrow,fun a hS=>?_⟩
        replace hS:=hS.fS (aB.back (i:=1) rfl g0)
        refine ai hS fun a hS=>?_
        rcases cd hM with ⟨hF,hM⟩ | ⟨hF,hM⟩
        ·refine ai hS fun a hS=>?_
         refine qy hS (br (ps:=[(0,.tmp 76)]) hS Hr zv rfl (us:=[[.bool true]]) ⟨rfl,trivial⟩ (ws:=[.bool true,.bool false,.int .i64 0,.int .i64 0]) rfl) fun a hS=>?_
         refine ka hS zv fun le ms a w hk hS=>?_
         exact fz
        refine ai hS fun a hS=>?_
        refine qy hS (br (ps:=[(0,.tmp 76)]) hS Hr zv rfl (us:=[[.bool ((n:Int) == 0)]]) ⟨rfl,trivial⟩ (ws:=[.bool ((n:Int) == 0),.bool false,.int .i64 0,.int .i64 0]) rfl) fun a hS=>?_
        refine ka hS zv fun ll mv a w hk hS=>?_
        exact fz
       rintro a w ⟨Q,S,o,C,ag,hS,hM⟩
       unfold gV at hM
       refine ai hS fun a hS=>?_
       refine aI (J:=fun a w=>∃ (E:Int),St W0 (fun k=>k=e) T 132 [(0,pt e 0),(3,d),(5,.int .i64 b),(7,.int .i64 n),(8,pt f 0),(9,.int .i64 p),(10,pt C 0),(11,.int .i64 E),(27,.int .i64 (q.length:Int)),(28,.int .i64 b)] [bJ d g,.box e [ag,.int .i64 S] 55,sA B A,.box f [.bool m,B,.int .i64 u,.int .i64 z] 81,.box C [.bool o,.bool false,.int .i64 0,.int .i64 0] 85] [am aq g h,aJ (aR.int .i64) ag Q,am eb A r] a w∧iV m p r Q S o E=some f2) ?_ ?_
       ·exact fz
       rintro a w ⟨E,hS,hM⟩
       unfold iV at hM
       refine ai hS fun a hS=>?_
       obtain ⟨ab,gu,hM⟩:=bd hM
       refine wl rfl (bR hS lJ rfl rfl 1 rfl (bg _ _ (hS.drop 1).dlt (aQ.mk Q S) E _ _ (hS.boxRow 1 rfl) (hS.notin 1 rfl) (aB.lent (i:=1) rfl (hS.get 1 rfl)) _ gu) fun _ w hR hk=>?_)
       obtain ⟨k2,he,hrow,g1⟩:=hR
       obtain rfl:=he.symm
       refine ⟨(aU ab.2 k2),hrow,fun a hS=>?_⟩
       replace hS:=hS.fS (aB.back (i:=1) rfl g1)
       refine go hS fun a w hS=>?_
       refine aI (J:=fun a w=>∃ (ax:LN) (ay:Int) (D:Int) (el:Value),St W0 (fun k=>k=e) T 132 [(0,pt e 0),(3,d),(5,.int .i64 b),(7,.int .i64 n),(8,pt f 0),(9,.int .i64 p),(10,pt C 0),(11,.int .i64 E),(27,.int .i64 (q.length:Int)),(28,.int .i64 b)] [bJ d g,.box e [el,.int .i64 ay] 55,sA B A,.box f [.bool m,B,.int .i64 u,.int .i64 z] 81,.box C [.bool o,.bool false,.int .i64 D,.int .i64 0] 85] [am aq g h,aJ (aR.int .i64) el ax,am eb A r] a w∧iT m p r o E ax ay D=some f2) ?_ ?_
       ·skip
        refine aI (J:=fun a w=>∃ (d1:Bool) (az:LN) (b0:Int) (eq:Value),St W0 (fun k=>k=e) T 132 [(0,pt e 0),(3,d),(5,.int .i64 b),(7,.int .i64 n),(8,pt f 0),(9,.int .i64 p),(10,pt C 0),(11,.int .i64 E),(27,.int .i64 (q.length:Int)),(28,.int .i64 b),(92,.bool d1)] [bJ d g,.box e [eq,.int .i64 b0] 55,sA B A,.box f [.bool m,B,.int .i64 u,.int .i64 z] 81,.box C [.bool o,.bool false,.int .i64 ab.1,.int .i64 0] 85] [am aq g h,aJ (aR.int .i64) eq az,am eb A r] a w∧iU m p r o E ab d1 az b0=some f2) ?_ ?_
        ·skip
         refine ai hS fun a hS=>?_
         rcases cd hM with ⟨f3,hM⟩ | ⟨f3,hM⟩
         ·refine ai hS fun a hS=>?_
          obtain ⟨i2,h1,hM⟩:=bd hM
          refine wg hS rfl rfl rfl f3 (bR hS lJ rfl rfl 1 rfl (bg _ _ (hS.drop 1).dlt (aQ.mk ab.2.L ab.2.At) 2 _ _ (hS.boxRow 1 rfl) (hS.notin 1 rfl) (aB.lent (i:=1) rfl (hS.get 0 rfl)) _ h1) fun _ w hR hk=>?_)
          obtain ⟨k3,he,hrow,g2⟩:=hR
          obtain rfl:=he.symm
          refine ⟨(aU i2.2 k3),hrow,fun a hS=>?_⟩
          replace hS:=hS.fS (aB.back (i:=1) rfl g2)
          exact fz
         exact fz
        rintro a w ⟨d1,az,b0,eq,hS,hM⟩
        unfold iU at hM
        rcases cd hM with ⟨hG,hM⟩ | ⟨hG,hM⟩
        ·refine ai hS fun a hS=>?_
         refine qy hS (EB hS rfl rfl) fun a hS=>?_
         obtain ⟨i0,h0,hM⟩:=bd hM
         refine wl rfl (bR hS lJ rfl rfl 1 rfl (bg _ _ (hS.drop 1).dlt (aQ.mk az b0) (min E 3) _ _ (hS.boxRow 1 rfl) (hS.notin 1 rfl) (aB.lent (i:=1) rfl (hS.get 1 rfl)) _ h0) fun _ w hR hk=>?_)
         obtain ⟨k4,he,hrow,g3⟩:=hR
         obtain rfl:=he.symm
         refine ⟨(aU i0.2 k4),hrow,fun a hS=>?_⟩
         replace hS:=hS.fS (aB.back (i:=1) rfl g3)
         exact fz
        exact fz
       rintro a w ⟨ax,ay,D,el,hS,hM⟩
       unfold iT at hM
       refine aI (J:=fun a w=>∃ (ck:LN) (cl:Int) (K:Bool) (M:Int) (er:Value),St W0 (fun k=>k=e) T 132 [(0,pt e 0),(3,d),(5,.int .i64 b),(7,.int .i64 n),(8,pt f 0),(9,.int .i64 p),(10,pt C 0),(27,.int .i64 (q.length:Int)),(28,.int .i64 b)] [bJ d g,.box e [er,.int .i64 cl] 55,sA B A,.box f [.bool m,B,.int .i64 u,.int .i64 z] 81,.box C [.bool o,.bool K,.int .i64 D,.int .i64 M] 85] [am aq g h,aJ (aR.int .i64) er ck,am eb A r] a w∧iS p r o D ck cl K M=some f2) ?_ ?_
       ·skip
        refine aI (J:=fun a w=>∃ (d0:Bool) (ao:LN) (av:Int) (et:Value),St W0 (fun k=>k=e) T 132 [(0,pt e 0),(3,d),(5,.int .i64 b),(7,.int .i64 n),(8,pt f 0),(9,.int .i64 p),(10,pt C 0),(11,.int .i64 E),(27,.int .i64 (q.length:Int)),(28,.int .i64 b),(114,.bool d0)] [bJ d g,.box e [et,.int .i64 av] 55,sA B A,.box f [.bool m,B,.int .i64 u,.int .i64 z] 81,.box C [.bool o,.bool false,.int .i64 D,.int .i64 0] 85] [am aq g h,aJ (aR.int .i64) et ao,am eb A r] a w∧gH p r o E D d0 ao av=some f2) ?_ ?_
        ·skip
         refine ai hS fun a hS=>?_
         rcases cd hM with ⟨hH,hM⟩ | ⟨hH,hM⟩
         ·refine ai hS fun a hS=>?_
          rcases cd hM with ⟨f4,hM⟩ | ⟨f4,hM⟩
          ·refine ai hS fun a hS=>?_
           obtain ⟨hY,gs,hM⟩:=bd hM
           refine wg hS rfl rfl rfl f4 (bR hS lJ rfl rfl 1 rfl (bg _ _ (hS.drop 1).dlt (aQ.mk ax ay) 3 _ _ (hS.boxRow 1 rfl) (hS.notin 1 rfl) (aB.lent (i:=1) rfl (hS.get 1 rfl)) _ gs) fun _ w hR hk=>?_)
           obtain ⟨ks,he,hrow,g4⟩:=hR
           obtain rfl:=he.symm
           refine ⟨(aU hY.2 ks),hrow,fun a hS=>?_⟩
           replace hS:=hS.fS (aB.back (i:=1) rfl g4)
           exact fz
          exact fz
         exact fz
        rintro a w ⟨d0,ao,av,et,hS,hM⟩
        unfold gH at hM
        rcases cd hM with ⟨hI,hM⟩ | ⟨hI,hM⟩
        ·refine ai hS fun a hS=>?_
         obtain ⟨hX,gp,hM⟩:=bd hM
         refine wl rfl (bR hS lJ rfl rfl 1 rfl (bg _ _ (hS.drop 1).dlt (aQ.mk ao av) E _ _ (hS.boxRow 1 rfl) (hS.notin 1 rfl) (aB.lent (i:=1) rfl (hS.get 1 rfl)) _ gp) fun _ w hR hk=>?_)
         obtain ⟨kt,he,hrow,g5⟩:=hR
         obtain rfl:=he.symm
         refine ⟨(aU hX.2 kt),hrow,fun a hS=>?_⟩
         replace hS:=hS.fS (aB.back (i:=1) rfl g5)
         exact fz
        exact fz
       rintro a w ⟨ck,cl,K,M,er,hS,hM⟩
       unfold iS at hM
       refine ai hS fun a hS=>?_
       refine wl rfl (aZ (ps:=[(0,.tmp 122)]) hS EX zv (zl:=[.bool false,.bool false,.int .i64 0,.int .i64 0]) (by kernel_rfl) rfl (us:=[[.bool o,.bool K,.int .i64 D,.int .i64 M]]) ⟨rfl,trivial⟩ (ws:=[.bool o,.bool K,.int .i64 D,.int .i64 M]) rfl rfl rfl rfl fun ls a w hk hS=>?_)
       replace hS:=hS.lit (R:=eb) (us:=[.bool o,.bool K,.int .i64 D,.int .i64 M]) (xs:=[(cI.mk o K D M)]) 0 rfl (by decide) (aD.one_ (R:=eb) (x:=(cI.mk o K D M)) rfl) rfl rfl
       replace hS:=hS.freeze (R:=eb) 0 rfl 0 rfl
       obtain ⟨hK,hM⟩:=ba hM
       refine wl rfl (bC (R:=eb) (xs:=r) (ys:=[(cI.mk o K D M)]) hS EX (by decide) (by decide) rfl rfl 2 rfl 4 rfl 0 rfl hK rfl fun oi m1 a w hk hS=>?_)
       exact fz
      rintro a w ⟨cb,ch,d6,ea,c1,ed,hS,hM⟩
      unfold m5 at hM
      exact fz
     refine ai hS fun a hS=>?_
     cases hM
     have hr:=hf2 _ rfl
     subst hr
     have hM:kC h b m u z U V r=some f1:=hMo2
     exact ⟨_,_,_,_,_,_,hS.mt [0,1,2,3] [0,1,2],hM⟩
    rintro a w ⟨c9,ca,b6,bb,c0,e5,hS,hM⟩
    unfold kC at hM
    refine ai hS fun a hS=>?_
    obtain ⟨hj,ex,hM⟩:=bd hM
    refine wl rfl (dI (R:=aq) hS tx sU rfl rfl 0 rfl 0 rfl ex rfl fun lt n1 ng m2 hN hO hP a hS=>?_)
    obtain ⟨kv,rfl,ha⟩:=hN
    replace hS:=hS.fS ha
    replace hS:=hS.freeze (R:=eb) 2 rfl 3 rfl
    refine wl rfl (pu (R:=aq) (k:=0) (cs:=(ru hj kv)) (us:=[.bool m,bb,.int .i64 u,.int .i64 z]) (x':=(aL.mk m b6 u z)) hS rfl rfl rfl sU 0 rfl 2 rfl hO hP ex (⟨_,rfl,(hS.get 1 rfl)⟩) rfl rfl (⟨_,rfl,(hS.get 0 rfl)⟩) fun md w hk hS=>?_)
    exact fz
   rintro a w ⟨d4,c4,c5,bt,e0,hS,hM⟩
   unfold m4 at hM
   exact fz
  refine ai hS fun a hS=>?_
  cases hM
  have hr:=hf1 _ rfl
  subst hr
  have hM:kB h G H=some y:=hMo1
  exact ⟨_,_,_,_,_,hS.mt [0,1] [0,1],hM⟩
 rintro a w ⟨d3,c2,c3,ak,b9,hS,hM⟩
 unfold kB at hM
 refine ai hS fun a hS=>?_
 cases hM
 refine aF hS rfl (ar hS rfl aH) ?_
 exact ⟨d,ak,b9,rfl,hS.retOwnm ⟨.inr (List.mem_of_getElem? (i:=0) rfl),⟨.inr (List.mem_of_getElem? (i:=1) rfl),trivial⟩⟩ 0 rfl 0 rfl 1 rfl (by decide),hS.boxRow 1 rfl,(aB.up ⟨.inr (List.mem_of_getElem? (i:=0) rfl),⟨.inr (List.mem_of_getElem? (i:=1) rfl),trivial⟩⟩ (hS.get 1 rfl))⟩
end
end
section
set_option maxRecDepth 100000
set_option maxHeartbeats 4000000
open Go.RowKit
noncomputable section
def fu (b:al):Option al:=gd (bG (([]:List ae).length + b.Reads.length)) <| some ((al.mk b.Key b.Value (([]:List ae) ++ b.Reads) b.Changed b.Verified b.Cost b.Dirty))
theorem kV (T:Nat→Prop) (W0:World) (hT:TW T W0) (b:al) (h:Value) (g:aB ad T W0 h b.Reads) (y:al) (hM:fu b=some y):aY Tryz.prog No 101 [.agg (aX b h).toArray] W0 (fun v w'=>∃ (f:Value) (oW:List Value),v = .agg (aX y f).toArray∧iy ad T W0 w' [au f oW] 35 f oW y.Reads):=by
 refine en Tryz.func101 Tryz.ntmps101 hT fun a hS=>?_
 replace hS:=hS.fS (aB.dn g)
 unfold fu at hM
 refine ai hS fun a hS=>?_
 refine kb hS fun j l a w hk hS=>?_
 refine ka hS fJ fun k m a w hk hS=>?_
 refine ai hS fun a hS=>?_
 replace hS:=hS.nilRow ad 35 (by decide)
 obtain ⟨d,hM⟩:=ba hM
 refine wl rfl (bC (R:=ad) (xs:=([]:List ae)) (ys:=b.Reads) hS iq (by decide) (by decide) rfl rfl 0 rfl 0 rfl 1 rfl d rfl fun e c a w hk hS=>?_)
 refine go hS fun a w hS=>?_
 cases hM
 refine aF hS rfl (rC 1 hS) ?_
 exact ⟨e,c,rfl,hS.retOwn ⟨.inr (List.mem_of_getElem? (i:=0) rfl),trivial⟩ 0 rfl 0 rfl⟩
def m6 (b:LR):Option LR:=some (b)
def kE (e:LR) (c:LR) (b:Int):Option (Fl (LR×Int) (LR)):=cond (decide ((b:Int) < (e.length:Int))) ((bm e b).bind fun f=>(fu f).bind fun d=>gd (bG (c.length + ([d]).length)) <| some (.go ((c ++ ([d])),IntKind.i64.wrap (b + 1)))) (some (.out c))
def oz (b:LR):Option LR:=(loop (fun s:LR×Int=>kE b s.1 s.2) (([]:List al),0)).bind fun r=>m6 r
theorem xm (T:Nat→Prop) (W0:World) (hT:TW T W0) (g:LR) (r:Value) (C:aB aa T W0 r g) (y:LR) (hM:oz g=some y):aY Tryz.prog No 71 [r] W0 (fun v w'=>∃ (k:Value) (oW:List Value),v=k∧iy aa T W0 w' [aE k oW] 77 k oW y):=by
 refine en Tryz.func71 Tryz.ntmps71 hT fun a hS=>?_
 replace hS:=hS.fS (aB.dn C)
 unfold oz at hM
 refine ai hS fun a hS=>?_
 refine aI (J:=fun a w=>∃ (j:LR) (f:Value) (d:LV),St W0 No T 19 [(3,f)] [aE f d] [am aa d j] a w∧m6 j=some y) ?_ ?_
 ·skip
  refine ai hS fun a hS=>?_
  replace hS:=hS.nilRow aa 77 (by decide)
  obtain ⟨P,B,hMo1⟩:=bd hM
  refine bB _ (fun s a w=>∃ (c:LR) (e:Int) (l:Value) (h:LV),(c,e)=s∧St W0 No T 19 [(3,l),(6,r),(7,.int .i64 (g.length:Int)),(8,.int .i64 e)] [aE l h] [am aa h c,aJ aa r g] a w) B ⟨_,_,_,_,rfl,hS.mt [0] [0,1]⟩ ?_
  rintro s a w K ⟨c,e,l,h,rfl,hS⟩ hM hf1
  have hM:kE g c e=some K:=hM
  unfold kE at hM
  refine ai hS fun a hS=>?_
  refine aw ?_
  rcases cd hM with ⟨u,hM⟩ | ⟨u,hM⟩
  ·refine ai hS fun a hS=>?_
   refine aw ?_
   refine ai hS fun a hS=>?_
   obtain ⟨t,o,hM⟩:=bd hM
   refine wl rfl (bf (R:=aa) hS nH kQ rfl rfl 1 rfl o rfl fun D M G z a hS=>?_)
   obtain ⟨N,rfl,q⟩:=z
   replace hS:=hS.fS q
   refine ai hS fun a hS=>?_
   refine ka hS fJ fun E L a w hk hS=>?_
   refine go hS fun a w hS=>?_
   obtain ⟨b,p,hM⟩:=bd hM
   refine kc hS zE (kV _ _ hS.dlt t _ (hS.get 0 rfl) _ p) fun _ w hR a hk hA=>?_
   obtain ⟨m,H,he,n⟩:=hR
   obtain rfl:=he.symm
   have hS:=pd hA n
   refine wl rfl (aZ (ps:=[(0,.tmp 14)]) hS pp fJ (zl:=[.int .i64 0,.string (ByteArray.mk #[]),.string (ByteArray.mk #[]),.slice none 0 0,.int .i64 0,.int .i64 0,.int .i64 0,.bool false]) (by kernel_rfl) rfl (us:=[(aX b m)]) ⟨rfl,trivial⟩ (ws:=(aX b m)) rfl rfl rfl rfl fun F a w hk hS=>?_)
   replace hS:=hS.freeze (R:=ad) 1 rfl 0 rfl
   replace hS:=hS.lit (R:=aa) (us:=(aX b m)) (xs:=[b]) 0 rfl (by decide) (aD.one_ (R:=aa) (x:=b) (⟨_,rfl,(hS.get 0 rfl)⟩)) rfl rfl
   replace hS:=hS.freeze (R:=aa) 0 rfl 0 rfl
   obtain ⟨A,hM⟩:=ba hM
   refine wl rfl (bC (R:=aa) (xs:=c) (ys:=[b]) hS pp (by decide) (by decide) rfl rfl 1 rfl 6 rfl 0 rfl A rfl fun O I a w hk hS=>?_)
   exact fz
  exact fz
 rintro a w ⟨j,f,d,hS,hM⟩
 unfold m6 at hM
 refine ai hS fun a hS=>?_
 cases hM
 refine aF hS rfl (ar hS rfl aH) ?_
 exact ⟨f,d,rfl,hS.retOwn ⟨.inr (List.mem_of_getElem? (i:=0) rfl),trivial⟩ 0 rfl 0 rfl⟩
def ew (b:ah):Option ah:=gd (bG (([]:List aG).length + b.Inputs.length)) <| (oz b.Records).bind fun c=>some ((ah.mk b.Revision (([]:List aG) ++ b.Inputs) c))
theorem dQ (T:Nat→Prop) (W0:World) (hT:TW T W0) (b:ah) (p:Value) (q:Value) (n:aB ac T W0 p b.Inputs) (o:aB aa T W0 q b.Records) (y:ah) (hM:ew b=some y):aY Tryz.prog No 41 [.agg (aO b p q).toArray] W0 (fun v w'=>∃ (d:Value) (tH:List Value) (e:Value) (xD:List Value),v = .agg (aO y d e).toArray∧iy ac T W0 w' [aP d tH,aE e xD] 61 d tH y.Inputs∧iy aa T W0 w' [aP d tH,aE e xD] 77 e xD y.Records∧(∀ k,d.ownBlock=some k→e.ownBlock ≠ some k)):=by
 refine en Tryz.func41 Tryz.ntmps41 hT fun a hS=>?_
 replace hS:=hS.fS (aB.dn n)
 replace hS:=hS.fS (aB.dn o)
 unfold ew at hM
 refine ai hS fun a hS=>?_
 refine kb hS fun r t a w hk hS=>?_
 refine ka hS jP fun s u a w hk hS=>?_
 refine ai hS fun a hS=>?_
 replace hS:=hS.nilRow ac 61 (by decide)
 obtain ⟨j,hM⟩:=ba hM
 refine wl rfl (bC (R:=ac) (xs:=([]:List aG)) (ys:=b.Inputs) hS vG (by decide) (by decide) rfl rfl 0 rfl 0 rfl 2 rfl j rfl fun l g a w hk hS=>?_)
 refine go hS fun a w hS=>?_
 obtain ⟨x,f,hM⟩:=bd hM
 refine kc hS Iv (xm _ _ hS.dlt b.Records _ (hS.get 2 rfl) _ f) fun _ w hR a hk hA=>?_
 obtain ⟨m,h,he,c⟩:=hR
 obtain rfl:=he.symm
 have hS:=pd hA c
 refine go hS fun a w hS=>?_
 cases hM
 refine aF hS rfl (rC 2 hS) ?_
 exact ⟨l,g,m,h,rfl,hS.retOwn ⟨.inr (List.mem_of_getElem? (i:=1) rfl),⟨.inr (List.mem_of_getElem? (i:=0) rfl),trivial⟩⟩ 1 rfl 1 rfl,hS.retOwn ⟨.inr (List.mem_of_getElem? (i:=1) rfl),⟨.inr (List.mem_of_getElem? (i:=0) rfl),trivial⟩⟩ 0 rfl 0 rfl,(hS.apart2 1 rfl 0 rfl (by decide))⟩
def fA (b:Int):Option Int:=some (b)
def fB (c:ByteArray) (d:Int) (b:Int):Option (Fl (Int×Int) (Fl (Int) Int)):=cond (decide ((b:Int) < (c.size:Int))) ((bm c.toList b).bind fun e=>cond (decide (((e.toNat:Int):Int) < 48)) (some (.out (.out (-1)))) ((bm c.toList b).bind fun f=>cond (decide ((57:Int) < (f.toNat:Int))) (some (.out (.out (-1)))) ((bm c.toList b).bind fun g=>some (.go (IntKind.i64.wrap ((IntKind.i64.wrap (10 * d)) + (IntKind.i64.wrap (IntKind.u8.wrap ((g.toNat:Int) - 48)))),IntKind.i64.wrap (b + 1)))))) (some (.out (.go d)))
def cG (c:ByteArray) (b:Bool):Option Int:=cond b (some ((-1))) ((loop (fun s:Int×Int=>fB c s.1 s.2) (0,0)).bind fun r=>Fl.el r (fun s=>fA s) (fun y=>some (y)))
def iX (b:ByteArray):Option Int:=cond (b.toList == (ByteArray.mk #[]).toList) (cG b true) (cond (decide ((9:Int) < (b.size:Int))) (cG b true) ((bm b.toList 0).bind fun c=>cond (((c.toNat:Int):Int) == 48) (cG b (!(b.toList == (ByteArray.mk #[48]).toList))) (cG b false)))
theorem qc (T:Nat→Prop) (W0:World) (hT:TW T W0) (b:ByteArray) (y:Int) (hM:iX b=some y):aY Tryz.prog No 103 [.string b] W0 (fun v w'=>v = .int .i64 y):=by
 refine en Tryz.func103 Tryz.ntmps103 hT fun a hS=>?_
 unfold iX at hM
 refine ai hS fun a hS=>?_
 refine aw ?_
 refine aI (J:=fun a w=>∃ (e:Bool),St W0 No T 46 [(0,.string b),(20,.bool e)] [] [] a w∧cG b e=some y) ?_ ?_
 ·skip
  refine ai hS fun a hS=>?_
  rcases cd hM with ⟨m,hM⟩ | ⟨m,hM⟩
  ·exact fz
  refine ai hS fun a hS=>?_
  rcases cd hM with ⟨g,hM⟩ | ⟨g,hM⟩
  ·exact fz
  refine ai hS fun a hS=>?_
  obtain ⟨x,l,hM⟩:=bd hM
  refine qg hS g (xz hS Tryz.underlying9 rfl rfl l) fun a hS=>?_
  exact fz
 rintro a w ⟨e,hS,hM⟩
 unfold cG at hM
 rcases cd hM with ⟨n,hM⟩ | ⟨n,hM⟩
 ·exact fz
 refine ai hS fun a hS=>?_
 refine aI (J:=fun a w=>∃ (f:Int),St W0 No T 46 [(3,.int .i64 f)] [] [] a w∧fA f=some y) ?_ ?_
 ·skip
  refine ai hS fun a hS=>?_
  obtain ⟨A,q,hMo1⟩:=bd hM
  refine bB _ (fun s a w=>∃ (d:Int) (c:Int),(d,c)=s∧St W0 No T 46 [(0,.string b),(3,.int .i64 d),(4,.int .i64 c)] [] [] a w) q ⟨_,_,rfl,hS.mt [] []⟩ ?_
  rintro s a w z ⟨d,c,rfl,hS⟩ hM hf1
  have hM:fB b d c=some z:=hM
  unfold fB at hM
  refine aw ?_
  refine ai hS fun a hS=>?_
  rcases cd hM with ⟨o,hM⟩ | ⟨o,hM⟩
  ·refine ai hS fun a hS=>?_
   refine aw ?_
   refine ai hS fun a hS=>?_
   refine aw ?_
   refine jO ?_
   refine ai hS fun a hS=>?_
   obtain ⟨r,i,hM⟩:=bd hM
   refine qy hS (xz hS Tryz.underlying9 rfl rfl i) fun a hS=>?_
   refine ai hS fun a hS=>?_
   rcases cd hM with ⟨h,hM⟩ | ⟨h,hM⟩
   ·exact fz
   refine ai hS fun a hS=>?_
   obtain ⟨t,j,hM⟩:=bd hM
   refine qg hS h (xz hS Tryz.underlying9 rfl rfl j) fun a hS=>?_
   refine ai hS fun a hS=>?_
   rcases cd hM with ⟨p,hM⟩ | ⟨p,hM⟩
   ·exact fz
   refine ai hS fun a hS=>?_
   obtain ⟨u,k,hM⟩:=bd hM
   refine qy hS (xz hS Tryz.underlying9 rfl rfl k) fun a hS=>?_
   refine ai hS fun a hS=>?_
   exact ⟨_,(Option.some.inj hM).symm,_,_,rfl,hS.mt [] []⟩
  exact fz
 rintro a w ⟨f,hS,hM⟩
 unfold fA at hM
 exact fz
def gk (c:Int) (b:Bool):Option Int:=cond b (some (c)) (some ((-1)))
def gv (c:ae):Option Int:=(iX c.Text).bind fun b=>cond (decide ((30:Int)≤c.Kind)) (cond (decide ((c.Kind:Int)≤32)) (gk b (decide ((b:Int)≤99))) (gk b false)) (gk b false)
theorem l5 (T:Nat→Prop) (W0:World) (hT:TW T W0) (c:ae) (y:Int) (hM:gv c=some y):aY Tryz.prog No 73 [.agg (aS c).toArray] W0 (fun v w'=>v = .int .i64 y):=by
 refine en Tryz.func73 Tryz.ntmps73 hT fun a hS=>?_
 unfold gv at hM
 refine ai hS fun a hS=>?_
 refine kb hS fun f g a w hk hS=>?_
 refine ai hS fun a hS=>?_
 refine aw ?_
 refine ai hS fun a hS=>?_
 obtain ⟨d,e,hM⟩:=bd hM
 refine kc hS D6 (qc _ _ hS.dlt c.Text _ e) fun _ w hR a hk hA=>?_
 obtain rfl:=hR
 have hS:=bM hA
 refine ai hS fun a hS=>?_
 refine aI (J:=fun a w=>∃ (b:Bool),St W0 No T 20 [(3,.int .i64 d),(18,.bool b)] [] [] a w∧gk d b=some y) ?_ ?_
 ·exact fz
 rintro a w ⟨b,hS,hM⟩
 unfold gk at hM
 exact fz
def eJ (b:Bool):Option Bool:=some (b)
def jq (b:ae) (c:Bool):Option Bool:=cond c ((gv b).bind fun d=>some (decide ((0:Int)≤d))) (cond (decide ((1:Int)≤b.Kind)) (cond (decide ((b.Kind:Int)≤22)) (cond (decide (((b.Text.size:Int):Int)≤1073741824)) (cond (b.Text.toList == (ByteArray.mk #[]).toList) (eJ true) (cond ((b.Kind:Int) != 1) (eJ ((b.Kind:Int) != 21)) (eJ false))) (eJ false)) (eJ false)) (eJ false))
def d9 (b:ae):Option Bool:=cond (decide ((30:Int)≤b.Kind)) (jq b (decide ((b.Kind:Int)≤32))) (jq b false)
theorem kD (T:Nat→Prop) (W0:World) (hT:TW T W0) (b:ae) (y:Bool) (hM:d9 b=some y):aY Tryz.prog No 43 [.agg (aS b).toArray] W0 (fun v w'=>v = .bool y):=by
 refine en Tryz.func43 Tryz.ntmps43 hT fun a hS=>?_
 unfold d9 at hM
 refine ai hS fun a hS=>?_
 refine kb hS fun e h a w hk hS=>?_
 refine ai hS fun a hS=>?_
 refine aw ?_
 refine aI (J:=fun a w=>∃ (d:Bool),St W0 No T 43 [(1,pt e 0),(10,.bool d)] [.box e (aS b) 35] [] a w∧jq b d=some y) ?_ ?_
 ·exact fz
 rintro a w ⟨d,hS,hM⟩
 unfold jq at hM
 rcases cd hM with ⟨g,hM⟩ | ⟨g,hM⟩
 ·refine ai hS fun a hS=>?_
  obtain ⟨i,f,hM⟩:=bd hM
  refine kc hS CY (l5 _ _ hS.dlt b _ f) fun _ w hR a hk hA=>?_
  obtain rfl:=hR
  have hS:=bM hA
  exact fz
 refine ai hS fun a hS=>?_
 refine aI (J:=fun a w=>∃ (c:Bool),St W0 No T 43 [(2,.bool c)] [] [] a w∧eJ c=some y) ?_ ?_
 ·exact fz
 rintro a w ⟨c,hS,hM⟩
 unfold eJ at hM
 exact fz
def hJ (b:Bool):Option Bool:=some (b)
def ci (b:ae):Option Bool:=cond ((b.Kind:Int) == 1) (hJ true) (cond ((b.Kind:Int) == 2) (hJ true) (hJ ((b.Kind:Int) == 30)))
theorem dt (T:Nat→Prop) (W0:World) (hT:TW T W0) (c:ae) (y:Bool) (hM:ci c=some y):aY Tryz.prog No 44 [.agg (aS c).toArray] W0 (fun v w'=>v = .bool y):=by
 refine en Tryz.func44 Tryz.ntmps44 hT fun a hS=>?_
 unfold ci at hM
 refine ai hS fun a hS=>?_
 refine kb hS fun d e a w hk hS=>?_
 refine ai hS fun a hS=>?_
 refine aI (J:=fun a w=>∃ (b:Bool),St W0 No T 16 [(2,.bool b)] [] [] a w∧hJ b=some y) ?_ ?_
 ·exact fz
 rintro a w ⟨b,hS,hM⟩
 unfold hJ at hM
 exact fz
def iW (b:ae) (c:ae):Option Int:=cond (decide ((b.Kind:Int) < c.Kind)) (some ((-1))) (cond (decide ((c.Kind:Int) < b.Kind)) (some (1)) ((pn b.Text c.Text).bind fun d=>some (d)))
theorem lz (T:Nat→Prop) (W0:World) (hT:TW T W0) (hLv:c6 T W0) (b:ae) (c:ae) (y:Int) (hM:iW b c=some y):aY Tryz.prog No 46 [.agg (aS b).toArray,.agg (aS c).toArray] W0 (fun v w'=>v = .int .i64 y):=by
 refine en Tryz.func46 Tryz.ntmps46 hT fun a hS=>?_
 replace hS:=hS.fact bu (c6.dn hLv)
 unfold iW at hM
 refine ai hS fun a hS=>?_
 refine kb hS fun g i a w hk hS=>?_
 refine kb hS fun h j a w hk hS=>?_
 refine ai hS fun a hS=>?_
 refine aw ?_
 refine ai hS fun a hS=>?_
 rcases cd hM with ⟨e,hM⟩ | ⟨e,hM⟩
 ·exact fz
 refine ai hS fun a hS=>?_
 rcases cd hM with ⟨f,hM⟩ | ⟨f,hM⟩
 ·exact fz
 refine ai hS fun a hS=>?_
 obtain ⟨k,d,hM⟩:=bd hM
 refine kc hS GZ (tJ _ _ hS.dlt (hS.get 0 rfl) b.Text c.Text _ d) fun _ w hR a hk hA=>?_
 obtain rfl:=hR
 have hS:=bM hA
 exact fz
def e7 (b:Bool):Option Bool:=some (b)
def nT (b:Int):Option Bool:=cond ((b:Int) == 7) (e7 true) (cond ((b:Int) == 14) (e7 true) (cond ((b:Int) == 17) (e7 true) (e7 ((b:Int) == 18))))
theorem u7 (T:Nat→Prop) (W0:World) (hT:TW T W0) (c:Int) (y:Bool) (hM:nT c=some y):aY Tryz.prog No 112 [.int .i64 c] W0 (fun v w'=>v = .bool y):=by
 refine en Tryz.func112 Tryz.ntmps112 hT fun a hS=>?_
 unfold nT at hM
 refine ai hS fun a hS=>?_
 refine aI (J:=fun a w=>∃ (b:Bool),St W0 No T 17 [(2,.bool b)] [] [] a w∧e7 b=some y) ?_ ?_
 ·exact fz
 rintro a w ⟨b,hS,hM⟩
 unfold e7 at hM
 exact fz
def e9 (b:Bool):Option Bool:=some (b)
def bZ (b:ae):Option Bool:=cond ((b.Kind:Int) == 32) (e9 true) (cond (decide ((1:Int)≤b.Kind)) (cond (decide ((b.Kind:Int)≤22)) ((nT b.Kind).bind fun c=>e9 c) (e9 false)) (e9 false))
theorem cq (T:Nat→Prop) (W0:World) (hT:TW T W0) (d:ae) (y:Bool) (hM:bZ d=some y):aY Tryz.prog No 81 [.agg (aS d).toArray] W0 (fun v w'=>v = .bool y):=by
 refine en Tryz.func81 Tryz.ntmps81 hT fun a hS=>?_
 unfold bZ at hM
 refine ai hS fun a hS=>?_
 refine kb hS fun h i a w hk hS=>?_
 refine ai hS fun a hS=>?_
 refine aI (J:=fun a w=>∃ (b:Bool),St W0 No T 21 [(2,.bool b)] [] [] a w∧e9 b=some y) ?_ ?_
 ·skip
  refine ai hS fun a hS=>?_
  rcases cd hM with ⟨f,hM⟩ | ⟨f,hM⟩
  ·exact fz
  refine ai hS fun a hS=>?_
  rcases cd hM with ⟨g,hM⟩ | ⟨g,hM⟩
  ·refine ai hS fun a hS=>?_
   rcases cd hM with ⟨c,hM⟩ | ⟨c,hM⟩
   ·refine ai hS fun a hS=>?_
    obtain ⟨j,e,hM⟩:=bd hM
    refine wg hS rfl rfl rfl c (a7 hS GD rfl rfl (u7 _ _ hS.dlt d.Kind _ e) fun _ w hR a hk hA=>?_)
    obtain rfl:=hR
    have hS:=bM hA
    exact fz
   exact fz
  exact fz
 rintro a w ⟨b,hS,hM⟩
 unfold e9 at hM
 exact fz
def b7 (b:Bool):Option Bool:=some (b)
def jv (b:al):Option Bool:=(d9 b.Key).bind fun c=>cond c ((ci b.Key).bind fun d=>cond (!(d)) (cond (decide (((b.Value.size:Int):Int)≤1073741824)) (cond (decide (((b.Reads.length:Int):Int)≤4000)) (cond (decide ((0:Int)≤b.Changed)) (cond (decide ((b.Changed:Int)≤b.Verified)) (cond (decide ((b.Verified:Int)≤1073741824)) (cond (decide ((1:Int)≤b.Cost)) (cond (decide ((b.Cost:Int)≤1073741824)) (cond (!(b.Dirty)) (b7 true) ((bZ b.Key).bind fun e=>b7 e)) (b7 false)) (b7 false)) (b7 false)) (b7 false)) (b7 false)) (b7 false)) (b7 false)) (b7 false)) (b7 false)
def jw (c:al) (b:Int):Option (Fl (Int) (Fl (Unit) Bool)):=cond (decide ((b:Int) < (c.Reads.length:Int))) ((bm c.Reads b).bind fun d=>(d9 d).bind fun e=>cond (!(e)) (some (.out (.out false))) (some (.go (IntKind.i64.wrap (b + 1))))) (some (.out (.go ())))
def nx (b:al):Option Bool:=(loop (fun s:Int=>jw b s) 0).bind fun r=>Fl.el r (fun s=>jv b) (fun y=>some (y))
theorem vL (T:Nat→Prop) (W0:World) (hT:TW T W0) (b:al) (f:Value) (D:aB ad T W0 f b.Reads) (y:Bool) (hM:nx b=some y):aY Tryz.prog No 102 [.agg (aX b f).toArray] W0 (fun v w'=>v = .bool y):=by
 refine en Tryz.func102 Tryz.ntmps102 hT fun a hS=>?_
 replace hS:=hS.fS (aB.dn D)
 unfold nx at hM
 refine ai hS fun a hS=>?_
 refine kb hS fun c I a w hk hS=>?_
 refine ai hS fun a hS=>?_
 refine aI (J:=fun a w=>St W0 No T 74 [(1,pt c 0)] [.box c (aX b f) 77] [aJ ad f b.Reads] a w∧jv b=some y) ?_ ?_
 ·skip
  refine ai hS fun a hS=>?_
  obtain ⟨Q,C,hMo1⟩:=bd hM
  refine bB _ (fun s a w=>∃ (d:Int),d=s∧St W0 No T 74 [(1,pt c 0),(6,f),(7,.int .i64 (b.Reads.length:Int)),(8,.int .i64 d)] [.box c (aX b f) 77] [aJ ad f b.Reads] a w) C ⟨_,rfl,hS.mt [0] [0]⟩ ?_
  rintro s a w H ⟨d,rfl,hS⟩ hM hf1
  have hM:jw b d=some H:=hM
  unfold jw at hM
  refine ai hS fun a hS=>?_
  refine aw ?_
  rcases cd hM with ⟨o,hM⟩ | ⟨o,hM⟩
  ·refine ai hS fun a hS=>?_
   refine aw ?_
   refine ai hS fun a hS=>?_
   obtain ⟨n,i,hM⟩:=bd hM
   refine wl rfl (bf (R:=ad) hS nI fY rfl rfl 0 rfl i rfl fun E L G p a hS=>?_)
   obtain rfl:=p
   refine ai hS fun a hS=>?_
   refine ka hS gM fun F K a w hk hS=>?_
   refine go hS fun a w hS=>?_
   obtain ⟨P,m,hM⟩:=bd hM
   refine kc hS Bn (kD _ _ hS.dlt n _ m) fun _ w hR a hk hA=>?_
   obtain rfl:=hR
   have hS:=bM hA
   exact fz
  exact fz
 rintro a w ⟨hS,hM⟩
 unfold jv at hM
 refine aI (J:=fun a w=>∃ (e:Bool),St W0 No T 74 [(2,.bool e)] [] [] a w∧b7 e=some y) ?_ ?_
 ·skip
  refine ai hS fun a hS=>?_
  obtain ⟨M,j,hM⟩:=bd hM
  refine kc hS Bn (kD _ _ hS.dlt b.Key _ j) fun _ w hR a hk hA=>?_
  obtain rfl:=hR
  have hS:=bM hA
  refine ai hS fun a hS=>?_
  rcases cd hM with ⟨g,hM⟩ | ⟨g,hM⟩
  ·refine ai hS fun a hS=>?_
   obtain ⟨N,k,hM⟩:=bd hM
   refine wg hS rfl rfl rfl g (a7 hS uD rfl rfl (dt _ _ hS.dlt b.Key _ k) fun _ w hR a hk hA=>?_)
   obtain rfl:=hR
   have hS:=bM hA
   refine ai hS fun a hS=>?_
   rcases cd hM with ⟨q,hM⟩ | ⟨q,hM⟩
   ·refine ai hS fun a hS=>?_
    rcases cd hM with ⟨r,hM⟩ | ⟨r,hM⟩
    ·refine ai hS fun a hS=>?_
     rcases cd hM with ⟨t,hM⟩ | ⟨t,hM⟩
     ·refine ai hS fun a hS=>?_
      rcases cd hM with ⟨u,hM⟩ | ⟨u,hM⟩
      ·refine ai hS fun a hS=>?_
       rcases cd hM with ⟨x,hM⟩ | ⟨x,hM⟩
       ·refine ai hS fun a hS=>?_
        rcases cd hM with ⟨z,hM⟩ | ⟨z,hM⟩
        ·refine ai hS fun a hS=>?_
         rcases cd hM with ⟨A,hM⟩ | ⟨A,hM⟩
         ·refine ai hS fun a hS=>?_
          rcases cd hM with ⟨B,hM⟩ | ⟨B,hM⟩
          ·refine ai hS fun a hS=>?_
           rcases cd hM with ⟨h,hM⟩ | ⟨h,hM⟩
           ·exact fz
           refine ai hS fun a hS=>?_
           obtain ⟨O,l,hM⟩:=bd hM
           refine wg hS rfl rfl rfl h (a7 hS s7 rfl rfl (cq _ _ hS.dlt b.Key _ l) fun _ w hR a hk hA=>?_)
           obtain rfl:=hR
           have hS:=bM hA
           exact fz
          exact fz
         exact fz
        exact fz
       exact fz
      exact fz
     exact fz
    exact fz
   exact fz
  exact fz
 rintro a w ⟨e,hS,hM⟩
 unfold b7 at hM
 exact fz
def lm (b:LR):Option Bool:=some (decide (((b.length:Int):Int)≤4000))
def dw (b:Int) (c:Bool):Option (Fl (Int) (Fl (Unit) Bool)):=cond c (some (.out (.out false))) (some (.go (IntKind.i64.wrap (b + 1))))
def fP (d:LR) (b:Int):Option (Fl (Int) (Fl (Unit) Bool)):=cond (decide ((b:Int) < (d.length:Int))) ((bm d b).bind fun c=>(nx c).bind fun f=>cond (!(f)) (dw b true) (cond (decide ((0:Int) < b)) ((bm d (IntKind.i64.wrap (b - 1))).bind fun e=>(iW e.Key c.Key).bind fun g=>dw b (decide ((0:Int)≤g))) (dw b false))) (some (.out (.go ())))
def iH (b:LR):Option Bool:=(loop (fun s:Int=>fP b s) 0).bind fun r=>Fl.el r (fun s=>lm b) (fun y=>some (y))
theorem sF (T:Nat→Prop) (W0:World) (hT:TW T W0) (hLv:c6 T W0) (b:LR) (d:Value) (C:aB aa T W0 d b) (y:Bool) (hM:iH b=some y):aY Tryz.prog No 72 [d] W0 (fun v w'=>v = .bool y):=by
 refine en Tryz.func72 Tryz.ntmps72 hT fun a hS=>?_
 replace hS:=hS.fact bu (c6.dn hLv)
 replace hS:=hS.fS (aB.dn C)
 unfold iH at hM
 refine ai hS fun a hS=>?_
 refine aI (J:=fun a w=>St W0 No T 35 [(0,d)] [] [aJ aa d b,bu] a w∧lm b=some y) ?_ ?_
 ·skip
  refine ai hS fun a hS=>?_
  obtain ⟨O,k,hMo1⟩:=bd hM
  refine bB _ (fun s a w=>∃ (c:Int),c=s∧St W0 No T 35 [(0,d),(5,d),(6,.int .i64 (b.length:Int)),(7,.int .i64 c)] [] [aJ aa d b,bu] a w) k ⟨_,rfl,hS.mt [] [0,1]⟩ ?_
  rintro s a w B ⟨c,rfl,hS⟩ hM hf1
  have hM:fP b c=some B:=hM
  unfold fP at hM
  refine ai hS fun a hS=>?_
  refine aw ?_
  rcases cd hM with ⟨r,hM⟩ | ⟨r,hM⟩
  ·refine ai hS fun a hS=>?_
   refine aw ?_
   refine ai hS fun a hS=>?_
   obtain ⟨g,h,hM⟩:=bd hM
   refine wl rfl (bf (R:=aa) hS nH kQ rfl rfl 0 rfl h rfl fun D I F t a hS=>?_)
   obtain ⟨M,rfl,n⟩:=t
   replace hS:=hS.fS n
   refine ai hS fun a hS=>?_
   refine ka hS fJ fun E H a w hk hS=>?_
   refine go hS fun a w hS=>?_
   refine aI (J:=fun a w=>∃ (e:Bool),St W0 No T 35 [(0,d),(5,d),(6,.int .i64 (b.length:Int)),(7,.int .i64 c),(30,.bool e)] [] [aJ aa d b,bu] a w∧dw c e=some B) ?_ ?_
   ·skip
    refine dr [] hS fun w hQ hS=>?_
    refine gE [0] hS fun a hS=>?_
    obtain ⟨K,l,hM⟩:=bd hM
    refine ec 1 hS Gx (vL _ _ hS.dlt g _ (hS.get 0 rfl) _ l) fun _ w hR a hk hA=>?_
    obtain rfl:=hR
    have hS:=bM hA
    refine gE [2,3] hS fun a hS=>?_
    rcases cd hM with ⟨u,hM⟩ | ⟨u,hM⟩
    ·refine gE [4,5,6,7,8,9,10,11,12,13,14,15,16,17,18] hS fun a hS=>?_
     refine eD ?_
     exact ⟨_,hS.mt [] [2,3],hM⟩
    refine gE [4,5,6] hS fun a hS=>?_
    rcases cd hM with ⟨f,hM⟩ | ⟨f,hM⟩
    ·refine gE [7,8,9] hS fun a hS=>?_
     obtain ⟨q,j,hM⟩:=bd hM
     obtain ⟨p,A,G,x,z,hS⟩:=jS (R:=aa) hS nH kQ 2 rfl j
     obtain ⟨N,rfl,o⟩:=x
     replace hS:=hS.fS o
     refine we 10 (v:=pt p A) rfl (by kernel_rfl) (by kernel_rfl) (by kernel_rfl) rfl hQ hS (z rfl rfl) rfl rfl rfl f rfl rfl fun a hS=>?_
     refine gE [11,12,13,14] hS fun a hS=>?_
     obtain ⟨L,m,hM⟩:=bd hM
     refine bV (i:=15) rfl (by kernel_rfl) hS rfl rfl rfl f (a7 hS As rfl rfl (lz _ _ hS.dlt (hS.get 5 rfl) q.Key g.Key _ m) fun _ w hR a hk hA=>⟨fx (hk),?_⟩)
     obtain rfl:=hR
     have hS:=bM hA
     refine gE [16,17,18] hS fun a hS=>?_
     refine eD ?_
     exact ⟨_,hS.mt [] [4,5],hM⟩
    refine gE [7,8,9,10,11,12,13,14,15,16,17,18] hS fun a hS=>?_
    refine eD ?_
    exact ⟨_,hS.mt [] [2,3],hM⟩
   rintro a w ⟨e,hS,hM⟩
   unfold dw at hM
   exact fz
  exact fz
 rintro a w ⟨hS,hM⟩
 unfold lm at hM
 exact fz
def ic (b:Bool):Option Bool:=some (b)
def jA (b:ah):Option Bool:=cond (decide ((0:Int)≤b.Revision)) (cond (decide ((b.Revision:Int)≤1073741824)) (cond (decide (((b.Inputs.length:Int):Int)≤64)) ((iH b.Records).bind fun c=>ic c) (ic false)) (ic false)) (ic false)
def jC (c:ah) (b:Int):Option (Fl (Int) (Fl (Unit) Bool)):=cond (decide ((b:Int) < (c.Records.length:Int))) ((bm c.Records b).bind fun d=>cond (decide ((c.Revision:Int) < d.Verified)) (some (.out (.out false))) (some (.go (IntKind.i64.wrap (b + 1))))) (some (.out (.go ())))
def jB (b:ah):Option Bool:=(loop (fun s:Int=>jC b s) 0).bind fun r=>Fl.el r (fun s=>jA b) (fun y=>some (y))
def cu (b:Int) (c:Bool):Option (Fl (Int) (Fl (Unit) Bool)):=cond c (some (.out (.out false))) (some (.go (IntKind.i64.wrap (b + 1))))
def jD (d:ah) (b:Int):Option (Fl (Int) (Fl (Unit) Bool)):=cond (decide ((b:Int) < (d.Inputs.length:Int))) ((bm d.Inputs b).bind fun c=>(d9 c.Key).bind fun f=>cond (!(f)) (cu b true) ((ci c.Key).bind fun g=>cond (!(g)) (cu b true) (cond (decide ((0:Int) < b)) ((bm d.Inputs (IntKind.i64.wrap (b - 1))).bind fun e=>(iW e.Key c.Key).bind fun h=>cond (decide ((0:Int)≤h)) (cu b true) (cond (decide ((1073741824:Int) < (c.Value.size:Int))) (cu b true) (cond (decide ((c.Changed:Int) < 0)) (cu b true) (cu b (decide ((d.Revision:Int) < c.Changed)))))) (cond (decide ((1073741824:Int) < (c.Value.size:Int))) (cu b true) (cond (decide ((c.Changed:Int) < 0)) (cu b true) (cu b (decide ((d.Revision:Int) < c.Changed)))))))) (some (.out (.go ())))
def jz (b:ah):Option Bool:=(loop (fun s:Int=>jD b s) 0).bind fun r=>Fl.el r (fun s=>jB b) (fun y=>some (y))
theorem o4 (T:Nat→Prop) (W0:World) (hT:TW T W0) (hLv:c6 T W0) (b:ah) (d:Value) (f:Value) (W:aB ac T W0 d b.Inputs) (X:aB aa T W0 f b.Records) (y:Bool) (hM:jz b=some y):aY Tryz.prog No 42 [.agg (aO b d f).toArray] W0 (fun v w'=>v = .bool y):=by
 refine en Tryz.func42 Tryz.ntmps42 hT fun a hS=>?_
 replace hS:=hS.fact bu (c6.dn hLv)
 replace hS:=hS.fS (aB.dn W)
 replace hS:=hS.fS (aB.dn X)
 unfold jz at hM
 refine ai hS fun a hS=>?_
 refine kb hS fun c a9 a w hk hS=>?_
 refine ai hS fun a hS=>?_
 refine aI (J:=fun a w=>St W0 No T 93 [(1,pt c 0)] [.box c (aO b d f) 31] [aJ ac d b.Inputs,aJ aa f b.Records,bu] a w∧jB b=some y) ?_ ?_
 ·skip
  refine ai hS fun a hS=>?_
  obtain ⟨r1,o,hMo1⟩:=bd hM
  refine bB _ (fun s a w=>∃ (e:Int),e=s∧St W0 No T 93 [(1,pt c 0),(8,d),(9,.int .i64 (b.Inputs.length:Int)),(10,.int .i64 e)] [.box c (aO b d f) 31] [aJ ac d b.Inputs,aJ aa f b.Records,bu] a w) o ⟨_,rfl,hS.mt [0] [1,0,2]⟩ ?_
  rintro s a w p ⟨e,rfl,hS⟩ hM hf1
  have hM:jD b e=some p:=hM
  unfold jD at hM
  refine ai hS fun a hS=>?_
  refine aw ?_
  rcases cd hM with ⟨E,hM⟩ | ⟨E,hM⟩
  ·refine ai hS fun a hS=>?_
   refine aw ?_
   refine ai hS fun a hS=>?_
   obtain ⟨h,r,hM⟩:=bd hM
   refine wl rfl (bf (R:=ac) hS ro qN rfl rfl 0 rfl r rfl fun Y ag a2 F a hS=>?_)
   obtain rfl:=F
   refine ai hS fun a hS=>?_
   refine ka hS qn fun Z ab a w hk hS=>?_
   refine go hS fun a w hS=>?_
   refine aI (J:=fun a w=>∃ (k:Bool),St W0 No T 93 [(1,pt c 0),(8,d),(9,.int .i64 (b.Inputs.length:Int)),(10,.int .i64 e),(59,.bool k)] [.box c (aO b d f) 31] [aJ ac d b.Inputs,aJ aa f b.Records,bu] a w∧cu e k=some p) ?_ ?_
   ·skip
    refine dr [] hS fun w hQ hS=>?_
    refine gE [0,1] hS fun a hS=>?_
    obtain ⟨ax,x,hM⟩:=bd hM
    refine ec 2 hS Bn (kD _ _ hS.dlt h.Key _ x) fun _ w hR a hk hA=>?_
    obtain rfl:=hR
    have hS:=bM hA
    refine gE [3,4] hS fun a hS=>?_
    rcases cd hM with ⟨m,hM⟩ | ⟨m,hM⟩
    ·refine gE [5,6,7,8,9,10,11,12,13,14,15,16,17,18,19,20,21,22,23,24,25,26,27,28,29,30,31,32,33,34,35,36,37,38,39,40,41,42,43,44] hS fun a hS=>?_
     refine eD ?_
     exact ⟨_,hS.mt [1] [1,2,3],hM⟩
    refine gE [5,6] hS fun a hS=>?_
    obtain ⟨ay,z,hM⟩:=bd hM
    refine bV (i:=7) rfl (by kernel_rfl) hS rfl rfl rfl m (a7 hS uD rfl rfl (dt _ _ hS.dlt h.Key _ z) fun _ w hR a hk hA=>⟨fx (hk),?_⟩)
    obtain rfl:=hR
    have hS:=bM hA
    refine gE [8,9,10] hS fun a hS=>?_
    rcases cd hM with ⟨G,hM⟩ | ⟨G,hM⟩
    ·refine gE [11,12,13,14,15,16,17,18,19,20,21,22,23,24,25,26,27,28,29,30,31,32,33,34,35,36,37,38,39,40,41,42,43,44] hS fun a hS=>?_
     refine eD ?_
     exact ⟨_,hS.mt [1] [1,2,3],hM⟩
    refine gE [11,12,13] hS fun a hS=>?_
    rcases cd hM with ⟨l,hM⟩ | ⟨l,hM⟩
    ·refine gE [14,15,16,17] hS fun a hS=>?_
     obtain ⟨D,t,hM⟩:=bd hM
     obtain ⟨C,V,a3,H,I,hS⟩:=jS (R:=ac) hS ro qN 1 rfl t
     obtain rfl:=H
     refine we 18 (v:=pt C V) rfl (by kernel_rfl) (by kernel_rfl) (by kernel_rfl) rfl hQ hS (I rfl rfl) rfl rfl rfl l rfl rfl fun a hS=>?_
     refine gE [19,20,21,22] hS fun a hS=>?_
     obtain ⟨az,A,hM⟩:=bd hM
     refine bV (i:=23) rfl (by kernel_rfl) hS rfl rfl rfl l (a7 hS As rfl rfl (lz _ _ hS.dlt (hS.get 4 rfl) D.Key h.Key _ A) fun _ w hR a hk hA=>⟨fx (hk),?_⟩)
     obtain rfl:=hR
     have hS:=bM hA
     refine gE [24,25,26,27] hS fun a hS=>?_
     rcases cd hM with ⟨K,hM⟩ | ⟨K,hM⟩
     ·refine gE [28,29,30,31,32,33,34,35,36,37,38,39,40,41,42,43,44] hS fun a hS=>?_
      refine eD ?_
      exact ⟨_,hS.mt [1] [2,3,4],hM⟩
     refine gE [28,29,30,31,32,33] hS fun a hS=>?_
     rcases cd hM with ⟨L,hM⟩ | ⟨L,hM⟩
     ·refine gE [34,35,36,37,38,39,40,41,42,43,44] hS fun a hS=>?_
      refine eD ?_
      exact ⟨_,hS.mt [1] [2,3,4],hM⟩
     refine gE [34,35,36,37,38] hS fun a hS=>?_
     rcases cd hM with ⟨M,hM⟩ | ⟨M,hM⟩
     ·refine gE [39,40,41,42,43,44] hS fun a hS=>?_
      refine eD ?_
      exact ⟨_,hS.mt [1] [2,3,4],hM⟩
     refine gE [39,40,41,42,43,44] hS fun a hS=>?_
     refine eD ?_
     exact ⟨_,hS.mt [1] [2,3,4],hM⟩
    refine gE [14,15,16,17,18,19,20,21,22,23,24,25,26,27,28,29,30,31,32,33] hS fun a hS=>?_
    rcases cd hM with ⟨N,hM⟩ | ⟨N,hM⟩
    ·refine gE [34,35,36,37,38,39,40,41,42,43,44] hS fun a hS=>?_
     refine eD ?_
     exact ⟨_,hS.mt [1] [1,2,3],hM⟩
    refine gE [34,35,36,37,38] hS fun a hS=>?_
    rcases cd hM with ⟨O,hM⟩ | ⟨O,hM⟩
    ·refine gE [39,40,41,42,43,44] hS fun a hS=>?_
     refine eD ?_
     exact ⟨_,hS.mt [1] [1,2,3],hM⟩
    refine gE [39,40,41,42,43,44] hS fun a hS=>?_
    refine eD ?_
    exact ⟨_,hS.mt [1] [1,2,3],hM⟩
   rintro a w ⟨k,hS,hM⟩
   unfold cu at hM
   exact fz
  exact fz
 rintro a w ⟨hS,hM⟩
 unfold jB at hM
 refine aI (J:=fun a w=>St W0 No T 93 [(1,pt c 0)] [.box c (aO b d f) 31] [aJ ac d b.Inputs,aJ aa f b.Records,bu] a w∧jA b=some y) ?_ ?_
 ·skip
  refine ai hS fun a hS=>?_
  obtain ⟨r1,o,hMo1⟩:=bd hM
  refine bB _ (fun s a w=>∃ (g:Int),g=s∧St W0 No T 93 [(1,pt c 0),(62,f),(63,.int .i64 (b.Records.length:Int)),(64,.int .i64 g)] [.box c (aO b d f) 31] [aJ aa f b.Records,aJ ac d b.Inputs,bu] a w) o ⟨_,rfl,hS.mt [0] [1,0,2]⟩ ?_
  rintro s a w p ⟨g,rfl,hS⟩ hM hf1
  have hM:jC b g=some p:=hM
  unfold jC at hM
  refine ai hS fun a hS=>?_
  refine aw ?_
  rcases cd hM with ⟨P,hM⟩ | ⟨P,hM⟩
  ·refine ai hS fun a hS=>?_
   refine aw ?_
   refine ai hS fun a hS=>?_
   obtain ⟨a5,q,hM⟩:=bd hM
   refine wl rfl (bf (R:=aa) hS nH kQ rfl rfl 0 rfl q rfl fun a0 ak a4 Q a hS=>?_)
   obtain ⟨b0,rfl,B⟩:=Q
   replace hS:=hS.fS B
   refine ai hS fun a hS=>?_
   refine ka hS fJ fun a1 af a w hk hS=>?_
   exact fz
  exact fz
 rintro a w ⟨hS,hM⟩
 unfold jA at hM
 refine aI (J:=fun a w=>∃ (j:Bool),St W0 No T 93 [(2,.bool j)] [] [bu] a w∧ic j=some y) ?_ ?_
 ·skip
  refine ai hS fun a hS=>?_
  rcases cd hM with ⟨S,hM⟩ | ⟨S,hM⟩
  ·refine ai hS fun a hS=>?_
   rcases cd hM with ⟨U,hM⟩ | ⟨U,hM⟩
   ·refine ai hS fun a hS=>?_
    rcases cd hM with ⟨n,hM⟩ | ⟨n,hM⟩
    ·refine ai hS fun a hS=>?_
     obtain ⟨av,u,hM⟩:=bd hM
     refine wg hS rfl rfl rfl n (a7 hS Iw rfl rfl (sF _ _ hS.dlt (hS.get 2 rfl) b.Records _ (hS.get 1 rfl) _ u) fun _ w hR a hk hA=>?_)
     obtain rfl:=hR
     have hS:=bM hA
     exact fz
    exact fz
   exact fz
  exact fz
 rintro a w ⟨j,hS,hM⟩
 unfold ic at hM
 exact fz
def o5 (b:ae):Option aG:=some ((aG.mk b (ByteArray.mk #[]) 0))
def fv (d:ah) (e:ae) (c:Int):Option (Fl (Int) (Fl (Unit) aG)):=cond (decide ((c:Int) < (d.Inputs.length:Int))) ((bm d.Inputs c).bind fun b=>cond ((b.Key.Kind:Int) == e.Kind && b.Key.Text.toList == e.Text.toList) (some (.out (.out b))) (some (.go (IntKind.i64.wrap (c + 1))))) (some (.out (.go ())))
def mM (c:ah) (b:ae):Option aG:=(loop (fun s:Int=>fv c b s) 0).bind fun r=>Fl.el r (fun s=>o5 b) (fun y=>some (y))
theorem sG (T:Nat→Prop) (W0:World) (hT:TW T W0) (c:ah) (b:ae) (i:Value) (p:Value) (n:aB ac T W0 i c.Inputs) (o:aB aa T W0 p c.Records) (y:aG) (hM:mM c b=some y):aY Tryz.prog No 74 [.agg (aO c i p).toArray,.agg (aS b).toArray] W0 (fun v w'=>v = .agg (mC y).toArray):=by
 refine en Tryz.func74 Tryz.ntmps74 hT fun a hS=>?_
 replace hS:=hS.fS (aB.dn n)
 replace hS:=hS.fS (aB.dn o)
 unfold mM at hM
 refine ai hS fun a hS=>?_
 refine kb hS fun q z a w hk hS=>?_
 refine kb hS fun d A a w hk hS=>?_
 refine ka hS qn fun e B a w hk hS=>?_
 refine ai hS fun a hS=>?_
 refine aI (J:=fun a w=>St W0 No T 22 [(3,pt d 0),(4,pt e 0)] [.box d (aS b) 35,.box e [.int .i64 0,.string (ByteArray.mk #[]),.string (ByteArray.mk #[]),.int .i64 0] 61] [] a w∧o5 b=some y) ?_ ?_
 ·skip
  refine ai hS fun a hS=>?_
  obtain ⟨E,m,hMo1⟩:=bd hM
  refine bB _ (fun s a w=>∃ (f:Int),f=s∧St W0 No T 22 [(3,pt d 0),(4,pt e 0),(8,i),(9,.int .i64 (c.Inputs.length:Int)),(10,.int .i64 f)] [.box d (aS b) 35,.box e [.int .i64 0,.string (ByteArray.mk #[]),.string (ByteArray.mk #[]),.int .i64 0] 61] [aJ ac i c.Inputs] a w) m ⟨_,rfl,hS.mt [1,0] [1]⟩ ?_
  rintro s a w x ⟨f,rfl,hS⟩ hM hf1
  have hM:fv c b f=some x:=hM
  unfold fv at hM
  refine ai hS fun a hS=>?_
  refine aw ?_
  rcases cd hM with ⟨j,hM⟩ | ⟨j,hM⟩
  ·refine ai hS fun a hS=>?_
   refine aw ?_
   refine ai hS fun a hS=>?_
   obtain ⟨g,h,hM⟩:=bd hM
   refine wl rfl (bf (R:=ac) hS ro qN rfl rfl 0 rfl h rfl fun r D u k a hS=>?_)
   obtain rfl:=k
   refine ai hS fun a hS=>?_
   refine ka hS qn fun t C a w hk hS=>?_
   refine go hS fun a w hS=>?_
   refine wl rfl (ky (v:=.bool ((g.Key.Kind:Int) == b.Kind && g.Key.Text.toList == b.Text.toList)) hS (wW hS rfl rfl) rfl rfl fun a hS=>?_)
   refine ai hS fun a hS=>?_
   rcases cd hM with ⟨l,hM⟩ | ⟨l,hM⟩
   ·refine go hS fun a w hS=>?_
    cases hM
    have hr:=hf1 _ rfl
    subst hr
    replace hMo1:=gT hMo1
    have hM:=hMo1
    cases hM
    refine aF hS rfl (rC 2 hS) ?_
    exact rfl
   exact fz
  exact fz
 rintro a w ⟨hS,hM⟩
 unfold o5 at hM
 refine ai hS fun a hS=>?_
 refine qy hS (br (ps:=[(0,.tmp 20)]) hS B6 qn rfl (us:=[(aS b)]) ⟨rfl,trivial⟩ (ws:=[.int .i64 b.Kind,.string b.Text,.string (ByteArray.mk #[]),.int .i64 0]) rfl) fun a hS=>?_
 refine go hS fun a w hS=>?_
 cases hM
 refine aF hS rfl (rC 1 hS) ?_
 exact rfl
def mL (c:ah) (d:ae):Option ByteArray:=(mM c d).bind fun b=>some (b.Value)
theorem qC (T:Nat→Prop) (W0:World) (hT:TW T W0) (b:ah) (c:ae) (g:Value) (h:Value) (e:aB ac T W0 g b.Inputs) (f:aB aa T W0 h b.Records) (y:ByteArray) (hM:mL b c=some y):aY Tryz.prog No 45 [.agg (aO b g h).toArray,.agg (aS c).toArray] W0 (fun v w'=>v = .string y):=by
 refine en Tryz.func45 Tryz.ntmps45 hT fun a hS=>?_
 replace hS:=hS.fS (aB.dn e)
 replace hS:=hS.fS (aB.dn f)
 unfold mL at hM
 refine ai hS fun a hS=>?_
 refine kb hS fun i k a w hk hS=>?_
 refine kb hS fun j l a w hk hS=>?_
 refine ai hS fun a hS=>?_
 obtain ⟨m,d,hM⟩:=bd hM
 refine kc hS G2 (sG _ _ hS.dlt b c _ _ (hS.get 1 rfl) (hS.get 0 rfl) _ d) fun _ w hR a hk hA=>?_
 obtain rfl:=hR
 have hS:=bM hA
 refine qy hS (sX hS rfl Tryz.underlying61 rfl rfl DM rfl rfl (fun _=>rfl)) fun a hS=>?_
 exact fz
def jx (b:ah) (c:ah) (e:Bool) (d:LI):Option (ah×Int):=cond (!(e)) (some ((b,0))) (cond (decide ((64:Int) < (d.length:Int))) (some ((b,45))) (cond (decide ((1073741824:Int) < (IntKind.i64.wrap (c.Revision + 1)))) (some ((b,3))) (some (((ah.mk (IntKind.i64.wrap (c.Revision + 1)) d c.Records),0)))))
def ia (c:Int) (b:Bool) (d:LI):Option (Fl (Bool×Int×LI) (Bool×LI)):=some (.go (b,IntKind.i64.wrap (c + 1),d))
def eN (b:Int) (c:LI):Option (Fl (Bool×Int×LI) (Bool×LI)):=ia b true c
def eO (e:ah) (d:Int) (b:aT) (c:LI) (f:Bool):Option (Fl (Bool×Int×LI) (Bool×LI)):=cond (!(f)) (gd (bG (c.length + ([(aG.mk b.Key b.Value (IntKind.i64.wrap (e.Revision + 1)))]).length)) <| eN d (c ++ ([(aG.mk b.Key b.Value (IntKind.i64.wrap (e.Revision + 1)))]))) (eN d c)
def eP (b:Int) (c:LI) (d:Bool):Option (Fl (LI×Bool×Int) (LI×Bool)):=some (.go (c,d,IntKind.i64.wrap (b + 1)))
def eQ (d:Int) (c:aG) (f:Int) (b:LI) (e:Bool):Option (Fl (LI×Bool×Int) (LI×Bool)):=cond ((f:Int) != 0) (gd (bG (b.length + ([c]).length)) <| eP d (b ++ ([c])) e) (eP d b e)
def eR (f:ah) (b:aT) (c:LI) (i:Bool) (e:Int) (d:aG) (g:Int) (h:Bool):Option (Fl (LI×Bool×Int) (LI×Bool)):=cond h (gd (bG (c.length + ([(aG.mk b.Key b.Value (IntKind.i64.wrap (f.Revision + 1)))]).length)) <| eQ e d g (c ++ ([(aG.mk b.Key b.Value (IntKind.i64.wrap (f.Revision + 1)))])) true) (eQ e d g c i)
def fQ (i:ah) (h:LI) (d:aT) (f:LI) (c:Bool) (b:Int):Option (Fl (LI×Bool×Int) (LI×Bool)):=cond (decide ((b:Int) < (h.length:Int))) ((bm h b).bind fun e=>(iW e.Key d.Key).bind fun g=>cond (decide ((0:Int)≤g)) (eR i d f c b e g (!(c))) (eR i d f c b e g false)) (some (.out (f,c)))
def mb (h:ah) (f:ah) (e:Bool) (c:Int) (d:LI) (b:aT) (g:Bool):Option (Fl (Bool×Int×LI) (Bool×LI)):=cond (!(g)) (ia c e d) ((mL h b.Key).bind fun i=>cond (i.toList == b.Value.toList) (ia c e d) ((loop (fun s:LI×Bool×Int=>fQ f d b s.1 s.2.1 s.2.2) (([]:List aG),false,0)).bind fun r=>eO f c b r.1 r.2))
def kW (c:aT) (e:LC) (f:Bool) (b:Int):Option (Fl (Bool×Int) (Bool)):=cond (decide ((b:Int) < (e.length:Int))) ((bm e b).bind fun d=>cond f (some (.go (!((d.Key.Kind:Int) == c.Key.Kind && d.Key.Text.toList == c.Key.Text.toList),IntKind.i64.wrap (b + 1)))) (some (.go (false,IntKind.i64.wrap (b + 1))))) (some (.out f))
def kX (c:LC) (h:ah) (i:ah) (d:Bool) (b:Int) (f:LI):Option (Fl (Bool×Int×LI) (Bool×LI)):=cond (decide ((b:Int) < (c.length:Int))) ((bm c b).bind fun e=>(ql c (IntKind.i64.wrap (b + 1)) c.length).bind fun g=>(loop (fun s:Bool×Int=>kW e g s.1 s.2) (true,0)).bind fun r=>mb h i d b f e r) (some (.out (d,f)))
def iI (d:LC) (b:ah):Option (ah×Int):=(ew b).bind fun c=>(loop (fun s:Bool×Int×LI=>kX d b c s.1 s.2.1 s.2.2) (false,0,c.Inputs)).bind fun r=>jx b c r.1 r.2
def iK (c:LC) (e:ah) (b:Int):Option (Fl (Int) (Fl (Unit) (ah×Int))):=cond (decide ((b:Int) < (c.length:Int))) ((bm c b).bind fun d=>cond (decide ((1073741824:Int) < (d.Value.size:Int))) (some (.out (.out (e,3)))) (some (.go (IntKind.i64.wrap (b + 1))))) (some (.out (.go ())))
def iJ (c:LC) (b:ah):Option (ah×Int):=(loop (fun s:Int=>iK c b s) 0).bind fun r=>Fl.el r (fun s=>iI c b) (fun y=>some (y))
def iL (e:LC) (d:ah) (b:Int):Option (Fl (Int) (Fl (Unit) (ah×Int))):=cond (decide ((b:Int) < (e.length:Int))) ((bm e b).bind fun c=>(d9 c.Key).bind fun f=>cond (!(f)) (some (.out (.out (d,40)))) ((ci c.Key).bind fun g=>cond (!(g)) (some (.out (.out (d,40)))) (some (.go (IntKind.i64.wrap (b + 1)))))) (some (.out (.go ())))
def lD (e:ah) (c:LC):Option (ah×Int):=(ew e).bind fun b=>(jz b).bind fun d=>cond (!(d)) (some ((b,42))) (cond (decide ((32:Int) < (c.length:Int))) (some ((b,3))) ((loop (fun s:Int=>iL c b s) 0).bind fun r=>Fl.el r (fun s=>iJ c b) (fun y=>some (y))))
theorem rH (T:Nat→Prop) (W0:World) (hT:TW T W0) (hLv:c6 T W0) (W:ah) (l:LC) (v1:Value) (v2:Value) (q:Value) (f3:aB ac T W0 v1 W.Inputs) (f4:aB aa T W0 v2 W.Records) (f5:aB aK T W0 q l) (y:ah×Int) (hM:lD W l=some y):aY Tryz.prog No 23 [.agg (aO W v1 v2).toArray,q] W0 (fun v w'=>∃ (v4:Value) (v5:Value),v = .tuple #[.agg (aO y.1 v4 v5).toArray,.int .i64 y.2]∧aB ac (dT T []) w' v4 y.1.Inputs∧aB aa (dT T []) w' v5 y.1.Records):=by
 refine en Tryz.func23 Tryz.ntmps23 hT fun a hS=>?_
 replace hS:=hS.fact bu (c6.dn hLv)
 replace hS:=hS.fS (aB.dn f3)
 replace hS:=hS.fS (aB.dn f4)
 replace hS:=hS.fS (aB.dn f5)
 unfold lD at hM
 refine ai hS fun a hS=>?_
 refine kb hS fun g h5 a w hk hS=>?_
 refine ka hS jP fun j h6 a w hk hS=>?_
 refine ai hS fun a hS=>?_
 obtain ⟨c,ch,hM⟩:=bd hM
 refine kc hS uC (dQ _ _ hS.dlt W _ _ (hS.get 2 rfl) (hS.get 1 rfl) _ ch) fun _ w hR a hk hA=>?_
 obtain ⟨e,D,f,E,he,bq,bs,bl⟩:=hR
 obtain rfl:=he.symm
 have hS:=sZ hA bq bs bl
 refine go hS fun a w hS=>?_
 refine aw ?_
 refine ai hS fun a hS=>?_
 have hL:=hS
 replace hL:=hL.freeze (R:=ac) 0 rfl 1 rfl
 replace hL:=hL.freeze (R:=aa) 0 rfl 1 rfl
 obtain ⟨hp,d0,hM⟩:=bd hM
 refine kc hS EM (o4 _ _ hL.dlt (hL.get 7 rfl) c _ _ (hL.get 1 rfl) (hL.get 0 rfl) _ d0) fun _ w hR a hk hA=>?_
 obtain rfl:=hR
 have hS:=bM hA
 refine ai hS fun a hS=>?_
 rcases cd hM with ⟨d1,hM⟩ | ⟨d1,hM⟩
 ·refine go hS fun a w hS=>?_
  replace hS:=hS.freeze (R:=ac) 0 rfl 1 rfl
  replace hS:=hS.freeze (R:=aa) 0 rfl 1 rfl
  cases hM
  refine aF hS Tryz.results23 (a8 hS rfl 0 rfl fG rfl (fun h=>by cases h) (ar hS rfl aH)) ?_
  exact ⟨e,f,rfl,(aB.up trivial (hS.get 1 rfl)),(aB.up trivial (hS.get 0 rfl))⟩
 refine ai hS fun a hS=>?_
 rcases cd hM with ⟨d2,hM⟩ | ⟨d2,hM⟩
 ·refine go hS fun a w hS=>?_
  replace hS:=hS.freeze (R:=ac) 0 rfl 1 rfl
  replace hS:=hS.freeze (R:=aa) 0 rfl 1 rfl
  cases hM
  refine aF hS Tryz.results23 (a8 hS rfl 0 rfl fG rfl (fun h=>by cases h) (ar hS rfl aH)) ?_
  exact ⟨e,f,rfl,(aB.up trivial (hS.get 1 rfl)),(aB.up trivial (hS.get 0 rfl))⟩
 refine ai hS fun a hS=>?_
 refine aI (J:=fun a w=>St W0 No T 172 [(1,q),(2,pt g 0),(4,pt j 0)] [aP e D,aE f E,.box g (aO c e f) 31,.box j [.int .i64 0,.slice none 0 0,.slice none 0 0] 31] [aJ aK q l,am ac D c.Inputs,am aa E c.Records,bu] a w∧iJ l c=some y) ?_ ?_
 ·skip
  refine ai hS fun a hS=>?_
  obtain ⟨r1,X,hMo1⟩:=bd hM
  refine bB _ (fun s a w=>∃ (O:Int),O=s∧St W0 No T 172 [(1,q),(2,pt g 0),(4,pt j 0),(34,q),(35,.int .i64 (l.length:Int)),(36,.int .i64 O)] [aP e D,aE f E,.box g (aO c e f) 31,.box j [.int .i64 0,.slice none 0 0,.slice none 0 0] 31] [aJ aK q l,am ac D c.Inputs,am aa E c.Records,bu] a w) X ⟨_,rfl,hS.mt [0,1,3,2] [2,1,0,5]⟩ ?_
  rintro s a w K ⟨O,rfl,hS⟩ hM hf1
  have hM:iL l c O=some K:=hM
  unfold iL at hM
  refine ai hS fun a hS=>?_
  refine aw ?_
  rcases cd hM with ⟨d3,hM⟩ | ⟨d3,hM⟩
  ·refine ai hS fun a hS=>?_
   refine aw ?_
   refine ai hS fun a hS=>?_
   obtain ⟨b8,ca,hM⟩:=bd hM
   refine wl rfl (bf (R:=aK) hS vT vU rfl rfl 0 rfl ca rfl fun fs hd gb d4 a hS=>?_)
   obtain rfl:=d4
   refine ai hS fun a hS=>?_
   refine ka hS pb fun fM h7 a w hk hS=>?_
   refine go hS fun a w hS=>?_
   refine jO ?_
   refine ai hS fun a hS=>?_
   obtain ⟨hn,cs,hM⟩:=bd hM
   refine kc hS Bn (kD _ _ hS.dlt b8.Key _ cs) fun _ w hR a hk hA=>?_
   obtain rfl:=hR
   have hS:=bM hA
   refine ai hS fun a hS=>?_
   rcases cd hM with ⟨b9,hM⟩ | ⟨b9,hM⟩
   ·refine go hS fun a w hS=>?_
    replace hS:=hS.freeze (R:=ac) 1 rfl 2 rfl
    replace hS:=hS.freeze (R:=aa) 1 rfl 4 rfl
    cases hM
    have hr:=hf1 _ rfl
    subst hr
    replace hMo1:=gT hMo1
    have hM:=hMo1
    cases hM
    refine aF hS Tryz.results23 (a8 hS rfl 2 rfl fG rfl (fun h=>by cases h) (ar hS rfl aH)) ?_
    exact ⟨e,f,rfl,(aB.up trivial (hS.get 1 rfl)),(aB.up trivial (hS.get 0 rfl))⟩
   refine ai hS fun a hS=>?_
   obtain ⟨ho,cv,hM⟩:=bd hM
   refine wg hS rfl rfl rfl b9 (a7 hS uD rfl rfl (dt _ _ hS.dlt b8.Key _ cv) fun _ w hR a hk hA=>?_)
   obtain rfl:=hR
   have hS:=bM hA
   refine ai hS fun a hS=>?_
   rcases cd hM with ⟨d6,hM⟩ | ⟨d6,hM⟩
   ·refine go hS fun a w hS=>?_
    replace hS:=hS.freeze (R:=ac) 1 rfl 2 rfl
    replace hS:=hS.freeze (R:=aa) 1 rfl 4 rfl
    cases hM
    have hr:=hf1 _ rfl
    subst hr
    replace hMo1:=gT hMo1
    have hM:=hMo1
    cases hM
    refine aF hS Tryz.results23 (a8 hS rfl 2 rfl fG rfl (fun h=>by cases h) (ar hS rfl aH)) ?_
    exact ⟨e,f,rfl,(aB.up trivial (hS.get 1 rfl)),(aB.up trivial (hS.get 0 rfl))⟩
   exact fz
  exact fz
 rintro a w ⟨hS,hM⟩
 unfold iJ at hM
 refine aI (J:=fun a w=>St W0 No T 172 [(1,q),(2,pt g 0),(4,pt j 0)] [aP e D,aE f E,.box g (aO c e f) 31,.box j [.int .i64 0,.slice none 0 0,.slice none 0 0] 31] [aJ aK q l,am ac D c.Inputs,am aa E c.Records,bu] a w∧iI l c=some y) ?_ ?_
 ·skip
  refine ai hS fun a hS=>?_
  obtain ⟨r1,X,hMo1⟩:=bd hM
  refine bB _ (fun s a w=>∃ (N:Int),N=s∧St W0 No T 172 [(1,q),(2,pt g 0),(4,pt j 0),(52,q),(53,.int .i64 (l.length:Int)),(54,.int .i64 N)] [aP e D,aE f E,.box g (aO c e f) 31,.box j [.int .i64 0,.slice none 0 0,.slice none 0 0] 31] [aJ aK q l,am ac D c.Inputs,am aa E c.Records,bu] a w) X ⟨_,rfl,hS.mt [0,1,2,3] [0,1,2,3]⟩ ?_
  rintro s a w K ⟨N,rfl,hS⟩ hM hf1
  have hM:iK l c N=some K:=hM
  unfold iK at hM
  refine ai hS fun a hS=>?_
  refine aw ?_
  rcases cd hM with ⟨dc,hM⟩ | ⟨dc,hM⟩
  ·refine ai hS fun a hS=>?_
   refine aw ?_
   refine ai hS fun a hS=>?_
   obtain ⟨h4,c9,hM⟩:=bd hM
   refine wl rfl (bf (R:=aK) hS vT vU rfl rfl 0 rfl c9 rfl fun g0 hf gi di a hS=>?_)
   obtain rfl:=di
   refine ai hS fun a hS=>?_
   refine ka hS pb fun g1 h8 a w hk hS=>?_
   refine go hS fun a w hS=>?_
   rcases cd hM with ⟨dl,hM⟩ | ⟨dl,hM⟩
   ·refine go hS fun a w hS=>?_
    replace hS:=hS.freeze (R:=ac) 1 rfl 2 rfl
    replace hS:=hS.freeze (R:=aa) 1 rfl 4 rfl
    cases hM
    have hr:=hf1 _ rfl
    subst hr
    replace hMo1:=gT hMo1
    have hM:=hMo1
    cases hM
    refine aF hS Tryz.results23 (a8 hS rfl 2 rfl fG rfl (fun h=>by cases h) (ar hS rfl aH)) ?_
    exact ⟨e,f,rfl,(aB.up trivial (hS.get 1 rfl)),(aB.up trivial (hS.get 0 rfl))⟩
   exact fz
  exact fz
 rintro a w ⟨hS,hM⟩
 unfold iI at hM
 refine ai hS fun a hS=>?_
 replace hS:=hS.freeze (R:=ac) 0 rfl 1 rfl
 replace hS:=hS.freeze (R:=aa) 0 rfl 3 rfl
 obtain ⟨d,ck,hM⟩:=bd hM
 refine kc hS uC (dQ _ _ hS.dlt c _ _ (hS.get 1 rfl) (hS.get 0 rfl) _ ck) fun _ w hR a hk hA=>?_
 obtain ⟨hq,gp,m,p,he,bt,c0,bl⟩:=hR
 obtain rfl:=he.symm
 have hS:=sZ hA bt c0 bl
 refine ka hS jP fun o h9 a w hk hS=>?_
 refine go hS fun a w hS=>?_
 refine aI (J:=fun a w=>∃ (Y:Bool) (ao:LI) (V:Value) (a0:LV),St W0 No T 172 [(2,pt g 0),(4,pt j 0),(10,pt o 0),(11,.bool Y)] [.box g (aO c e f) 31,.box j [.int .i64 0,.slice none 0 0,.slice none 0 0] 31,aP V a0,aE m p,.box o [.int .i64 (IntKind.i64.wrap (d.Revision + 1)),V,m] 31] [aJ ac e c.Inputs,aJ aa f c.Records,am ac a0 ao,am aa p d.Records,bu] a w∧jx c d Y ao=some y) ?_ ?_
 ·skip
  refine ai hS fun a hS=>?_
  obtain ⟨r1,X,hMo1⟩:=bd hM
  refine bB _ (fun s a w=>∃ (C:Bool) (u:Int) (t:LI) (n:Value) (r:LV),(C,u,t)=s∧St W0 No T 172 [(1,q),(2,pt g 0),(4,pt j 0),(10,pt o 0),(11,.bool C),(70,q),(71,.int .i64 (l.length:Int)),(72,.int .i64 u)] [.box g (aO c e f) 31,.box j [.int .i64 0,.slice none 0 0,.slice none 0 0] 31,aP n r,aE m p,.box o [.int .i64 (IntKind.i64.wrap (d.Revision + 1)),n,m] 31] [aJ aK q l,aJ ac e c.Inputs,aJ aa f c.Records,am ac r t,am aa p d.Records,bu] a w) X ⟨_,_,_,_,_,rfl,hS.mt [3,4,1,2,0] [4,3,2,1,0,7]⟩ ?_
  rintro s a w K ⟨C,u,t,n,r,rfl,hS⟩ hM hf1
  have hM:kX l c d C u t=some K:=hM
  unfold kX at hM
  refine ai hS fun a hS=>?_
  refine aw ?_
  rcases cd hM with ⟨ds,hM⟩ | ⟨ds,hM⟩
  ·refine ai hS fun a hS=>?_
   refine aI (J:=fun a w=>∃ (Z:Bool) (av:LI) (b0:Value) (a1:LV),St W0 No T 172 [(1,q),(2,pt g 0),(4,pt j 0),(10,pt o 0),(11,.bool Z),(70,q),(71,.int .i64 (l.length:Int)),(72,.int .i64 u)] [.box g (aO c e f) 31,.box j [.int .i64 0,.slice none 0 0,.slice none 0 0] 31,aP b0 a1,aE m p,.box o [.int .i64 (IntKind.i64.wrap (d.Revision + 1)),b0,m] 31] [aJ aK q l,aJ ac e c.Inputs,aJ aa f c.Records,am ac a1 av,am aa p d.Records,bu] a w∧ia u Z av=some K) ?_ ?_
   ·skip
    refine ai hS fun a hS=>?_
    obtain ⟨b,c3,hM⟩:=bd hM
    refine wl rfl (bf (R:=aK) hS vT vU rfl rfl 0 rfl c3 rfl fun g2 hg gs e0 a hS=>?_)
    obtain rfl:=e0
    refine ai hS fun a hS=>?_
    refine ka hS pb fun z ha a w hk hS=>?_
    refine go hS fun a w hS=>?_
    refine aI (J:=fun a w=>∃ (ag:Bool),St W0 No T 172 [(1,q),(2,pt g 0),(4,pt j 0),(10,pt o 0),(11,.bool C),(13,pt z 0),(14,.bool ag),(70,q),(71,.int .i64 (l.length:Int)),(72,.int .i64 u)] [.box g (aO c e f) 31,.box j [.int .i64 0,.slice none 0 0,.slice none 0 0] 31,aP n r,aE m p,.box o [.int .i64 (IntKind.i64.wrap (d.Revision + 1)),n,m] 31,.box z (dG b) 37] [aJ aK q l,aJ ac e c.Inputs,aJ aa f c.Records,am ac r t,am aa p d.Records,bu] a w∧mb c d C u t b ag=some K) ?_ ?_
    ·skip
     refine ai hS fun a hS=>?_
     obtain ⟨ak,cb,hM⟩:=bd hM
     refine wl rfl (Hh (R:=aK) (k2:=.i64) hS vT vU rfl (.inl ⟨_,rfl,rfl⟩) (.inr ⟨rfl,rfl⟩) 1 rfl cb rfl fun c2 a hS=>?_)
     refine ai hS fun a hS=>?_
     obtain ⟨r2,c1,hMo2⟩:=bd hM
     refine bB _ (fun s a w=>∃ (S:Bool) (M:Int),(S,M)=s∧St W0 No T 172 [(1,q),(2,pt g 0),(4,pt j 0),(10,pt o 0),(11,.bool C),(13,pt z 0),(14,.bool S),(70,q),(71,.int .i64 (l.length:Int)),(72,.int .i64 u),(80,c2),(81,.int .i64 (ak.length:Int)),(82,.int .i64 M)] [.box g (aO c e f) 31,.box j [.int .i64 0,.slice none 0 0,.slice none 0 0] 31,aP n r,aE m p,.box o [.int .i64 (IntKind.i64.wrap (d.Revision + 1)),n,m] 31,.box z (dG b) 37] [aJ aK q l,aJ aK c2 ak,aJ ac e c.Inputs,aJ aa f c.Records,am ac r t,am aa p d.Records,bu] a w) c1 ⟨_,_,rfl,hS.mt [1,2,3,4,5,0] [2,0,3,4,5,6,7]⟩ ?_
     rintro s a w f2 ⟨S,M,rfl,hS⟩ hM hf2
     have hM:kW b ak S M=some f2:=hM
     unfold kW at hM
     refine ai hS fun a hS=>?_
     refine aw ?_
     rcases cd hM with ⟨e2,hM⟩ | ⟨e2,hM⟩
     ·refine ai hS fun a hS=>?_
      refine aw ?_
      refine ai hS fun a hS=>?_
      obtain ⟨b6,c5,hM⟩:=bd hM
      refine wl rfl (bf (R:=aK) hS vT vU rfl rfl 1 rfl c5 rfl fun g3 hh gu e3 a hS=>?_)
      obtain rfl:=e3
      refine ai hS fun a hS=>?_
      refine ka hS pb fun g4 hb a w hk hS=>?_
      refine go hS fun a w hS=>?_
      rcases cd hM with ⟨bb,hM⟩ | ⟨bb,hM⟩
      ·refine ai hS fun a hS=>?_
       refine wg hS rfl rfl rfl bb (ky (v:=.bool (!((b6.Key.Kind:Int) == b.Key.Kind && b6.Key.Text.toList == b.Key.Text.toList))) hS (wh hS rfl rfl) rfl rfl fun a hS=>?_)
       exact fz
      exact fz
     exact fz
    rintro a w ⟨ag,hS,hM⟩
    unfold mb at hM
    refine aw ?_
    refine aw ?_
    refine dr [] hS fun w hQ hS=>?_
    refine gE [0,1,2] hS fun a hS=>?_
    rcases cd hM with ⟨bi,hM⟩ | ⟨bi,hM⟩
    ·refine gE [3,4,5,6,7,8,9,10] hS fun a hS=>?_
     refine eD ?_
     exact fz
    refine gE [3,4,5,7,8] hS fun a hS=>?_
    obtain ⟨hm,co,hM⟩:=bd hM
    refine bV (i:=6) rfl (by kernel_rfl) hS rfl rfl rfl bi (a7 hS EN rfl rfl (qC _ _ hS.dlt c b.Key _ _ (hS.get 1 rfl) (hS.get 2 rfl) _ co) fun _ w hR a hk hA=>⟨fx (hk),?_⟩)
    obtain rfl:=hR
    have hS:=bM hA
    refine gE [9,10] hS fun a hS=>?_
    refine eD ?_
    refine ai hS fun a hS=>?_
    rcases cd hM with ⟨e4,hM⟩ | ⟨e4,hM⟩
    ·exact fz
    refine ai hS fun a hS=>?_
    refine aI (J:=fun a w=>∃ (P:LI) (ax:Bool) (b1:Value) (a2:LV),St W0 No T 172 [(1,q),(2,pt g 0),(4,pt j 0),(10,pt o 0),(11,.bool true),(13,pt z 0),(17,b1),(18,.bool ax),(70,q),(71,.int .i64 (l.length:Int)),(72,.int .i64 u)] [aP b1 a2,.box g (aO c e f) 31,.box j [.int .i64 0,.slice none 0 0,.slice none 0 0] 31,aP n r,aE m p,.box o [.int .i64 (IntKind.i64.wrap (d.Revision + 1)),n,m] 31,.box z (dG b) 37] [aJ aK q l,am ac a2 P,aJ ac e c.Inputs,aJ aa f c.Records,am ac r t,am aa p d.Records,bu] a w∧eO d u b P ax=some K) ?_ ?_
    ·skip
     refine ai hS fun a hS=>?_
     replace hS:=hS.nilRow ac 61 (by decide)
     obtain ⟨r2,c1,hMo2⟩:=bd hM
     refine bB _ (fun s a w=>∃ (F:LI) (G:Bool) (B:Int) (I:Value) (H:LV),(F,G,B)=s∧St W0 No T 172 [(1,q),(2,pt g 0),(4,pt j 0),(10,pt o 0),(11,.bool true),(13,pt z 0),(17,I),(18,.bool G),(70,q),(71,.int .i64 (l.length:Int)),(72,.int .i64 u),(107,n),(108,.int .i64 (t.length:Int)),(109,.int .i64 B)] [aP I H,aP n r,.box g (aO c e f) 31,.box j [.int .i64 0,.slice none 0 0,.slice none 0 0] 31,aE m p,.box o [.int .i64 (IntKind.i64.wrap (d.Revision + 1)),n,m] 31,.box z (dG b) 37] [aJ aK q l,am ac H F,am ac r t,aJ ac e c.Inputs,aJ aa f c.Records,am aa p d.Records,bu] a w) c1 ⟨_,_,_,_,_,rfl,hS.mt [0,3,1,2,4,5,6] [1,0,4,2,3,5,6]⟩ ?_
     rintro s a w f2 ⟨F,G,B,I,H,rfl,hS⟩ hM hf2
     have hM:fQ d t b F G B=some f2:=hM
     unfold fQ at hM
     refine ai hS fun a hS=>?_
     refine aw ?_
     rcases cd hM with ⟨e5,hM⟩ | ⟨e5,hM⟩
     ·refine ai hS fun a hS=>?_
      refine aI (J:=fun a w=>∃ (af:LI) (ay:Bool) (b2:Value) (a3:LV),St W0 No T 172 [(1,q),(2,pt g 0),(4,pt j 0),(10,pt o 0),(11,.bool true),(13,pt z 0),(17,b2),(18,.bool ay),(70,q),(71,.int .i64 (l.length:Int)),(72,.int .i64 u),(107,n),(108,.int .i64 (t.length:Int)),(109,.int .i64 B)] [aP b2 a3,aP n r,.box g (aO c e f) 31,.box j [.int .i64 0,.slice none 0 0,.slice none 0 0] 31,aE m p,.box o [.int .i64 (IntKind.i64.wrap (d.Revision + 1)),n,m] 31,.box z (dG b) 37] [aJ aK q l,am ac a3 af,am ac r t,aJ ac e c.Inputs,aJ aa f c.Records,am aa p d.Records,bu] a w∧eP B af ay=some f2) ?_ ?_
      ·skip
       refine ai hS fun a hS=>?_
       obtain ⟨A,c4,hM⟩:=bd hM
       refine wl rfl (dI (R:=ac) hS ro qN rfl rfl 1 rfl 2 rfl c4 rfl fun g5 hi hj h0 e8 ea ed a hS=>?_)
       obtain rfl:=e8
       refine qy hS (cg (k:=0) hS qN 1 rfl ea ed rfl id (us:=(mC A)) rfl rfl (fun h=>by cases h)) fun a hS=>?_
       refine ka hS qn fun L hc a w hk hS=>?_
       refine go hS fun a w hS=>?_
       obtain ⟨U,cl,hM⟩:=bd hM
       refine kc hS As (lz _ _ hS.dlt (hS.get 6 rfl) A.Key b.Key _ cl) fun _ w hR a hk hA=>?_
       obtain rfl:=hR
       have hS:=bM hA
       refine ai hS fun a hS=>?_
       refine aI (J:=fun a w=>∃ (Q:LI) (az:Bool) (b3:Value) (a4:LV),St W0 No T 172 [(1,q),(2,pt g 0),(4,pt j 0),(10,pt o 0),(11,.bool true),(13,pt z 0),(17,b3),(18,.bool az),(20,pt L 0),(21,.int .i64 U),(70,q),(71,.int .i64 (l.length:Int)),(72,.int .i64 u),(107,n),(108,.int .i64 (t.length:Int)),(109,.int .i64 B)] [aP b3 a4,aP n r,.box g (aO c e f) 31,.box j [.int .i64 0,.slice none 0 0,.slice none 0 0] 31,aE m p,.box o [.int .i64 (IntKind.i64.wrap (d.Revision + 1)),n,m] 31,.box z (dG b) 37,.box L (mC A) 61] [aJ aK q l,am ac a4 Q,am ac r t,aJ ac e c.Inputs,aJ aa f c.Records,am aa p d.Records,bu] a w∧eQ B A U Q az=some f2) ?_ ?_
       ·skip
        refine aI (J:=fun a w=>∃ (a9:Bool),St W0 No T 172 [(1,q),(2,pt g 0),(4,pt j 0),(10,pt o 0),(11,.bool true),(13,pt z 0),(17,I),(18,.bool G),(20,pt L 0),(21,.int .i64 U),(70,q),(71,.int .i64 (l.length:Int)),(72,.int .i64 u),(107,n),(108,.int .i64 (t.length:Int)),(109,.int .i64 B),(123,.bool a9)] [aP I H,aP n r,.box g (aO c e f) 31,.box j [.int .i64 0,.slice none 0 0,.slice none 0 0] 31,aE m p,.box o [.int .i64 (IntKind.i64.wrap (d.Revision + 1)),n,m] 31,.box z (dG b) 37,.box L (mC A) 61] [aJ aK q l,am ac H F,am ac r t,aJ ac e c.Inputs,aJ aa f c.Records,am aa p d.Records,bu] a w∧eR d b F G B A U a9=some f2) ?_ ?_
        ·exact fz
        rintro a w ⟨a9,hS,hM⟩
        unfold eR at hM
        rcases cd hM with ⟨el,hM⟩ | ⟨el,hM⟩
        ·refine ai hS fun a hS=>?_
         refine qy hS (br (ps:=[(0,.tmp 126),(1,.tmp 128),(2,.tmp 130)]) hS B6 qn rfl (us:=[(aS b.Key),[.string b.Value],[.int .i64 (IntKind.i64.wrap (d.Revision + 1))]]) ⟨rfl,⟨rfl,⟨rfl,trivial⟩⟩⟩ (ws:=[.int .i64 b.Key.Kind,.string b.Key.Text,.string b.Value,.int .i64 (IntKind.i64.wrap (d.Revision + 1))]) rfl) fun a hS=>?_
         refine wl rfl (aZ (ps:=[(0,.tmp 131)]) hS vG qn (zl:=[.int .i64 0,.string (ByteArray.mk #[]),.string (ByteArray.mk #[]),.int .i64 0]) (by kernel_rfl) rfl (us:=[[.int .i64 b.Key.Kind,.string b.Key.Text,.string b.Value,.int .i64 (IntKind.i64.wrap (d.Revision + 1))]]) ⟨rfl,trivial⟩ (ws:=[.int .i64 b.Key.Kind,.string b.Key.Text,.string b.Value,.int .i64 (IntKind.i64.wrap (d.Revision + 1))]) rfl rfl rfl rfl fun g6 a w hk hS=>?_)
         replace hS:=hS.lit (R:=ac) (us:=[.int .i64 b.Key.Kind,.string b.Key.Text,.string b.Value,.int .i64 (IntKind.i64.wrap (d.Revision + 1))]) (xs:=[(aG.mk b.Key b.Value (IntKind.i64.wrap (d.Revision + 1)))]) 0 rfl (by decide) (aD.one_ (R:=ac) (x:=(aG.mk b.Key b.Value (IntKind.i64.wrap (d.Revision + 1)))) rfl) rfl rfl
         replace hS:=hS.freeze (R:=ac) 0 rfl 0 rfl
         obtain ⟨eq,hM⟩:=ba hM
         refine wl rfl (bC (R:=ac) (xs:=F) (ys:=[(aG.mk b.Key b.Value (IntKind.i64.wrap (d.Revision + 1)))]) hS vG (by decide) (by decide) rfl rfl 0 rfl 3 rfl 0 rfl eq rfl fun hs h1 a w hk hS=>?_)
         exact fz
        exact fz
       rintro a w ⟨Q,az,b3,a4,hS,hM⟩
       unfold eQ at hM
       refine ai hS fun a hS=>?_
       rcases cd hM with ⟨er,hM⟩ | ⟨er,hM⟩
       ·refine ai hS fun a hS=>?_
        refine wl rfl (aZ (ps:=[(0,.tmp 137)]) hS vG qn (zl:=[.int .i64 0,.string (ByteArray.mk #[]),.string (ByteArray.mk #[]),.int .i64 0]) (by kernel_rfl) rfl (us:=[(mC A)]) ⟨rfl,trivial⟩ (ws:=(mC A)) rfl rfl rfl rfl fun g7 a w hk hS=>?_)
        replace hS:=hS.lit (R:=ac) (us:=(mC A)) (xs:=[A]) 0 rfl (by decide) (aD.one_ (R:=ac) (x:=A) rfl) rfl rfl
        replace hS:=hS.freeze (R:=ac) 0 rfl 0 rfl
        obtain ⟨et,hM⟩:=ba hM
        refine wl rfl (bC (R:=ac) (xs:=Q) (ys:=[A]) hS vG (by decide) (by decide) rfl rfl 0 rfl 3 rfl 0 rfl et rfl fun ht h2 a w hk hS=>?_)
        exact fz
       exact fz
      rintro a w ⟨af,ay,b2,a3,hS,hM⟩
      unfold eP at hM
      exact fz
     refine ai hS fun a hS=>?_
     cases hM
     have hr:=hf2 _ rfl
     subst hr
     have hM:eO d u b F G=some K:=hMo2
     exact ⟨_,_,_,_,hS.mt [0,2,3,1,4,5,6] [0,1,3,4,2,5,6],hM⟩
    rintro a w ⟨P,ax,b1,a2,hS,hM⟩
    unfold eO at hM
    refine aI (J:=fun a w=>∃ (ab:LI) (b4:Value) (a5:LV),St W0 No T 172 [(1,q),(2,pt g 0),(4,pt j 0),(10,pt o 0),(11,.bool true),(17,b4),(70,q),(71,.int .i64 (l.length:Int)),(72,.int .i64 u)] [aP b4 a5,.box g (aO c e f) 31,.box j [.int .i64 0,.slice none 0 0,.slice none 0 0] 31,aP n r,aE m p,.box o [.int .i64 (IntKind.i64.wrap (d.Revision + 1)),n,m] 31] [aJ aK q l,am ac a5 ab,aJ ac e c.Inputs,aJ aa f c.Records,am ac r t,am aa p d.Records,bu] a w∧eN u ab=some K) ?_ ?_
    ·skip
     refine ai hS fun a hS=>?_
     rcases cd hM with ⟨ex,hM⟩ | ⟨ex,hM⟩
     ·refine ai hS fun a hS=>?_
      refine qy hS (br (ps:=[(0,.tmp 145),(1,.tmp 147),(2,.tmp 149)]) hS B6 qn rfl (us:=[(aS b.Key),[.string b.Value],[.int .i64 (IntKind.i64.wrap (d.Revision + 1))]]) ⟨rfl,⟨rfl,⟨rfl,trivial⟩⟩⟩ (ws:=[.int .i64 b.Key.Kind,.string b.Key.Text,.string b.Value,.int .i64 (IntKind.i64.wrap (d.Revision + 1))]) rfl) fun a hS=>?_
      refine wl rfl (aZ (ps:=[(0,.tmp 150)]) hS vG qn (zl:=[.int .i64 0,.string (ByteArray.mk #[]),.string (ByteArray.mk #[]),.int .i64 0]) (by kernel_rfl) rfl (us:=[[.int .i64 b.Key.Kind,.string b.Key.Text,.string b.Value,.int .i64 (IntKind.i64.wrap (d.Revision + 1))]]) ⟨rfl,trivial⟩ (ws:=[.int .i64 b.Key.Kind,.string b.Key.Text,.string b.Value,.int .i64 (IntKind.i64.wrap (d.Revision + 1))]) rfl rfl rfl rfl fun g8 a w hk hS=>?_)
      replace hS:=hS.lit (R:=ac) (us:=[.int .i64 b.Key.Kind,.string b.Key.Text,.string b.Value,.int .i64 (IntKind.i64.wrap (d.Revision + 1))]) (xs:=[(aG.mk b.Key b.Value (IntKind.i64.wrap (d.Revision + 1)))]) 0 rfl (by decide) (aD.one_ (R:=ac) (x:=(aG.mk b.Key b.Value (IntKind.i64.wrap (d.Revision + 1)))) rfl) rfl rfl
      replace hS:=hS.freeze (R:=ac) 0 rfl 0 rfl
      obtain ⟨ey,hM⟩:=ba hM
      refine wl rfl (bC (R:=ac) (xs:=P) (ys:=[(aG.mk b.Key b.Value (IntKind.i64.wrap (d.Revision + 1)))]) hS vG (by decide) (by decide) rfl rfl 0 rfl 3 rfl 0 rfl ey rfl fun hu h3 a w hk hS=>?_)
      exact fz
     exact fz
    rintro a w ⟨ab,b4,a5,hS,hM⟩
    unfold eN at hM
    exact fz
   rintro a w ⟨Z,av,b0,a1,hS,hM⟩
   unfold ia at hM
   exact fz
  refine ai hS fun a hS=>?_
  cases hM
  have hr:=hf1 _ rfl
  subst hr
  have hM:jx c d C t=some y:=hMo1
  exact ⟨_,_,_,_,hS.mt [0,1,2,3,4] [1,2,3,4,5],hM⟩
 rintro a w ⟨Y,ao,V,a0,hS,hM⟩
 unfold jx at hM
 refine aw ?_
 refine ai hS fun a hS=>?_
 rcases cd hM with ⟨ez,hM⟩ | ⟨ez,hM⟩
 ·refine go hS fun a w hS=>?_
  cases hM
  refine aF hS Tryz.results23 (a8 hS rfl 1 rfl fG rfl (fun h=>by cases h) (ar hS rfl aH)) ?_
  exact ⟨e,f,rfl,(aB.up trivial (hS.get 0 rfl)),(aB.up trivial (hS.get 1 rfl))⟩
 refine ai hS fun a hS=>?_
 rcases cd hM with ⟨eT,hM⟩ | ⟨eT,hM⟩
 ·refine go hS fun a w hS=>?_
  cases hM
  refine aF hS Tryz.results23 (a8 hS rfl 1 rfl fG rfl (fun h=>by cases h) (ar hS rfl aH)) ?_
  exact ⟨e,f,rfl,(aB.up trivial (hS.get 0 rfl)),(aB.up trivial (hS.get 1 rfl))⟩
 refine ai hS fun a hS=>?_
 rcases cd hM with ⟨eX,hM⟩ | ⟨eX,hM⟩
 ·refine go hS fun a w hS=>?_
  cases hM
  refine aF hS Tryz.results23 (a8 hS rfl 1 rfl fG rfl (fun h=>by cases h) (ar hS rfl aH)) ?_
  exact ⟨e,f,rfl,(aB.up trivial (hS.get 0 rfl)),(aB.up trivial (hS.get 1 rfl))⟩
 refine go hS fun a w hS=>?_
 replace hS:=hS.freeze (R:=ac) 2 rfl 2 rfl
 replace hS:=hS.freeze (R:=aa) 2 rfl 4 rfl
 cases hM
 refine aF hS Tryz.results23 (a8 hS rfl 1 rfl fG rfl (fun h=>by cases h) (ar hS rfl aH)) ?_
 exact ⟨V,m,rfl,(aB.up trivial (hS.get 1 rfl)),(aB.up trivial (hS.get 0 rfl))⟩
end
end
end Go.Proofs.YthefmilamdchiaaGreatDoor
