/- Texts of the proof, joined (6). -/
import Derived.Test.YtmfcloapbgfhaaaGreatDoorA1
import Derived.Test.YtmfcloapbgfhaaaGreatDoorA5
import Derived.Test.YtmfcloapbgfhaaaGreatDoorA2
import Derived.Test.YtmfcloapbgfhaaaGreatDoorA4
import Derived.Shelf.SlSortCmp.WholeK
import Derived.Test.YtmfcloapbgfhaaaGreatDoorProg
import Derived.Deep.RegionHeld3
import Derived.Test.YtmfcloapbgfhaaaGreatDoorA3
import Derived.Shelf.SlSortCmp.NoneTotal
import Derived.Lib.RowBridge
import Derived.Test.YtmfcloapbgfhaaaGreatDoorA0
import Derived.Test.YtmfcloapbgfhaaaGreatDoorRows
import Derived.ProofKit
import Derived.LaidMore
import Derived.LaidLaws
import Derived.MakeChecks
import Derived.Lib.LaidTab
import Derived.SizedLaws
import Derived.Deep.Slices
import Derived.Deep.Fields
import Derived.Lib.SmallJoins
import Derived.OpenShut
set_option linter.unusedVariables false
set_option linter.unusedSimpArgs false
set_option linter.unusedSectionVars false
namespace Go.Proofs.YtmfcloapbgfhaaaGreatDoor
section
set_option maxRecDepth 100000
set_option maxHeartbeats 4000000
open Go.RowKit
noncomputable section
def nu (b:Int) (c:LI) (d:LR) (e:LN) (f:Int):Option (ai×aP):=some (((ai.mk b c d),(aP.mk e f)))
def c7 (g:Int) (e:LN) (f:Int) (b:Int) (c:LI) (d:LR):Option (Fl (Int×LN×Int×Int×LI×LR) (Int×LI×LR×LN×Int)):=some (.go (IntKind.i64.wrap (g - 1),e,f,b,c,d))
def nv (g:Int) (h:Int) (i:LI) (j:LR) (k:Int) (e:LN) (f:Int) (l:LU) (m:Int) (n:LI) (o:LR) (p:LK) (q:LF) (r:LK):Option (Fl (Int×LN×Int×Int×LI×LR) (Int×LI×LR×LN×Int)):=cond ((k:Int) == 0) ((bF (aP.mk e f) 30).bind fun c=>(qh vv (cG.mk l (ai.mk m n o) p q r) c.1).bind fun b=>(mC (cG.mk b.1.Rules (ai.mk b.1.Base.Revision b.1.Base.Inputs b.1.Base.Records) b.1.Goals b.1.Stack b.1.Ran)).bind fun d=>c7 g c.2.L c.2.At d.Revision d.Inputs d.Records) (c7 g e f h i j)
def gq (d:LU) (h:Int) (e:Int) (f:LI) (g:LR) (b:(Int×aP)) (q:Bool):Option (Fl (Int×LN×Int×Int×LI×LR) (Int×LI×LR×LN×Int)):=cond q ((jY (aP.mk b.2.L b.2.At) 2).bind fun j=>(lT (ai.mk e f g) j.1).bind fun k=>c7 h j.2.L j.2.At k.1.Revision k.1.Inputs k.1.Records) (cond ((b.1:Int) == 3) ((m3 (aP.mk b.2.L b.2.At) d 2).bind fun l=>(nS d (ai.mk e f g) l.1).bind fun c=>nv h e f g c.2 l.2.L l.2.At c.1.Rules c.1.Base.Revision c.1.Base.Inputs c.1.Base.Records c.1.Goals c.1.Stack c.1.Ran) (cond ((b.1:Int) == 4) ((bF (aP.mk b.2.L b.2.At) 3).bind fun i=>cond ((i.1:Int) == 0) ((bF (aP.mk i.2.L i.2.At) 200).bind fun m=>(nU (ai.mk e f g) m.1 ([])).bind fun n=>c7 h m.2.L m.2.At n.1.Revision n.1.Inputs n.1.Records) (c7 h i.2.L i.2.At e f g)) ((m3 (aP.mk b.2.L b.2.At) d 2).bind fun o=>(k5 uu d (ai.mk e f g) o.1).bind fun p=>c7 h o.2.L o.2.At p.1.Revision p.1.Inputs p.1.Records)))
def nw (c:LU) (g:Int) (h:LN) (i:Int) (d:Int) (e:LI) (f:LR):Option (Fl (Int×LN×Int×Int×LI×LR) (Int×LI×LR×LN×Int)):=cond (decide ((0:Int) < g)) ((bF (aP.mk h i) 8).bind fun b=>cond ((b.1:Int) == 0) (gq c g d e f b ((b.1:Int) == 0)) (cond ((b.1:Int) == 1) (gq c g d e f b ((b.1:Int) == 1)) (gq c g d e f b ((b.1:Int) == 2)))) (some (.out (d,e,f,h,i)))
def oZ (f:aP) (d:LU) (c:ai) (e:Int):Option (ai×aP):=(bF f (IntKind.i64.wrap (e + 1))).bind fun b=>(loop (fun s:Int×LN×Int×Int×LI×LR=>nw d s.1 s.2.1 s.2.2.1 s.2.2.2.1 s.2.2.2.2.1 s.2.2.2.2.2) (b.1,b.2.L,b.2.At,c.Revision,c.Inputs,c.Records)).bind fun r=>nu r.1 r.2.1 r.2.2.1 r.2.2.2.1 r.2.2.2.2
theorem yc (T:Nat→Prop) (W0:World) (hT:TW T W0) (x:aP) (e:LU) (d0:ai) (Y:Int) (v2:Value) (U:Value) (v4:Value) (v5:Value) (b:Nat) (h1:W0.heap[b]? = some (.cells (aZ x v2).toArray 64 (0,0))) (hG:¬ T b) (ih:aA (aN.int .i64) (dT T [.box b (aZ x v2) 64]) W0 v2 x.L) (ii:aA ay (dT T [.box b (aZ x v2) 64]) W0 U e) (it:aA ad (dT T [.box b (aZ x v2) 64]) W0 v4 d0.Inputs) (jb:aA aa (dT T [.box b (aZ x v2) 64]) W0 v5 d0.Records) (hLv:cU (dT T [.box b (aZ x v2) 64]) W0) (y:ai×aP) (hM:oZ x e d0 Y=some y):aW Tryz.prog (fun k=>k=b) 33 [pt b 0,U,.agg (aQ d0 v4 v5).toArray,.int .i64 Y] W0 (fun v w'=>∃ (v6:Value) (v7:Value) (v8:Value),v = .agg (aQ y.1 v6 v7).toArray∧aA ad (dT T [.box b (aZ y.2 v8) 64]) w' v6 y.1.Inputs∧aA aa (dT T [.box b (aZ y.2 v8) 64]) w' v7 y.1.Records∧w'.heap[b]? = some (.cells (aZ y.2 v8).toArray 64 (0,0))∧aA (aN.int .i64) (dT T [.box b (aZ y.2 v8) 64]) w' v8 y.2.L):=by
 refine pB (c:=_) Tryz.func33 rfl T 80 Tryz.ntmps33 hT rfl h1 hG fun a hS=>?_;replace hS:=((((hS.fact bv hLv).fS ih).fS ii).fS it).fS jb;unfold oZ at hM;refine ah hS fun a hS=>?_;refine kb hS fun p lb a w hk hS=>?_;refine ka hS l4 fun q le a w hk hS=>?_;refine ah hS fun a hS=>?_;refine aG (J:=fun a w=>∃ (af:Int) (ag:LI) (ak:LR) (bi:LN) (bl:Int) (a5:Value) (a9:Value) (ab:Value),St W0 (fun k=>k=b) T 80 [(6,pt p 0),(8,pt q 0)] [.box p [.int .i64 af,a5,a9] 31,.box q [.int .i64 0,.slice none 0 0,.slice none 0 0] 31,.box b [ab,.int .i64 bl] 64] [aJ ad a5 ag,aJ aa a9 ak,aJ (aN.int .i64) ab bi,bv] a w∧nu af ag ak bi bl=some y) ?_ ?_
 ·skip;refine ah hS fun a hS=>?_;obtain⟨hH,hd,hM⟩:=bd hM;refine wl rfl (bS hS lA rfl rfl 2 rfl (bh _ _ (hS.drop 2).dlt x (IntKind.i64.wrap (Y + 1)) _ _ (hS.boxRow 2 rfl) (hS.notin 2 rfl) (aA.lent (i:=2) rfl (hS.get 3 rfl)) _ hd) fun _ w hR hk=>?_);obtain⟨hI,he,hrow,ds⟩:=hR;obtain rfl:=he.symm;refine⟨(aZ hH.2 hI),hrow,fun a hS=>?_⟩;replace hS:=hS.fS (aA.back (i:=2) rfl ds);refine ah hS fun a hS=>?_;obtain⟨r1,ib,hMo1⟩:=bd hM;refine bu _ (fun s a w=>∃ (t:Int) (z:LN) (A:Int) (d:Int) (f:LI) (g:LR) (c4:Value) (n:Value) (o:Value),(t,z,A,d,f,g)=s∧St W0 (fun k=>k=b) T 80 [(0,pt b 0),(1,U),(6,pt p 0),(8,pt q 0),(9,.int .i64 t)] [.box b [c4,.int .i64 A] 64,.box p [.int .i64 d,n,o] 31,.box q [.int .i64 0,.slice none 0 0,.slice none 0 0] 31] [aJ ay U e,aJ (aN.int .i64) c4 z,aJ ad n f,aJ aa o g,bv] a w) ib ⟨_,_,_,_,_,_,_,_,_,rfl,hS.mt [2,1,0] [3,0,2,1,5]⟩ ?_;rintro s a w f1 ⟨t,z,A,d,f,g,c4,n,o,rfl,hS⟩ hM hf1;have hM:nw e t z A d f g=some f1:=hM;unfold nw at hM;refine az ?_;refine ah hS fun a hS=>?_;rcases cd hM with⟨hq,hM⟩|⟨hq,hM⟩
  ·refine ah hS fun a hS=>?_;refine aG (J:=fun a w=>∃ (bs:LN) (bt:Int) (ao:Int) (av:LI) (ax:LR) (c5:Value) (c9:Value) (ca:Value),St W0 (fun k=>k=b) T 80 [(0,pt b 0),(1,U),(6,pt p 0),(8,pt q 0),(9,.int .i64 t)] [.box b [c5,.int .i64 bt] 64,.box p [.int .i64 ao,c9,ca] 31,.box q [.int .i64 0,.slice none 0 0,.slice none 0 0] 31] [aJ ay U e,aJ (aN.int .i64) c5 bs,aJ ad c9 av,aJ aa ca ax,bv] a w∧c7 t bs bt ao av ax=some f1) ?_ ?_
   ·skip;refine ah hS fun a hS=>?_;obtain⟨m,h5,hM⟩:=bd hM;refine wl rfl (bS hS lA rfl rfl 0 rfl (bh _ _ (hS.drop 0).dlt (aP.mk z A) 8 _ _ (hS.boxRow 0 rfl) (hS.notin 0 rfl) (aA.lent (i:=0) rfl (hS.get 1 rfl)) _ h5) fun _ w hR hk=>?_);obtain⟨cb,he,hrow,e2⟩:=hR;obtain rfl:=he.symm;refine⟨(aZ m.2 cb),hrow,fun a hS=>?_⟩;replace hS:=hS.fS (aA.back (i:=0) rfl e2);refine ah hS fun a hS=>?_;refine aG (J:=fun a w=>∃ (c1:Bool),St W0 (fun k=>k=b) T 80 [(0,pt b 0),(1,U),(6,pt p 0),(8,pt q 0),(9,.int .i64 t),(21,.int .i64 m.1),(32,.bool c1)] [.box b (aZ m.2 cb) 64,.box p [.int .i64 d,n,o] 31,.box q [.int .i64 0,.slice none 0 0,.slice none 0 0] 31] [aJ ay U e,aJ (aN.int .i64) cb m.2.L,aJ ad n f,aJ aa o g,bv] a w∧gq e t d f g m c1=some f1) ?_ ?_
    ·exact fz
    rintro a w ⟨c1,hS,hM⟩;unfold gq at hM;rcases cd hM with⟨hs,hM⟩|⟨hs,hM⟩
    ·refine ah hS fun a hS=>?_;refine dr [(2,.blk (some b)),(7,.blk (some p))] hS fun w hQ hS=>?_;refine dy (l:=[.blk (some b)]) 0 (v:=.agg #[.int .i64 d,n,o]) rfl (by kernel_rfl) (by kernel_rfl) (by kernel_rfl) (by kernel_rfl) hQ hS (dH hS rfl ez 1 rfl (ic hS 1 rfl rfl 0 rfl rfl (by decide) bo) (us:=[.int .i64 d,n,o]) rfl rfl (fun h=>by cases h)) rfl rfl rfl fun a hS=>?_;refine gE [1] hS fun a hS=>?_;obtain⟨gb,h6,hM⟩:=bd hM;refine e1 2 (oT hS IJ rfl rfl 0 rfl (ri _ _ (hS.drop 0).dlt (aP.mk m.2.L m.2.At) 2 _ _ (hS.boxRow 0 rfl) (hS.notin 0 rfl) (aA.lent (i:=0) rfl (hS.get 1 rfl)) (bv.keep (hS.get 4 rfl) (Kt.refl _ _) (fun k hk=>.inl ((pY (i:=0) rfl k).1 hk))) _ h6) fun _ w hR hk=>?_);obtain⟨ch,b0,hJ,he,⟨dc,d3,e3⟩,hrow,e4⟩:=hR;obtain rfl:=he.symm;refine⟨(aZ gb.2 hJ),[bn ch b0],hrow,eA ⟨dc,by decide⟩ d3,ro _,fun a hS=>⟨kB rfl hk iC,?_⟩⟩;replace hS:=((hS.fR (e3.keep (Kt.refl _ _) (Nw.back2 (i:=0) rfl [bn ch b0] _))).fS (e4.sub (Nw.back2 (i:=0) rfl [bn ch b0] _))).freeze (R:=aj) 0 rfl 1 rfl;obtain⟨ls,h7,hM⟩:=bd hM;refine ec 3 hS IH (sC _ _ hS.dlt (hS.get 7 rfl) (ai.mk d f g) gb.1 _ _ _ (hS.get 5 rfl) (hS.get 6 rfl) (hS.get 0 rfl) _ h7) fun _ w hR a hk hA=>?_;obtain⟨m1,m2,he,e5,e8⟩:=hR;obtain rfl:=he.symm;have hS:=hA [] (fun r hr=>by cases hr) List.Pairwise.nil;replace hS:=(hS.fS (e5.sub (iB _))).fS (e8.sub (iB _));refine gE [4,5,6] hS fun a hS=>?_;refine es 7 hS fun w hS=>?_;refine eD ?_;exact⟨_,_,_,_,_,_,_,_,hS.mt [0,1,2] [5,3,1,0,9],hM⟩
    refine ah hS fun a hS=>?_;rcases cd hM with⟨ht,hM⟩|⟨ht,hM⟩
    ·refine ah hS fun a hS=>?_;refine aG (J:=fun a w=>∃ (c0:Int) (W:LN) (X:Int) (Z:LU) (B:Int) (a0:LI) (a1:LR) (a2:LK) (a3:LF) (a4:LK) (V:Nat) (K:Value) (b1:LV) (M:Value) (b2:LV) (O:Value) (b3:LV) (P:Value) (b4:LV) (Q:Value) (b5:LV) (S:Value) (b6:LV) (ck:Value),St W0 (fun k=>k=b) T 80 [(0,pt b 0),(1,U),(6,pt p 0),(8,pt q 0),(9,.int .i64 t),(10,pt V 0),(11,.int .i64 c0)] [.box b [ck,.int .i64 X] 64,.box p [.int .i64 d,n,o] 31,.box q [.int .i64 0,.slice none 0 0,.slice none 0 0] 31,bJ K b1,aR M b2,aH O b3,au P b4,cX Q b5,au S b6,.box V [K,.int .i64 B,M,O,P,Q,S] 97] [aJ ay U e,aJ (aN.int .i64) ck W,aJ ad n f,aJ aa o g,am ay b1 Z,am ad b2 a0,am aa b3 a1,am ac b4 a2,am ar b5 a3,am ac b6 a4,bv] a w∧nv t d f g c0 W X Z B a0 a1 a2 a3 a4=some f1) ?_ ?_
     ·skip;obtain⟨N181,h0⟩:∃ N,N=w.heap.size:=⟨_,rfl⟩;replace hS:=hS.fact (BA N181) (Nat.le_of_eq h0);refine dr [(4,.blk (some b)),(5,.bks []),(10,.new N181)] hS fun w hQ hS=>?_;refine gE [0] hS fun a hS=>?_;refine dy (l:=[.blk (some b)]) 1 (v:=.agg #[.int .i64 d,n,o]) rfl (by kernel_rfl) (by kernel_rfl) (by kernel_rfl) (by kernel_rfl) hQ hS (dH hS rfl ez 1 rfl (ic hS 1 rfl rfl 0 rfl rfl (by decide) bo) (us:=[.int .i64 d,n,o]) rfl rfl (fun h=>by cases h)) rfl rfl rfl fun a hS=>?_;refine gE [2,3] hS fun a hS=>?_;obtain⟨I,d1,hM⟩:=bd hM;refine de (i:=4) (j:=9) rfl rfl (by kernel_rfl) rfl rfl ?_ ?_
      ·skip;skip;refine id (oT hS Gx rfl rfl 0 rfl (qz _ _ (hS.drop 0).dlt (aP.mk m.2.L m.2.At) e 2 _ _ _ (hS.boxRow 0 rfl) (hS.notin 0 rfl) (aA.lent (i:=0) rfl (hS.get 2 rfl)) (aA.lent (i:=0) rfl (hS.get 1 rfl)) (bv.keep (hS.get 5 rfl) (Kt.refl _ _) (fun k hk=>.inl ((pY (i:=0) rfl k).1 hk))) _ d1) fun _ w hR hk=>?_);obtain⟨cl,b8,hK,he,⟨dk,d4,ea⟩,hrow,ed⟩:=hR;obtain rfl:=he.symm;refine⟨(aZ I.2 hK),[au cl b8],hrow,eA ⟨dk,by decide⟩ d4,ro _,fun a hS=>⟨kB rfl hk iC,?_⟩⟩;replace hS:=((hS.fR (ea.keep (Kt.refl _ _) (Nw.back2 (i:=0) rfl [au cl b8] _))).fS (ed.sub (Nw.back2 (i:=0) rfl [au cl b8] _))).freeze (R:=ac) 0 rfl 1 rfl;obtain⟨lt,d2,hM⟩:=bd hM;refine de (i:=5) (j:=9) rfl rfl (by kernel_rfl) rfl rfl ?_ ?_
       ·skip;skip;replace hS:=hS.re [] [0,1,2];refine id (cu hS Gw rfl rfl (pN _ _ hS.dltD e (ai.mk d f g) I.1 _ _ _ _ hS.dok (hS.getD 4 rfl) (hS.getD 6 rfl) (hS.getD 7 rfl) (hS.getD 0 rfl) (hS.getD 8 rfl) _ d2) fun _ w hR a hk hA=>⟨kB rfl hk t8,?_⟩);obtain⟨md,k2,ms,k3,n0,k4,n1,kk,n2,ks,n3,kt,he,eg,el,em,eq,er,et,hu⟩:=hR;obtain rfl:=he.symm;have hS:=hA _ hu;replace hS:=(((((hS.fR (eg.keep (Kt.refl _ _) (aw _))).fR (el.keep (Kt.refl _ _) (aw _))).fR (em.keep (Kt.refl _ _) (aw _))).fR (eq.keep (Kt.refl _ _) (aw _))).fR (er.keep (Kt.refl _ _) (aw _))).fR (et.keep (Kt.refl _ _) (aw _));refine gE [6,7,8] hS fun a hS=>?_;have hv:=(hS.get 9 rfl:N181≤w.heap.size);refine e1 9 (cr hS wH rfl fun hg hw a w hk hS=>⟨fc (hk),?_⟩);refine cC 10 (.blk (some hg)) _ (by kernel_rfl) (lZ (Nat.le_trans hv hw)) ?_;refine es 10 hS fun w hS=>?_;refine gE [11] hS fun a hS=>?_;refine eD ?_;exact⟨_,_,_,_,_,_,_,_,_,_,_,_,_,_,_,_,_,_,_,_,_,_,_,_,hS.mt [7,8,9,1,2,3,4,5,6,0] [10,7,12,13,5,4,3,2,1,0,14],hM⟩
       skip;have hx:=(hS.get 3 rfl:N181≤w.heap.size);refine id (cr hS wH rfl fun hh hy a w hk hS=>⟨fc (hk),?_⟩);refine cC 10 (.blk (some hh)) _ (by kernel_rfl) (lZ (Nat.le_trans hx hy)) ?_;replace hS:=hS.re [] [0,1,2,3];refine e1 5 (cu hS Gw rfl rfl (pN _ _ hS.dltD e (ai.mk d f g) I.1 _ _ _ _ hS.dok (hS.getD 4 rfl) (hS.getD 6 rfl) (hS.getD 7 rfl) (hS.getD 0 rfl) (hS.getD 8 rfl) _ d2) fun _ w hR a hk hA=>⟨kB rfl hk t8,?_⟩);obtain⟨hN,hj,hP,hl,hV,hm,hW,hn,hX,ho,hY,hp,he,C,D,E,F,G,H,c2⟩:=hR;obtain rfl:=he.symm;have hS:=hA _ c2;replace hS:=(((((hS.fR (C.keep (Kt.refl _ _) (aw _))).fR (D.keep (Kt.refl _ _) (aw _))).fR (E.keep (Kt.refl _ _) (aw _))).fR (F.keep (Kt.refl _ _) (aw _))).fR (G.keep (Kt.refl _ _) (aw _))).fR (H.keep (Kt.refl _ _) (aw _));refine gE [6,7,8] hS fun a hS=>?_;refine es 10 hS fun w hS=>?_;refine gE [11] hS fun a hS=>?_;refine eD ?_;exact⟨_,_,_,_,_,_,_,_,_,_,_,_,_,_,_,_,_,_,_,_,_,_,_,_,hS.mt [7,8,9,0,1,2,3,4,5,6] [10,7,12,13,5,4,3,2,1,0,14],hM⟩
      skip;have hz:=(hS.get 0 rfl:N181≤w.heap.size);refine id (cr hS wH rfl fun hi hB a w hk hS=>⟨fc (hk),?_⟩);refine cC 10 (.blk (some hi)) _ (by kernel_rfl) (lZ (Nat.le_trans hz hB)) ?_;refine e1 4 (oT hS Gx rfl rfl 1 rfl (qz _ _ (hS.drop 1).dlt (aP.mk m.2.L m.2.At) e 2 _ _ _ (hS.boxRow 1 rfl) (hS.notin 1 rfl) (aA.lent (i:=1) rfl (hS.get 2 rfl)) (aA.lent (i:=1) rfl (hS.get 1 rfl)) (bv.keep (hS.get 5 rfl) (Kt.refl _ _) (fun k hk=>.inl ((pY (i:=1) rfl k).1 hk))) _ d1) fun _ w hR hk=>?_);obtain⟨cs,b9,i0,he,⟨dl,d6,ex⟩,hrow,eT⟩:=hR;obtain rfl:=he.symm;refine⟨(aZ I.2 i0),[au cs b9],hrow,eA ⟨dl,by decide⟩ d6,ro _,fun a hS=>⟨kB rfl hk iC,?_⟩⟩;replace hS:=((hS.fR (ex.keep (Kt.refl _ _) (Nw.back2 (i:=1) rfl [au cs b9] _))).fS (eT.sub (Nw.back2 (i:=1) rfl [au cs b9] _))).freeze (R:=ac) 0 rfl 1 rfl;obtain⟨m0,hf,hM⟩:=bd hM;replace hS:=hS.re [] [0,1,2,3];refine e1 5 (cu hS Gw rfl rfl (pN _ _ hS.dltD e (ai.mk d f g) I.1 _ _ _ _ hS.dok (hS.getD 4 rfl) (hS.getD 6 rfl) (hS.getD 7 rfl) (hS.getD 0 rfl) (hS.getD 8 rfl) _ hf) fun _ w hR a hk hA=>⟨kB rfl hk t8,?_⟩);obtain⟨hN,hj,hP,hl,hV,hm,hW,hn,hX,ho,hY,hp,he,C,D,E,F,G,H,c2⟩:=hR;obtain rfl:=he.symm;have hS:=hA _ c2;replace hS:=(((((hS.fR (C.keep (Kt.refl _ _) (aw _))).fR (D.keep (Kt.refl _ _) (aw _))).fR (E.keep (Kt.refl _ _) (aw _))).fR (F.keep (Kt.refl _ _) (aw _))).fR (G.keep (Kt.refl _ _) (aw _))).fR (H.keep (Kt.refl _ _) (aw _));refine gE [6,7,8] hS fun a hS=>?_;refine es 10 hS fun w hS=>?_;refine gE [11] hS fun a hS=>?_;refine eD ?_;exact⟨_,_,_,_,_,_,_,_,_,_,_,_,_,_,_,_,_,_,_,_,_,_,_,_,hS.mt [7,8,9,0,1,2,3,4,5,6] [10,7,12,13,5,4,3,2,1,0,14],hM⟩
     rintro a w ⟨c0,W,X,Z,B,a0,a1,a2,a3,a4,V,K,b1,M,b2,O,b3,P,b4,Q,b5,S,b6,ck,hS,hM⟩;unfold nv at hM;refine ah hS fun a hS=>?_;rcases cd hM with⟨hC,hM⟩|⟨hC,hM⟩
     ·refine ah hS fun a hS=>?_;refine az ?_;refine dr [(2,.blk (some b)),(8,.blk (some V))] hS fun w hQ hS=>?_;refine dy (l:=[.blk (some b)]) 0 (v:=.agg #[K,.int .i64 B,M,O,P,Q,S]) rfl (by kernel_rfl) (by kernel_rfl) (by kernel_rfl) (by kernel_rfl) hQ hS (dH hS rfl uw 9 rfl (ic hS 9 rfl rfl 0 rfl rfl (by decide) bo) (us:=[K,.int .i64 B,M,O,P,Q,S]) rfl rfl (fun h=>by cases h)) rfl rfl rfl fun a hS=>?_;refine gE [1] hS fun a hS=>?_;obtain⟨g8,h2,hM⟩:=bd hM;refine e1 2 (bS hS lA rfl rfl 0 rfl (bh _ _ (hS.drop 0).dlt (aP.mk W X) 30 _ _ (hS.boxRow 0 rfl) (hS.notin 0 rfl) (aA.lent (i:=0) rfl (hS.get 1 rfl)) _ h2) fun _ w hR hk=>?_);obtain⟨i2,he,hrow,eX⟩:=hR;obtain rfl:=he.symm;refine⟨(aZ g8.2 i2),hrow,fun a hS=>⟨kB rfl hk iC,?_⟩⟩;replace hS:=((((((hS.fS (aA.back (i:=0) rfl eX)).freeze (R:=ay) 3 rfl 5 rfl).freeze (R:=ad) 3 rfl 7 rfl).freeze (R:=aa) 3 rfl 9 rfl).freeze (R:=ac) 3 rfl 11 rfl).freeze (R:=ar) 3 rfl 13 rfl).freeze (R:=ac) 3 rfl 15 rfl;obtain⟨u,h3,hM⟩:=bd hM;refine ec 3 hS JZ (zv _ _ hS.dlt (hS.get 17 rfl) vv K7 (cG.mk Z (ai.mk B a0 a1) a2 a3 a4) g8.1 _ _ _ _ _ _ (hS.get 5 rfl) (hS.get 4 rfl) (hS.get 3 rfl) (hS.get 2 rfl) (hS.get 1 rfl) (hS.get 0 rfl) _ h3) fun _ w hR a hk hA=>?_;obtain⟨n5,n6,nd,ng,nl,nm,he,f2,f3,f4,f6,fd,fl⟩:=hR;obtain rfl:=he.symm;have hS:=hA [] (fun r hr=>by cases hr) List.Pairwise.nil;replace hS:=(((((hS.fS (f2.sub (iB _))).fS (f3.sub (iB _))).fS (f4.sub (iB _))).fS (f6.sub (iB _))).fS (fd.sub (iB _))).fS (fl.sub (iB _));refine gE [4,5,6,7] hS fun a hS=>?_;refine es 8 hS fun w hS=>?_;refine eD ?_;refine ah hS fun a hS=>?_;obtain⟨ll,h4,hM⟩:=bd hM;refine kc hS J0 (wa _ _ hS.dlt (cG.mk u.1.Rules (ai.mk u.1.Base.Revision u.1.Base.Inputs u.1.Base.Records) u.1.Goals u.1.Stack u.1.Ran) _ _ _ _ _ _ (hS.get 5 rfl) (hS.get 4 rfl) (hS.get 3 rfl) (hS.get 2 rfl) (hS.get 1 rfl) (hS.get 0 rfl) _ h4) fun _ w hR a hk hA=>?_;obtain⟨no,kv,np,kx,he,fn,fr,i9⟩:=hR;obtain rfl:=he.symm;have hS:=s7 hA fn fr i9;refine go hS fun a w hS=>?_;replace hS:=(hS.freeze (R:=ad) 0 rfl 1 rfl).freeze (R:=aa) 0 rfl 1 rfl;exact⟨_,_,_,_,_,_,_,_,hS.mt [0,1,2] [17,16,1,0,27],hM⟩
     exact fz
    refine ah hS fun a hS=>?_;rcases cd hM with⟨hD,hM⟩|⟨hD,hM⟩
    ·refine ah hS fun a hS=>?_;obtain⟨c3,h8,hM⟩:=bd hM;refine wl rfl (bS hS lA rfl rfl 0 rfl (bh _ _ (hS.drop 0).dlt (aP.mk m.2.L m.2.At) 3 _ _ (hS.boxRow 0 rfl) (hS.notin 0 rfl) (aA.lent (i:=0) rfl (hS.get 1 rfl)) _ h8) fun _ w hR hk=>?_);obtain⟨i3,he,hrow,fs⟩:=hR;obtain rfl:=he.symm;refine⟨(aZ c3.2 i3),hrow,fun a hS=>?_⟩;replace hS:=hS.fS (aA.back (i:=0) rfl fs);refine ah hS fun a hS=>?_;rcases cd hM with⟨hE,hM⟩|⟨hE,hM⟩
     ·refine ah hS fun a hS=>?_;refine dr [(2,.blk (some b)),(3,.bks []),(8,.blk (some p))] hS fun w hQ hS=>?_;refine dy (l:=[.blk (some b)]) 0 (v:=.agg #[.int .i64 d,n,o]) rfl (by kernel_rfl) (by kernel_rfl) (by kernel_rfl) (by kernel_rfl) hQ hS (dH hS rfl ez 1 rfl (ic hS 1 rfl rfl 0 rfl rfl (by decide) bo) (us:=[.int .i64 d,n,o]) rfl rfl (fun h=>by cases h)) rfl rfl rfl fun a hS=>?_;refine gE [1] hS fun a hS=>?_;obtain⟨gi,h9,hM⟩:=bd hM;refine e1 2 (bS hS lA rfl rfl 0 rfl (bh _ _ (hS.drop 0).dlt (aP.mk c3.2.L c3.2.At) 200 _ _ (hS.boxRow 0 rfl) (hS.notin 0 rfl) (aA.lent (i:=0) rfl (hS.get 0 rfl)) _ h9) fun _ w hR hk=>?_);obtain⟨i4,he,hrow,fM⟩:=hR;obtain rfl:=he.symm;refine⟨(aZ gi.2 i4),hrow,fun a hS=>⟨kB rfl hk iC,?_⟩⟩;replace hS:=(hS.fS (aA.back (i:=0) rfl fM)).fact (aJ ac (.slice none 0 0) []) (aA.nil_ _ _ _);obtain⟨lv,ha,hM⟩:=bd hM;replace hS:=hS.re [] [0,1,2];refine e1 3 (cu hS J1 rfl rfl (wY _ _ hS.dltD (ai.mk d f g) gi.1 ([]) _ _ _ hS.dok (hS.getD 5 rfl) (hS.getD 6 rfl) (hS.getD 0 rfl) (hS.getD 7 rfl) _ ha) fun _ w hR a hk hA=>⟨kB rfl hk t8,?_⟩);obtain⟨o1,l0,o2,l1,o3,l2,he,g0,g1,g2,hF⟩:=hR;obtain rfl:=he.symm;have hS:=hA _ hF;replace hS:=((hS.fR (g0.keep (Kt.refl _ _) (aw _))).fR (g1.keep (Kt.refl _ _) (aw _))).fR (g2.keep (Kt.refl _ _) (aw _));refine gE [4,5,6,7] hS fun a hS=>?_;refine es 8 hS fun w hS=>?_;refine eD ?_;replace hS:=(hS.freeze (R:=ad) 0 rfl 2 rfl).freeze (R:=aa) 0 rfl 2 rfl;exact⟨_,_,_,_,_,_,_,_,hS.mt [1,2,3] [8,6,1,0,12],hM⟩
     exact fz
    refine ah hS fun a hS=>?_;refine dr [(4,.blk (some b)),(10,.blk (some p))] hS fun w hQ hS=>?_;refine gE [0] hS fun a hS=>?_;refine dy (l:=[.blk (some b)]) 1 (v:=.agg #[.int .i64 d,n,o]) rfl (by kernel_rfl) (by kernel_rfl) (by kernel_rfl) (by kernel_rfl) hQ hS (dH hS rfl ez 1 rfl (ic hS 1 rfl rfl 0 rfl rfl (by decide) bo) (us:=[.int .i64 d,n,o]) rfl rfl (fun h=>by cases h)) rfl rfl rfl fun a hS=>?_;refine gE [2,3] hS fun a hS=>?_;obtain⟨gp,hb,hM⟩:=bd hM;refine e1 4 (oT hS Gx rfl rfl 0 rfl (qz _ _ (hS.drop 0).dlt (aP.mk m.2.L m.2.At) e 2 _ _ _ (hS.boxRow 0 rfl) (hS.notin 0 rfl) (aA.lent (i:=0) rfl (hS.get 1 rfl)) (aA.lent (i:=0) rfl (hS.get 0 rfl)) (bv.keep (hS.get 4 rfl) (Kt.refl _ _) (fun k hk=>.inl ((pY (i:=0) rfl k).1 hk))) _ hb) fun _ w hR hk=>?_);obtain⟨cv,bb,i5,he,⟨dn,da,g3⟩,hrow,g4⟩:=hR;obtain rfl:=he.symm;refine⟨(aZ gp.2 i5),[au cv bb],hrow,eA ⟨dn,by decide⟩ da,ro _,fun a hS=>⟨kB rfl hk iC,?_⟩⟩;replace hS:=((hS.fR (g3.keep (Kt.refl _ _) (Nw.back2 (i:=0) rfl [au cv bb] _))).fS (g4.sub (Nw.back2 (i:=0) rfl [au cv bb] _))).freeze (R:=ac) 0 rfl 1 rfl;obtain⟨ly,hc,hM⟩:=bd hM;refine ec 5 hS J2 (uU _ _ hS.dlt (hS.get 7 rfl) uu Lr e (ai.mk d f g) gp.1 _ _ _ _ (hS.get 3 rfl) (hS.get 5 rfl) (hS.get 6 rfl) (hS.get 0 rfl) _ hc) fun _ w hR a hk hA=>?_;obtain⟨of,oi,oj,la,he,g5,g6,g7⟩:=hR;obtain rfl:=he.symm;have hS:=oI hA g7;replace hS:=(hS.fS (g5.sub (iB _))).fS (g6.sub (iB _));refine gE [6,7,8,9] hS fun a hS=>?_;refine es 10 hS fun w hS=>?_;refine eD ?_;exact⟨_,_,_,_,_,_,_,_,hS.mt [1,2,3] [6,4,1,0,10],hM⟩
   rintro a w ⟨bs,bt,ao,av,ax,c5,c9,ca,hS,hM⟩;unfold c7 at hM;exact fz
  refine ah hS fun a hS=>?_;cases hM
  have hr:=hf1 _ rfl;subst hr;have hM:nu d f g z A=some y:=hMo1;exact⟨_,_,_,_,_,_,_,_,hS.mt [1,2,0] [2,3,1,4],hM⟩
 rintro a w ⟨af,ag,ak,bi,bl,a5,a9,ab,hS,hM⟩;unfold nu at hM;refine go hS fun a w hS=>?_;cases hM
 refine aE hS rfl (rC 1 hS) ?_;exact⟨a5,a9,ab,rfl,(aA.up ⟨.inr (List.mem_of_getElem? (i:=2) rfl),trivial⟩ (hS.get 0 rfl)),(aA.up ⟨.inr (List.mem_of_getElem? (i:=2) rfl),trivial⟩ (hS.get 1 rfl)),hS.boxRow 2 rfl,(aA.up ⟨.inr (List.mem_of_getElem? (i:=2) rfl),trivial⟩ (hS.get 2 rfl))⟩
def qd (g:aP) (f:Int):Option (LU×ai×aP):=(o0 g).bind fun c=>(jY (aP.mk c.2.L c.2.At) 4).bind fun d=>(lT (ai.mk 0 ([]) ([])) d.1).bind fun e=>(oZ (aP.mk d.2.L d.2.At) c.1 (ai.mk e.1.Revision e.1.Inputs e.1.Records) f).bind fun b=>some ((c.1,(ai.mk b.1.Revision b.1.Inputs b.1.Records),(aP.mk b.2.L b.2.At)))
theorem zn (T:Nat→Prop) (W0:World) (hT:TW T W0) (d:aP) (e:Int) (O:Value) (b:Nat) (I:W0.heap[b]? = some (.cells (aZ d O).toArray 64 (0,0))) (P:¬ T b) (X:aA (aN.int .i64) (dT T [.box b (aZ d O) 64]) W0 O d.L) (hLv:cU (dT T [.box b (aZ d O) 64]) W0) (y:LU×ai×aP) (hM:qd d e=some y):aW Tryz.prog (fun k=>k=b) 8 [pt b 0,.int .i64 e] W0 (fun v w'=>∃ (Y:Value) (Z:Value) (v5:Value) (p:Value),v = .tuple #[Y,.agg (aQ y.2.1 Z v5).toArray]∧aA ay (dT T [.box b (aZ y.2.2 p) 64]) w' Y y.1∧aA ad (dT T [.box b (aZ y.2.2 p) 64]) w' Z y.2.1.Inputs∧aA aa (dT T [.box b (aZ y.2.2 p) 64]) w' v5 y.2.1.Records∧w'.heap[b]? = some (.cells (aZ y.2.2 p).toArray 64 (0,0))∧aA (aN.int .i64) (dT T [.box b (aZ y.2.2 p) 64]) w' p y.2.2.L):=by
 refine pB (c:=_) Tryz.func8 rfl T 24 Tryz.ntmps8 hT rfl I P fun a hS=>?_;replace hS:=(hS.fact bv hLv).fS X;unfold qd at hM;refine ah hS fun a hS=>?_;refine ka hS l4 fun a1 a3 a w hk hS=>?_;refine ah hS fun a hS=>?_;obtain⟨f,J,hM⟩:=bd hM;refine wl rfl (oT hS JU rfl rfl 1 rfl (ye _ _ (hS.drop 1).dlt d _ _ (hS.boxRow 1 rfl) (hS.notin 1 rfl) (aA.lent (i:=1) rfl (hS.get 0 rfl)) _ J) fun _ w hR hk=>?_);obtain⟨j,l,S,he,⟨t,q,x⟩,hrow,z⟩:=hR;obtain rfl:=he.symm;refine⟨(aZ f.2 S),[bJ j l],hrow,eA ⟨t,by decide⟩ q,ro _,fun a hS=>?_⟩;replace hS:=(hS.fR (x.keep (Kt.refl _ _) (Nw.back2 (i:=1) rfl [bJ j l] _))).fS (z.sub (Nw.back2 (i:=1) rfl [bJ j l] _));refine ah hS fun a hS=>?_;refine qy hS (bj (ps:=[]) hS Fe l4 rfl (us:=[]) trivial (ws:=[.int .i64 0,.slice none 0 0,.slice none 0 0]) rfl) fun a hS=>?_;refine ah hS fun a hS=>?_;obtain⟨g,K,hM⟩:=bd hM;refine wl rfl (oT hS IJ rfl rfl 2 rfl (ri _ _ (hS.drop 2).dlt (aP.mk f.2.L f.2.At) 4 _ _ (hS.boxRow 2 rfl) (hS.notin 2 rfl) (aA.lent (i:=2) rfl (hS.get 0 rfl)) (bv.keep (hS.get 3 rfl) (Kt.refl _ _) (fun k hk=>.inl ((pY (i:=2) rfl k).1 hk))) _ K) fun _ w hR hk=>?_);obtain⟨o,m,U,he,⟨u,s,A⟩,hrow,B⟩:=hR;obtain rfl:=he.symm;refine⟨(aZ g.2 U),[bn o m],hrow,eA ⟨u,by decide⟩ s,ro _,fun a hS=>?_⟩;replace hS:=((((hS.fR (A.keep (Kt.refl _ _) (Nw.back2 (i:=2) rfl [bn o m] _))).fS (B.sub (Nw.back2 (i:=2) rfl [bn o m] _))).fact (aJ ad (.slice none 0 0) []) (aA.nil_ _ _ _)).fact (aJ aa (.slice none 0 0) []) (aA.nil_ _ _ _)).freeze (R:=aj) 0 rfl 3 rfl;obtain⟨n,M,hM⟩:=bd hM;refine kc hS IH (sC _ _ hS.dlt (hS.get 8 rfl) (ai.mk 0 ([]) ([])) g.1 _ _ _ (hS.get 2 rfl) (hS.get 1 rfl) (hS.get 0 rfl) _ M) fun _ w hR a hk hA=>?_;obtain⟨a5,a9,he,C,D⟩:=hR;obtain rfl:=he.symm;have hS:=hA [] (fun r hr=>by cases hr) List.Pairwise.nil;replace hS:=(hS.fS (C.sub (iB _))).fS (D.sub (iB _));refine ah hS fun a hS=>?_;refine ka hS l4 fun a2 a4 a w hk hS=>?_;refine go hS fun a w hS=>?_;replace hS:=hS.freeze (R:=ay) 1 rfl 8 rfl;obtain⟨Q,N,hM⟩:=bd hM;refine wl rfl (bS hS JV rfl rfl 2 rfl (yc _ _ (hS.drop 2).dlt (aP.mk g.2.L g.2.At) f.1 (ai.mk n.1.Revision n.1.Inputs n.1.Records) e _ _ _ _ _ (hS.boxRow 2 rfl) (hS.notin 2 rfl) (aA.lent (i:=2) rfl (hS.get 6 rfl)) (aA.lent (i:=2) rfl (hS.get 0 rfl)) (aA.lent (i:=2) rfl (hS.get 2 rfl)) (aA.lent (i:=2) rfl (hS.get 1 rfl)) (bv.keep (hS.get 11 rfl) (Kt.refl _ _) (fun k hk=>.inl ((pY (i:=2) rfl k).1 hk))) _ N) fun _ w hR hk=>?_);obtain⟨V,W,H,he,E,F,hrow,G⟩:=hR;obtain rfl:=he.symm;refine⟨(aZ Q.2 H),hrow,fun a hS=>?_⟩;replace hS:=((hS.fS (aA.back (i:=2) rfl E)).fS (aA.back (i:=2) rfl F)).fS (aA.back (i:=2) rfl G);refine go hS fun a w hS=>?_;cases hM
 refine aE hS Tryz.results8 (ap hS rfl (a7 hS rfl 1 rfl ez rfl (fun h=>by cases h) aD)) ?_;exact⟨j,V,W,H,rfl,(aA.up ⟨.inr (List.mem_of_getElem? (i:=2) rfl),trivial⟩ (hS.get 3 rfl)),(aA.up ⟨.inr (List.mem_of_getElem? (i:=2) rfl),trivial⟩ (hS.get 2 rfl)),(aA.up ⟨.inr (List.mem_of_getElem? (i:=2) rfl),trivial⟩ (hS.get 1 rfl)),hS.boxRow 2 rfl,(aA.up ⟨.inr (List.mem_of_getElem? (i:=2) rfl),trivial⟩ (hS.get 0 rfl))⟩
end
end
section
open Go.RowKit
open Go.Lib hiding intOf
structure yJ (c:aq):Prop where
  key:∃ n,n < 10∧c.Key=bg n
  value:c.Value.size≤1000
theorem qR.le {rev rev':Int} {x:aI} (h:qR rev x) (hl:rev≤rev'):qR rev' x:=⟨h.key,h.value,h.low,by have:=h.high; omega⟩
section
variable {l:List aK} {b:ai}
theorem qL.le {rev rev':Int} {r:an} (h:qL l rev r) (hl:rev≤rev'):qL l rev' r:=⟨h.key,h.value,h.reads,h.good,h.low,h.mid,by have:=h.high; omega,h.cost,h.dirty⟩
theorem iu.rise (h:iu l b) (hr:b.Revision + 1≤1000000) {ins:List aI} (h1:pn ins) (h2:∀ x ∈ ins,qR (b.Revision + 1) x):iu l (ai.mk (b.Revision + 1) ins b.Records) :=
  ⟨⟨by have:=h.rev; show 0≤b.Revision + 1; omega,hr⟩,h2,h1,fun r hm=>(h.recs r hm).le (by show b.Revision≤b.Revision + 1; omega),h.recsA⟩
theorem Bh {ins:List aI} {rev:Int} (h:∀ x ∈ ins,qR rev x) {x:aI} (hx:qR rev x):∀ y ∈ pF ins x,qR rev y:=fun y hy=>by
  rcases tu.1 hy with rfl | ⟨hy,_⟩
  · exact hx
  · exact h y hy
theorem u4 {ins:List aI} (h1:pn ins) {rev:Int} (h2:∀ x ∈ ins,qR rev x):ins.length≤10:=by
  have h3:=m4 (ue (f:=aI.Key) h1) (m:=(List.range 10).map bg) fun k hk=>by
    obtain⟨r,hr,rfl⟩:=List.mem_map.1 hk
    obtain⟨n,hn,e⟩:=(h2 r hr).key
    exact List.mem_map.2 ⟨n,List.mem_range.2 hn,e.symm⟩
  simpa using h3
theorem vg (hR:bz l) (h:iu l b) (hr:b.Revision + 1≤1000000) {cs:List aq} (hc:∀ c ∈ cs,yJ c) (hn:cs.length≤32):Ok (lT b cs) fun y=>iu l y.1∧y.1.Revision≤b.Revision + 1:=by
  have hl:=hR.high
  have hcp:=sK (h.rm hl).1 (h.rm hl).2.1
  have hrev:=h.rev
  have hw:IntKind.i64.wrap (b.Revision + 1)=b.Revision + 1:=pm (by omega) (by omega)
  unfold lT
  refine Ok.eq hcp (Ok.eq (yx h hl) ?_)
  rw [decide_eq_false (by omega)]
  simp only [Bool.not_true,cond_false]
  refine Ok.eq (eF (r:=Fl.go ()) cs.length (fun k hk=>?_) ?_) ?_
  · obtain⟨n,hn,e⟩:=(hc _ (List.getElem_mem hk)).key
    unfold iJ
    rw [dlt hk,cond_true,bB hk,Option.bind_some,e,sI (by omega),Option.bind_some]
    simp only [Bool.not_true,cond_false]
    rw [oK,Option.bind_some,cB (by omega)]; rfl
  · unfold iJ
    rw [bA]; rfl
  show Ok (iH cs b) _
  unfold iH
  refine Ok.eq (eF (r:=Fl.go ()) cs.length (fun k hk=>?_) ?_) ?_
  · have:=(hc _ (List.getElem_mem hk)).value
    unfold iI
    rw [dlt hk,cond_true,bB hk,Option.bind_some,decide_eq_false (by omega),cB (by omega)]; rfl
  · unfold iI
    rw [bA]; rfl
  show Ok (iG cs b) _
  unfold iG
  refine Ok.eq hcp ?_
  refine Ok.loop (fun (k:Nat) (s:Bool×Int×List aI)=>s.2.1=k∧pn s.2.2∧(∀ x ∈ s.2.2,qR (b.Revision + 1) x)∧k≤cs.length) (fun r=>pn r.2∧∀ x ∈ r.2,qR (b.Revision + 1) x) cs.length ⟨rfl,h.insA,fun x hx=>(h.ins x hx).le (by omega),Nat.zero_le _⟩ ?_ ?_
  · rintro k ⟨ch,g,ins⟩ hk ⟨rfl,h1,h2,_⟩
    dsimp only at h1 h2 ⊢
    unfold lj
    refine Ok.cond (fun hlt=>?_) (fun _=>Ok.ret ⟨h1,h2⟩)
    have hlt:k < cs.length:=by have:=of_decide_eq_true hlt; omega
    have hcO:=hc _ (List.getElem_mem hlt)
    refine Ok.eq (bB hlt) ?_
    generalize cs[k]=c at hcO
    rw [cB (by omega)]
    refine Ok.eq (r9 (by omega)) ?_
    have hd:(cs.drop (k + 1)).length≤32:=by rw [List.length_drop]; omega
    have hj2:∀ ch' ins',pn ins'→(∀ x ∈ ins',qR (b.Revision + 1) x)→Ok (gS (k:Int) ch' ins') fun y=>match y with
        | .go s=>k < cs.length∧(s.2.1=((k + 1:Nat):Int)∧pn s.2.2∧(∀ x ∈ s.2.2,qR (b.Revision + 1) x)∧k + 1≤cs.length)
        | .out r=>pn r.2∧∀ x ∈ r.2,qR (b.Revision + 1) x:=fun ch' ins' q1 q2=>Ok.ret ⟨hlt,cB (by omega),q1,q2,hlt⟩
    refine Ok.loop (fun (i:Nat) (s:Bool×Int)=>s.2=i∧i≤(cs.drop (k + 1)).length) (fun _=>True) (cs.drop (k + 1)).length ⟨rfl,Nat.zero_le _⟩ ?_ ?_
    · rintro i ⟨la,q⟩ hi ⟨rfl,_⟩
      dsimp only
      unfold li
      refine Ok.cond (fun hlt2=>?_) (fun _=>Ok.ret trivial)
      have hlt2:i < (cs.drop (k + 1)).length:=by have:=of_decide_eq_true hlt2; omega
      refine Ok.eq (bB hlt2) (Ok.cond (fun _=>Ok.ret ⟨hlt2,cB (by omega),hlt2⟩) (fun _=>Ok.ret ⟨hlt2,cB (by omega),hlt2⟩))
    · intro la _
      unfold mz
      refine Ok.cond (fun _=>(hj2 _ _ h1 h2).mono fun y hy=>by cases y <;> exact hy) (fun _=>Ok.eq (A7 (h.rm hl).2.1 _) (Ok.cond (fun _=>(hj2 _ _ h1 h2).mono fun y hy=>by cases y <;> exact hy) (fun _=>?_)))
      have hil:=u4 h1 h2
      have hput:=B8 (r:=aI.mk c.Key c.Value (b.Revision + 1)) h1 (by unfold Rm; omega) (u:=b) hw (k:Int)
      have hput2:((loop (fun s:(List aI)×Bool×Int=>fE b ins c s.1 s.2.1 s.2.2) (([]:List aI),false,0)).bind fun q=>ek b (k:Int) c q.1 q.2)=ej (k:Int) (pF ins (aI.mk c.Key c.Value (b.Revision + 1))):=hput
      rw [hput2]
      unfold ej
      exact (hj2 _ _ (zt h1 _) (Bh h2 ⟨hcO.key,hcO.value,by show 0≤b.Revision + 1; omega,Int.le_refl _⟩)).mono fun y hy=>by cases y <;> exact hy
  · rintro⟨ch,ins⟩ ⟨h1,h2⟩
    dsimp only at h1 h2 ⊢
    have hil:=u4 h1 h2
    unfold jF
    rw [hw]
    refine Ok.cond (fun _=>Ok.ret ⟨h,by show b.Revision≤b.Revision + 1; omega⟩) (fun _=>?_)
    rw [decide_eq_false (by omega),decide_eq_false (by omega)]
    exact Ok.ret ⟨h.rise hr h1 h2,Int.le_refl _⟩
theorem BH {d:List Int} {i:Int} (hd:bM d i):Ok (nK ⟨d,i⟩) fun y=>yJ y.1∧bM y.2.L y.2.At:=by
  unfold nK
  refine Ok.bind (cP hd (by omega) (by omega)) fun y ⟨y1,y2,d1⟩=>?_
  obtain⟨c,hc⟩:∃ c:Nat,y.1=c:=⟨y.1.toNat,by omega⟩
  rw [hc]
  refine Ok.eq (m7 (by omega)) (Ok.bind (Bt d1 (by simp) (by simp)) fun w ⟨w1,d2⟩=>Ok.ret ⟨⟨⟨c,by omega,rfl⟩,?_⟩,d2⟩)
  have:∀ s ∈ [(ByteArray.mk #[48]),(ByteArray.mk #[49]),(ByteArray.mk #[50]),(ByteArray.mk #[51]),(ByteArray.mk #[55]),(ByteArray.mk #[49,48,48]),(ByteArray.mk #[]),(ByteArray.mk #[120]),(ByteArray.mk #[49,54]),(ByteArray.mk #[49])],s.size≤1000:=by decide
  exact this _ w1
theorem vp {d:List Int} {i:Int} (hd:bM d i) {most:Int} (h1:0≤most) (h2:most≤30):Ok (jY ⟨d,i⟩ most) fun y=>(∀ c ∈ y.1,yJ c)∧(y.1.length:Int)≤most∧bM y.2.L y.2.At:=by
  unfold jY
  rw [pm (by omega) (by omega)]
  refine Ok.bind (cP hd (by omega) (by omega)) fun y ⟨y1,y2,d1⟩=>?_
  refine Ok.loop (fun (k:Nat) (s:(List aq)×Int×(List Int)×Int)=>(∀ q ∈ s.1,yJ q)∧s.1.length=k∧s.2.1=y.1 - k∧0≤s.2.1∧bM s.2.2.1 s.2.2.2) (fun r=>(∀ q ∈ r.1,yJ q)∧(r.1.length:Int)≤most∧bM r.2.1 r.2.2) 31 ⟨fun q hq=>absurd hq List.not_mem_nil,rfl,by simp,y1,d1⟩ ?_ (fun r hr=>Ok.ret hr)
  rintro k ⟨gs,c,d,i⟩ hk ⟨g1,g2,g3,g3',g4⟩
  dsimp only at g1 g2 g3 g3' g4 ⊢
  unfold ld
  refine Ok.cond (fun hc=>?_) (fun _=>Ok.ret ⟨g1,by show (gs.length:Int)≤most; omega,g4⟩)
  have hc:=of_decide_eq_true hc
  have hw:IntKind.i64.wrap (c - 1)=c - 1:=pm (by omega) (by omega)
  refine Ok.bind (BH g4) fun z ⟨z1,z2⟩=>Ok.gd (dv (by simp; omega)) (Ok.ret ⟨by omega,?_,by rw [List.length_append,g2]; rfl,?_,?_,z2⟩)
  · intro q hq
    rcases List.mem_append.1 hq with hq | hq
    · exact g1 q hq
    · rw [List.mem_singleton.1 hq]; exact z1
  · show IntKind.i64.wrap (c - 1)=_
    rw [hw]; omega
  · show 0≤IntKind.i64.wrap (c - 1)
    rw [hw]; omega
theorem BE (x y:an):Ok (mI x y) fun _=>True:=by
  unfold mI m9
  refine Ok.eq rfl (Ok.eq rfl (Ok.cond (fun _=>Ok.ret trivial) (fun _=>Ok.cond (fun _=>Ok.ret trivial) (fun _=>Ok.eq (nh _ _) (Ok.ret trivial)))))
theorem Dp {recs:List an} (h:recs.length≤1000):Ok (nW recs) fun o=>o.length≤recs.length:=by
  unfold nW
  refine Ok.loop (fun (k:Nat) (s:List an×Int)=>s.2=k∧s.1.length=k∧k≤recs.length) (fun o=>o.length≤recs.length) recs.length ⟨rfl,rfl,Nat.zero_le _⟩ ?_ (fun o ho=>Ok.ret ho)
  rintro k ⟨out,g⟩ hk ⟨rfl,hlen,_⟩
  dsimp only at hlen ⊢
  unfold mM
  refine Ok.cond (fun hlt=>?_) (fun _=>Ok.ret (by show out.length≤_; omega))
  have hlt:k < recs.length:=by have:=of_decide_eq_true hlt; omega
  refine Ok.eq (bB hlt) ?_
  refine Ok.loop (fun (i:Nat) (s:Int)=>s=i∧i≤out.length) (fun r=>∃ i:Nat,r=i∧i≤out.length) out.length ⟨rfl,Nat.zero_le _⟩ ?_ ?_
  · rintro i _ hi ⟨rfl,_⟩
    unfold mL
    refine Ok.cond (fun hlt2=>?_) (fun _=>Ok.ret ⟨i,rfl,hi⟩)
    have hlt2:i < out.length:=by have:=of_decide_eq_true hlt2; omega
    refine Ok.eq (bB hlt2) (Ok.bind (BE _ _) fun y _=>Ok.cond (fun _=>Ok.ret ⟨hlt2,cB (by omega),hlt2⟩) (fun _=>Ok.ret ⟨i,rfl,hi⟩))
  · rintro _ ⟨i,rfl,hi⟩
    unfold mK mJ
    refine Ok.eq (ql hi) (Ok.eq (r9 hi) ?_)
    have e1:(out.take i).length=i:=by rw [List.length_take]; omega
    have e2:(out.drop i).length=out.length - i:=List.length_drop
    refine Ok.gd (dv (by simp; omega)) (Ok.gd (dv (by simp; omega)) (Ok.gd (dv (by simp; omega)) (Ok.ret ⟨hlt,cB (by omega),?_,hlt⟩)))
    simp only [List.nil_append,List.length_append,List.length_cons,List.length_nil]
    omega
theorem DV {recs:List an} (h:recs.length≤1000):Ok (nV recs) fun _=>True:=by
  unfold nV
  refine Ok.loop (fun (k:Nat) (s:Int×Int)=>s.2=k∧k≤recs.length) (fun _=>True) recs.length ⟨rfl,Nat.zero_le _⟩ ?_ (fun r _=>Ok.ret trivial)
  rintro k ⟨n,g⟩ hk ⟨rfl,_⟩
  dsimp only
  unfold mH
  refine Ok.cond (fun hlt=>?_) (fun _=>Ok.ret trivial)
  have hlt:k < recs.length:=by have:=of_decide_eq_true hlt; omega
  exact Ok.eq (bB hlt) (Ok.eq rfl (Ok.ret ⟨hlt,cB (by omega),hlt⟩))
theorem CT (hR:bz l) (h:iu l b) {budget:Int} (h1:0≤budget) (h2:budget≤1000):Ok (nU b budget []) fun y=>sH l b y.1:=by
  have hl:=hR.high
  have hnr:=h.nrec
  unfold nU
  refine Ok.eq (yx h hl) ?_
  rw [decide_eq_false (by omega),decide_eq_false (by omega)]
  simp only [Bool.not_true,cond_false]
  refine Ok.eq (sK (h.rm hl).1 (h.rm hl).2.1) (Ok.bind (Dp (by omega)) fun o ho=>?_)
  refine Ok.loop (fun (k:Nat) (s:List ae×Int×List an)=>s.2.1=k∧k≤o.length∧s.1.length≤k∧iu l (ai.mk b.Revision b.Inputs s.2.2)) (fun r=>iu l (ai.mk b.Revision b.Inputs r.2)) o.length ⟨rfl,Nat.zero_le _,Nat.zero_le _,h⟩ ?_ (fun r hr=>Ok.ret ⟨hr,rfl,rfl⟩)
  rintro k ⟨gone,g,recs⟩ hk ⟨rfl,_,hg,hb⟩
  dsimp only at hg hb ⊢
  have hrl:recs.length≤l.length:=hb.nrec
  unfold mG
  refine Ok.cond (fun hlt=>?_) (fun _=>Ok.ret hb)
  have hlt:k < o.length:=by have:=of_decide_eq_true hlt; omega
  refine Ok.eq (bB hlt) (Ok.bind (DV (by omega)) fun t _=>?_)
  have hj3:∀ q,Ok (gW gone (k:Int) recs o[k] q) fun y=>match y with
      | .go s=>k < o.length∧(s.2.1=((k + 1:Nat):Int)∧k + 1≤o.length∧s.1.length≤k + 1∧iu l (ai.mk b.Revision b.Inputs s.2.2))
      | .out r=>iu l (ai.mk b.Revision b.Inputs r.2):=fun q=>by
    unfold gW jR
    refine Ok.cond (fun _=>Ok.eq (we (by unfold Rm; omega) _) (Ok.gd (dv (by simp; omega)) (Ok.ret ⟨hlt,cB (by omega),hlt,by rw [List.length_append]; simp; omega,hb.filter _⟩))) (fun _=>Ok.ret ⟨hlt,cB (by omega),hlt,by show gone.length≤k + 1; omega,hb⟩)
  exact Ok.cond (fun _=>Ok.eq (un (by unfold Rm; simp) _) ((hj3 _).mono fun y hy=>by cases y <;> exact hy)) (fun _=>(hj3 _).mono fun y hy=>by cases y <;> exact hy)
theorem Db (hR:bz l) (h:iu l b) {d:List Int} {i:Int} (hd:bM d i) {most:Int} (h1:0≤most) (h2:most≤1000) (h3:b.Revision≤1000):Ok (oZ ⟨d,i⟩ l b most) fun y=>iu l y.1∧y.1.Revision≤b.Revision + most∧bM y.2.L y.2.At:=by
  unfold oZ
  rw [pm (by omega) (by omega)]
  refine Ok.bind (cP hd (by omega) (by omega)) fun y ⟨y1,y2,d1⟩=>?_
  refine Ok.loop (fun (k:Nat) (s:Int×(List Int)×Int×Int×(List aI)×(List an))=>s.1=y.1 - k∧0≤s.1∧bM s.2.1 s.2.2.1∧iu l (ai.mk s.2.2.2.1 s.2.2.2.2.1 s.2.2.2.2.2)∧s.2.2.2.1≤b.Revision + k) (fun r=>iu l (ai.mk r.1 r.2.1 r.2.2.1)∧r.1≤b.Revision + most∧bM r.2.2.2.1 r.2.2.2.2) 2000 ⟨by simp,y1,d1,h,by show b.Revision≤_; simp⟩ ?_ (fun r hr=>Ok.ret hr)
  rintro k ⟨c,d,i,rev,ins,recs⟩ hk ⟨g1,g2,g3,g4,g5⟩
  dsimp only at g1 g2 g3 g4 g5 ⊢
  unfold nw
  refine Ok.cond (fun hc=>?_) (fun _=>Ok.ret ⟨g4,by show rev≤_; omega,g3⟩)
  have hc:=of_decide_eq_true hc
  have hw:IntKind.i64.wrap (c - 1)=c - 1:=pm (by omega) (by omega)
  have hj2:∀ {d i rev' ins' recs'},bM d i→iu l (ai.mk rev' ins' recs')→rev'≤rev + 1→Ok (c7 c d i rev' ins' recs') fun y'=>match y' with
      | .go s=>k < 2000∧(s.1=y.1 - ((k + 1:Nat):Int)∧0≤s.1∧bM s.2.1 s.2.2.1∧iu l (ai.mk s.2.2.2.1 s.2.2.2.2.1 s.2.2.2.2.2)∧s.2.2.2.1≤b.Revision + ((k + 1:Nat):Int))
      | .out r=>iu l (ai.mk r.1 r.2.1 r.2.2.1)∧r.1≤b.Revision + most∧bM r.2.2.2.1 r.2.2.2.2:=by
    intro d i rev' ins' recs' q1 q2 q3
    unfold c7
    rw [hw]
    exact Ok.ret ⟨by omega,by show c - 1=_; omega,by show 0≤c - 1; omega,q1,q2,by show rev'≤_; omega⟩
  have hL:∀ {d i} {b':ai},bM d i→sH l (ai.mk rev ins recs) b'→Ok (c7 c d i b'.Revision b'.Inputs b'.Records) fun y'=>match y' with
      | .go s=>k < 2000∧(s.1=y.1 - ((k + 1:Nat):Int)∧0≤s.1∧bM s.2.1 s.2.2.1∧iu l (ai.mk s.2.2.2.1 s.2.2.2.2.1 s.2.2.2.2.2)∧s.2.2.2.1≤b.Revision + ((k + 1:Nat):Int))
      | .out r=>iu l (ai.mk r.1 r.2.1 r.2.2.1)∧r.1≤b.Revision + most∧bM r.2.2.2.1 r.2.2.2.2:=fun q1 q2=>hj2 q1 q2.ok (by have:=q2.rev; rw [this]; show rev≤rev + 1; omega)
  refine Ok.bind (cP g3 (by omega) (by omega)) fun w ⟨w1,w2,d2⟩=>?_
  have hj4:∀ q,Ok (gq l c rev ins recs w q) fun y'=>match y' with
      | .go s=>k < 2000∧(s.1=y.1 - ((k + 1:Nat):Int)∧0≤s.1∧bM s.2.1 s.2.2.1∧iu l (ai.mk s.2.2.2.1 s.2.2.2.2.1 s.2.2.2.2.2)∧s.2.2.2.1≤b.Revision + ((k + 1:Nat):Int))
      | .out r=>iu l (ai.mk r.1 r.2.1 r.2.2.1)∧r.1≤b.Revision + most∧bM r.2.2.2.1 r.2.2.2.2:=fun q=>by
    unfold gq
    refine Ok.cond (fun _=>?_) (fun _=>Ok.cond (fun _=>?_) (fun _=>Ok.cond (fun _=>?_) (fun _=>?_)))
    · refine Ok.bind (vp d2 (by omega) (by omega)) fun z ⟨z1,z2,d3⟩=>Ok.bind (vg hR g4 (by show rev + 1≤1000000; omega) z1 (by omega)) fun u ⟨u1,u2⟩=>hj2 d3 u1 u2
    · refine Ok.bind (y0 hR d2 (by omega) (by omega)) fun z ⟨z1,z2,d3⟩=>?_
      obtain⟨t,ht,ht2,ht3⟩:=DR hR g4 z1 z2
      refine Ok.eq ht ?_
      unfold nv
      simp only [show ((0:Int) == 0)=true from rfl,cond_true]
      refine Ok.bind (cP d3 (by omega) (by omega)) fun u ⟨u1,u2,d4⟩=>Ok.bind (DI hR g4 ht2 ht3 (by omega)) fun t2 ht4=>Ok.bind (BF hR ht4 (by omega)) fun b2 hb2=>hL d4 hb2
    · refine Ok.bind (cP d2 (by omega) (by omega)) fun z ⟨z1,z2,d3⟩=>Ok.cond (fun _=>?_) (fun _=>hL d3 ⟨g4,rfl,rfl⟩)
      exact Ok.bind (cP d3 (by omega) (by omega)) fun u ⟨u1,u2,d4⟩=>Ok.bind (CT hR g4 u1 (by omega)) fun v hv=>hL d4 hv
    · exact Ok.bind (y0 hR d2 (by omega) (by omega)) fun z ⟨z1,z2,d3⟩=>Ok.bind (Ax hR g4 z1 z2) fun u hu=>hL d3 hu
  exact Ok.cond (fun _=>(hj4 _).mono fun y hy=>by cases y <;> exact hy) (fun _=>Ok.cond (fun _=>(hj4 _).mono fun y hy=>by cases y <;> exact hy) (fun _=>(hj4 _).mono fun y hy=>by cases y <;> exact hy))
end
theorem El {d:List Int} {i:Int} (hd:bM d i) {most:Int} (h1:0≤most) (h2:most≤900):Ok (qd ⟨d,i⟩ most) fun y=>bz y.1∧iu y.1 y.2.1∧y.2.1.Revision≤most + 1∧bM y.2.2.L y.2.2.At:=by
  unfold qd
  refine Ok.bind (DH hd) fun y ⟨hR,d1⟩=>Ok.bind (vp d1 (by omega) (by omega)) fun z ⟨z1,z2,d2⟩=>?_
  have h0:iu y.1 (ai.mk 0 [] []):=⟨⟨by show (0:Int)≤0; omega,by show (0:Int)≤1000000; omega⟩,fun x hx=>absurd hx List.not_mem_nil,List.Pairwise.nil,fun x hx=>absurd hx List.not_mem_nil,List.Pairwise.nil⟩
  refine Ok.bind (vg hR h0 (by show (0:Int) + 1≤1000000; omega) z1 (by omega)) fun u ⟨u1,u2⟩=>?_
  have u2:u.1.Revision≤0 + 1:=u2
  exact Ok.bind (Db hR u1 d2 h1 (by omega) (by omega)) fun v ⟨v1,v2,d3⟩=>Ok.ret ⟨hR,v1,by show v.1.Revision≤most + 1; omega,d3⟩
end
section
open Go.RowKit
open Go.Lib hiding intOf
theorem BJ {s:List ae} (h:Rm s.length):lM s=some s:=by
  unfold lM Rm at *
  rw [show br (([]:List ae).length + s.length)=true from dv (by simp; omega)]; rfl
theorem BK {s:List an} (h:Rm s.length):ma s=some s:=by
  unfold ma Rm at *
  rw [show br (([]:List an).length + s.length)=true from dv (by simp; omega)]; rfl
theorem HE {r:an} (h:Rm r.Reads.length):o6 r=some r:=by
  unfold o6
  rw [BJ h]; rfl
theorem EA {l:List an} (h:Ea l):nL l=some l:=by
  unfold nL
  rw [BK h.1,Option.bind_some]
  refine d7 (bT (xs:=l) (fun k=>(l,(k:Int))) rfl (r:=l) (fun k x hx=>?_) ?_) rfl
  · unfold jv
    dsimp only
    rw [eJ hx,cond_true,aU,hx,Option.bind_some,HE (h.2 x (List.mem_of_getElem? hx)),cB (by have:=aY hx; have:=h.1; unfold Rm at this; omega)]
    simp only [Option.bind_some,Int.toNat_natCast]
    rw [DN hx]
  · unfold jv
    dsimp only
    rw [bA]; rfl
theorem BZ (k:ae):oX k=some (oO k):=by
  unfold oX mj mn oO iQ iD dB jg
  have hb:∀ n:Int,((k.Kind:Int) == n)=decide (k.Kind=n):=fun n=>by rw [Bool.eq_iff_iff]; simp
  rw [hb,hb,hb,hb,hb]
  by_cases h32:k.Kind=32
  · simp [h32]
  · by_cases h7:k.Kind=7
    · simp [h7]
    · by_cases h14:k.Kind=14
      · simp [h14]
      · by_cases h17:k.Kind=17
        · simp [h17]
        · by_cases h18:k.Kind=18
          · simp [h18]
          · simp only [h32,h7,h14,h17,h18,decide_false,Bool.or_false,cond_false]
            cases decide ((1:Int)≤k.Kind) <;> cases decide ((k.Kind:Int)≤22) <;> rfl
section
variable {l:List aK} {b:ai}
theorem CX {ins:List aI} (hl:Rm ins.length) (k:ae):bP (fun x0=>cO x0 k) ins=some (if ins.findIdx (fun x=>cS x.Key k) < ins.length then (ins.findIdx (fun x=>cS x.Key k):Int) else -1):=by
  unfold Rm at hl
  unfold bP
  have hgo:∀ (i:Nat) (x:aI),ins[i]? = some x→cS x.Key k=false→aO ins (fun x0=>cO x0 k) (i:Int)=some (.go ((i + 1:Nat):Int)):=fun i x hx hp=>by
    unfold aO
    rw [eJ hx,cond_true,aU,hx,Option.bind_some,cB (by have:=aY hx; omega)]
    show (some (cS x.Key k)).bind _=_
    rw [hp]; rfl
  have hy:∀ (i:Nat) (x:aI),ins[i]? = some x→cS x.Key k=true→aO ins (fun x0=>cO x0 k) (i:Int)=some (.out (.out (i:Int))):=fun i x hx hp=>by
    unfold aO
    rw [eJ hx,cond_true,aU,hx,Option.bind_some]
    show (some (cS x.Key k)).bind _=_
    rw [hp]; rfl
  have hn:aO ins (fun x0=>cO x0 k) (ins.length:Int)=some (.out (.go ())):=by
    unfold aO
    rw [bA]; rfl
  have hlow:∀ i,i < ins.findIdx (fun x=>cS x.Key k)→∀ x,ins[i]? = some x→cS x.Key k=false:=fun i hi x hx=>by
    have h1:=List.not_of_lt_findIdx hi
    obtain⟨h2,h3⟩:=List.getElem?_eq_some_iff.1 hx
    rw [← h3]
    simpa using h1
  have hat:∀ x,ins[ins.findIdx (fun x=>cS x.Key k)]? = some x→cS x.Key k=true:=fun x hx=>by
    obtain⟨h2,h3⟩:=List.getElem?_eq_some_iff.1 hx
    rw [← h3]
    exact List.findIdx_getElem (p:=fun x:aI=>cS x.Key k) (w:=h2)
  generalize ins.findIdx (fun x=>cS x.Key k)=j at hlow hat
  by_cases h:j < ins.length
  · rw [if_pos h]
    have e:=List.getElem?_eq_getElem h
    have hlp:=rY (B:=fun s:Int=>aO ins (fun x0=>cO x0 k) s) (fun i=>(i:Int)) j (s0:=0) rfl (r:=Fl.out (j:Int)) (fun i hi=>hgo i _ (List.getElem?_eq_getElem (show i < ins.length by omega)) (hlow i hi _ (List.getElem?_eq_getElem (show i < ins.length by omega)))) (hy j _ e (hat _ e))
    rw [hlp]; rfl
  · rw [if_neg h]
    have hlp:=rY (B:=fun s:Int=>aO ins (fun x0=>cO x0 k) s) (fun i=>(i:Int)) ins.length (s0:=0) rfl (r:=Fl.go ()) (fun i hi=>hgo i _ (List.getElem?_eq_getElem hi) (hlow i (by omega) _ (List.getElem?_eq_getElem hi))) hn
    rw [hlp]; rfl
theorem AA (hb:Rm b.Inputs.length) (k:ae):Ok (k6 b k) fun x=>x.Value=(gn b k).Value∧x.Changed=(gn b k).Changed:=by
  unfold k6
  refine Ok.eq (CX hb k) ?_
  unfold gn
  by_cases h:b.Inputs.findIdx (fun x=>cS x.Key k) < b.Inputs.length
  · have e:=List.getElem?_eq_getElem h
    rw [if_pos h,decide_eq_false (by omega),cond_false]
    refine Ok.eq (by rw [aU]; exact e) (Ok.ret ?_)
    rw [List.find?_eq_getElem?_findIdx,e]
    exact⟨rfl,rfl⟩
  · rw [if_neg h,show decide ((-1:Int) < 0)=true from rfl,cond_true,List.find?_eq_getElem?_findIdx,List.getElem?_eq_none (by omega)]
    exact Ok.ret ⟨rfl,rfl⟩
theorem DB (hb:Rm b.Inputs.length) (k:ae):mN b k=some (gn b k).Value:=by
  unfold mN
  obtain⟨x,e,h,_⟩:=AA hb k
  rw [e,Option.bind_some,h]
theorem E9 {f:ae→Option Bool} {s:List ae} (hl:Rm s.length) (h:∀ x ∈ s,f x=some false):kF f s=some false:=by
  unfold Rm at hl
  have e:oQ f s=some (-1):=by
    unfold oQ
    refine d7 (eF (r:=Fl.go ()) s.length (fun k hk=>?_) ?_) rfl
    · unfold kI
      rw [dlt hk,cond_true,bB hk,Option.bind_some,h _ (List.getElem_mem hk),cB (by omega)]; rfl
    · unfold kI
      rw [bA]; rfl
  unfold kF
  rw [e]; rfl
theorem Fa {f:an→Option Bool} {s:List an} (hl:Rm s.length) (h:∀ x ∈ s,f x=some false):bC f s=some false:=by
  unfold Rm at hl
  have e:kJ f s=some (-1):=by
    unfold kJ
    refine d7 (eF (r:=Fl.go ()) s.length (fun k hk=>?_) ?_) rfl
    · unfold gH
      rw [dlt hk,cond_true,bB hk,Option.bind_some,h _ (List.getElem_mem hk),cB (by omega)]; rfl
    · unfold gH
      rw [bA]; rfl
  unfold bC
  rw [e]; rfl
theorem Dk {f:aq→Option Bool} {s:List aq} (hl:Rm s.length) (h:∀ x ∈ s,f x=some false):bm f s=some false:=by
  unfold Rm at hl
  have e:bK f s=some (-1):=by
    unfold bK
    refine d7 (eF (r:=Fl.go ()) s.length (fun k hk=>?_) ?_) rfl
    · unfold bD
      rw [dlt hk,cond_true,bB hk,Option.bind_some,h _ (List.getElem_mem hk),cB (by omega)]; rfl
    · unfold bD
      rw [bA]; rfl
  unfold bm
  rw [e]; rfl
theorem xB {n:Nat} (h:n < 100):fh (rk l n)=some true:=by
  unfold rk
  exact DZ (by split <;> simp) h
theorem uA {n:Nat} (h:n < 100):fh (bg n)=some true:=zb h
theorem C7 (k:ae):mZ k=ce k:=rfl
theorem mR.kvalid (hl:l.length≤8) {k:ae} (h:mR l k):fh k=some true:=by
  rcases h with⟨c,hc,rfl⟩|⟨n,hn,rfl⟩
  · exact uA (by omega)
  · exact xB (by omega)
theorem Dx (hl:l.length≤8) {rev:Int} (hrev:rev≤1000000) {r:an} (h:qL l rev r):mo r=some true:=by
  obtain⟨n,hn,hk⟩:=h.key
  have h3:=h.reads
  have h4:=h.value
  have h5:=h.low
  have h6:=h.mid
  have h7:=h.high
  have h8:=h.cost
  have hj:cN r false=some true:=by
    unfold cN
    rw [cond_false,decide_eq_true (by omega),decide_eq_true (by omega),decide_eq_true (by omega),decide_eq_true (by omega),decide_eq_true (by omega)]
    simp only [cond_true]
    rw [E9 (by unfold Rm; omega) fun x hx=>by unfold jw; rw [(h.good x hx).kvalid hl]; rfl]; rfl
  unfold mo
  rw [hk,xB (by omega),Option.bind_some,C7,tK,Option.bind_some,decide_eq_false (by omega),decide_eq_false (by omega)]
  simp only [Bool.not_true,cond_false]
  cases hd:r.Dirty with
  | false=>exact hj
  | true =>
    have:=h.dirty hd
    rw [hk] at this
    rw [cond_true,BZ,this]
    exact hj
theorem HI (h:iu l b) (hl:l.length≤8):gP b.Records=some true:=by
  have hn:=h.nrec
  unfold gP
  refine d7 (eF (r:=Fl.go ()) b.Records.length (fun k hk=>?_) ?_) ?_
  · unfold eP
    rw [dlt hk,cond_true,bB hk,Option.bind_some,Dx hl h.rev.2 (h.recs _ (List.getElem_mem hk)),Option.bind_some]
    have hj:cV (k:Int) false=some (.go ((k + 1:Nat):Int)):=by unfold cV; rw [cB (by omega)]; rfl
    simp only [Bool.not_true,cond_false]
    rcases Nat.eq_zero_or_pos k with h0 | h0
    · subst h0
      exact hj
    · rw [decide_eq_true (by omega),cond_true,show IntKind.i64.wrap ((k:Int) - 1)=((k - 1:Nat):Int) by rw [pm (by omega) (by omega)]; omega,bB (show k - 1 < b.Records.length by omega),Option.bind_some,xL,Option.bind_some]
      have:=List.pairwise_iff_getElem.1 h.recsA (k - 1) k (by omega) hk (by omega)
      rw [decide_eq_false (by omega)]
      exact hj
  · unfold eP
    rw [bA]; rfl
  · show some (decide ((b.Records.length:Int)≤4000))=some true
    rw [decide_eq_true (by omega)]
theorem zw {c:Nat} (hc:c < 100):hU (bg c)=some true:=by
  unfold hU
  rw [uA hc,Option.bind_some,cond_true,C7,oK]; rfl
theorem zx (h:iu l b) (hl:l.length≤8):gY b=some true:=by
  have hn:=h.nrec
  have hi:=h.nin
  have hrev:=h.rev
  unfold gY
  rw [decide_eq_false (by omega),decide_eq_false (by omega),decide_eq_false (by omega),HI h hl]
  simp only [cond_false,Option.bind_some,Bool.not_true]
  refine d7 (eF (r:=Fl.go ()) b.Inputs.length (fun k hk=>?_) ?_) ?_
  · have hx:=h.ins _ (List.getElem_mem hk)
    obtain⟨c,hc,hkey⟩:=hx.key
    have h1:=hx.value
    have h2:=hx.low
    have h3:=hx.high
    unfold gg
    rw [dlt hk,cond_true,bB hk,Option.bind_some,hkey,zw (by omega),Option.bind_some]
    have hj:bR (k:Int) false=some (.go ((k + 1:Nat):Int)):=by unfold bR; rw [cB (by omega)]; rfl
    simp only [Bool.not_true,cond_false]
    rw [decide_eq_false (show ¬ (1073741824:Int) < (b.Inputs[k].Value.size:Int) by omega),decide_eq_false (show ¬ (b.Inputs[k].Changed:Int) < 0 by omega),decide_eq_false (show ¬ (b.Revision:Int) < b.Inputs[k].Changed by omega)]
    rcases Nat.eq_zero_or_pos k with h0 | h0
    · subst h0
      exact hj
    · rw [decide_eq_true (by omega),cond_true,show IntKind.i64.wrap ((k:Int) - 1)=((k - 1:Nat):Int) by rw [pm (by omega) (by omega)]; omega,bB (show k - 1 < b.Inputs.length by omega),Option.bind_some,xL,Option.bind_some]
      have:=List.pairwise_iff_getElem.1 h.insA (k - 1) k (by omega) hk (by omega)
      rw [hkey] at this
      rw [decide_eq_false (by omega)]
      exact hj
  · unfold gg
    rw [bA]; rfl
  · show gf b=some true
    unfold gf
    rw [Fa (by unfold Rm; omega) fun x hx=>by unfold gZ; rw [decide_eq_false (by have:=(h.recs x hx).high; omega)]]; rfl
theorem DA (h:iu l b) (hl:l.length≤8) {cs:List aq} (hc:∀ c ∈ cs,yJ c) (hn:cs.length≤32):jS b cs=some 0:=by
  unfold jS
  rw [zx h hl,Option.bind_some,decide_eq_false (by omega)]
  simp only [Bool.not_true,cond_false]
  rw [Dk (by unfold Rm; omega) fun x hx=>by obtain⟨n,hn,e⟩:=(hc x hx).key; unfold g9; rw [e,zw (by omega)]; rfl,Option.bind_some,cond_false,
    Dk (by unfold Rm; omega) fun x hx=>by unfold hO; rw [decide_eq_false (by have:=(hc x hx).value; omega)]]
  rfl
theorem Fg (h:iu l b) (hl:l.length≤8):db b=some b:=by
  have hi:=h.nin
  unfold db cH
  rw [dv (by simp; omega),EA (h.rm hl).1]
  simp [gd]
end
end
section
open Go.RowKit
open Go.Lib hiding intOf
theorem Ef {l:List aI} {b:ai} (h:pn l) (hl:Rm l.length) (hb:Rm b.Inputs.length) (ch:Bool) {r:aI} (hrev:IntKind.i64.wrap (b.Revision + 1)=r.Changed) (hne:(gn b r.Key).Value ≠ r.Value):bZ b ch l r.Key r.Value=some (true,pF l r):=by
  have hl1:=hl
  unfold Rm at hl1
  have hn:((gn b r.Key).Value.toList == r.Value.toList)=false:=beq_eq_false_iff_ne.2 fun e=>hne (toList_inj e)
  unfold bZ
  rw [DB hb,Option.bind_some,hn,cond_false,B7 h hl,Option.bind_some,hrev]
  dsimp only
  have hs:=vi h r.Key
  have hb:=xd l r.Key
  obtain⟨L,hL⟩:∃ L,L=l.filter fun x=>decide (bE x.Key r.Key < 0):=⟨_,rfl⟩
  obtain⟨H,hH⟩:∃ H,H=l.filter fun x=>decide (¬ bE x.Key r.Key < 0):=⟨_,rfl⟩
  have hbl:lz l r.Key=L.length:=by rw [hL]; rfl
  rw [← hL,← hH] at hs
  have hasc:pn H:=by rw [hH]; exact List.Pairwise.filter _ h
  have hge:∀ x ∈ H,¬ bE x.Key r.Key < 0:=fun x hx=>by rw [hH] at hx; simpa using (List.mem_filter.1 hx).2
  have hgt:l.filter (fun x=>decide (0 < bE x.Key r.Key))=H.filter fun x=>decide (0 < bE x.Key r.Key):=by
    rw [hH,List.filter_filter]
    refine List.filter_congr fun x _=>?_
    by_cases h0:0 < bE x.Key r.Key
    · simp [h0]; omega
    · simp [h0]
  have e0:pF l r=L ++ r :: H.filter fun x=>decide (0 < bE x.Key r.Key):=by unfold pF; rw [hgt,hL]
  rw [e0]
  cases hHc:H with
  | nil =>
    have:l[lz l r.Key]? = none:=by rw [hbl,List.getElem?_eq_none]; rw [hs,hHc]; simp
    rw [this]
    dsimp only
    rw [cond_false,hbl]
    have hn:L.length=l.length:=by rw [hs,hHc]; simp
    rw [show decide (0≤(L.length:Int))=true from decide_eq_true (by omega),show decide ((L.length:Int)≤(l.length:Int))=true from decide_eq_true (by omega),show br (l.length + 1)=true from dv (by omega)]
    simp only [gd,cond_true,Int.toNat_natCast]
    have hl2:l=L:=by rw [hs,hHc,List.append_nil]
    rw [hl2]; simp
  | cons x r2 =>
    have hx:l[lz l r.Key]? = some x:=by rw [hbl,hs,hHc]; simp
    have hle:L.length≤l.length:=by rw [hs]; simp
    rw [hx]
    dsimp only
    have hasc2:=hasc
    rw [hHc] at hasc2
    have hr2:=(List.pairwise_cons.1 hasc2).1
    have hge':=hge x (by rw [hHc]; simp)
    have tl:(r2.filter fun x=>decide (0 < bE x.Key r.Key))=r2:=by
      rw [List.filter_eq_self]
      intro y hy
      simp only [decide_eq_true_eq]
      have h1:=hr2 y hy
      rw [mh]
      refine kK (b:=x.Key) ?_ h1
      intro hh
      exact hge' hh
    by_cases h0:bE x.Key r.Key=0
    · rw [h0,show ((0:Int) == 0)=true from rfl,cond_true,aU,hx,Option.bind_some,Int.toNat_natCast,hbl,List.filter_cons_of_neg (by simp [h0]),tl]
      rw [hs,hHc]
      simp
    · have hpos:0 < bE x.Key r.Key:=by omega
      rw [show (bE x.Key r.Key == 0)=false from by simpa using h0,cond_false,hbl,show decide (0≤(L.length:Int))=true from decide_eq_true (by omega),show decide ((L.length:Int)≤(l.length:Int))=true from decide_eq_true (by omega),show br (l.length + 1)=true from dv (by omega)]
      simp only [gd,cond_true,Int.toNat_natCast]
      rw [List.filter_cons_of_pos (by simpa using hpos),tl,hs,hHc]
      simp
end
section
open Go.RowKit
open Go.Lib hiding intOf
theorem vh:∀ {a b:List aI},pn a→pn b→(∀ x,x ∈ a↔x ∈ b)→a=b
  | [],[],_,_,_=>rfl
  | [],y :: b,_,_,h=>by have:=(h y).2 List.mem_cons_self; cases this
  | x :: a,[],_,_,h=>by have:=(h x).1 List.mem_cons_self; cases this
  | x :: a,y :: b,ha,hb,h=>by
    have ha':=List.pairwise_cons.1 ha
    have hb':=List.pairwise_cons.1 hb
    have e:x=y:=by
      rcases List.mem_cons.1 ((h x).1 List.mem_cons_self) with e | h1
      · exact e
      · rcases List.mem_cons.1 ((h y).2 List.mem_cons_self) with e | h2
        · exact e.symm
        · exact absurd (hb'.1 x h1) (rV (ha'.1 y h2))
    subst e
    rw [vh ha'.2 hb'.2 fun z=>?_]
    constructor
    · intro hz
      rcases List.mem_cons.1 ((h z).1 (List.mem_cons_of_mem _ hz)) with e | h1
      · subst e; exact absurd (ha'.1 z hz) oW
      · exact h1
    · intro hz
      rcases List.mem_cons.1 ((h z).2 (List.mem_cons_of_mem _ hz)) with e | h1
      · subst e; exact absurd (hb'.1 z hz) oW
      · exact h1
theorem vN {b:ai} (h:pn b.Inputs) {x:aI} (hx:x ∈ b.Inputs) {k:ae} (hk:x.Key=k):gn b k=x:=by
  unfold gn
  cases hf:b.Inputs.find? fun y=>cS y.Key k with
  | none =>
    have:=List.find?_eq_none.1 hf x hx
    exact absurd (dz.2 hk) this
  | some y =>
    have h1:=List.mem_of_find?_eq_some hf
    have h2:=dz.1 (List.find?_some (p:=fun y:aI=>cS y.Key k) hf)
    exact Cx h h1 hx (h2.trans hk.symm)
theorem BT {b:ai} {k:ae} (h:∀ x ∈ b.Inputs,x.Key ≠ k):gn b k=⟨k,⟨#[]⟩,0⟩:=by
  unfold gn
  rw [List.find?_eq_none.2 fun x hx=>by rw [qu.2 (h x hx)]; simp]
theorem yZ {b:ai} (k:ae):((gn b k) ∈ b.Inputs∧(gn b k).Key=k)∨((∀ x ∈ b.Inputs,x.Key ≠ k)∧gn b k=⟨k,⟨#[]⟩,0⟩):=by
  unfold gn
  cases hf:b.Inputs.find? fun y=>cS y.Key k with
  | none=>exact .inr ⟨fun x hx e=>List.find?_eq_none.1 hf x hx (dz.2 e),rfl⟩
  | some y=>exact .inl ⟨List.mem_of_find?_eq_some hf,dz.1 (List.find?_some (p:=fun y:aI=>cS y.Key k) hf)⟩
noncomputable def uO (b:ai) (q:ae×ByteArray):Bool:=!((gn b q.1).Value.toList == q.2.toList)
theorem pU {b:ai} {q:ae×ByteArray}:uO b q=true↔(gn b q.1).Value ≠ q.2:=by
  unfold uO
  rw [Bool.not_eq_true',beq_eq_false_iff_ne]
  exact⟨fun h e=>h (by rw [e]),fun h e=>h (toList_inj e)⟩
structure Ll (b:ai) (p:List (ae×ByteArray)) (ins ins':List aI):Prop where
  asc:pn ins'
  ok:∀ x ∈ ins',qR (b.Revision + 1) x
  mem:∀ x,x ∈ ins'↔(∃ q ∈ p,uO b q=true∧x=⟨q.1,q.2,b.Revision + 1⟩)∨(x ∈ ins∧∀ q ∈ p,uO b q=true→x.Key ≠ q.1)
def zV (q:ae×ByteArray):Prop:=(∃ c,c < 10∧q.1=bg c)∧q.2.size≤1000
theorem u3 {b:ai} (hb:Rm b.Inputs.length) (hr:0≤b.Revision∧b.Revision≤1000000):∀ (p:List (ae×ByteArray)),Nd p→(∀ q ∈ p,zV q)→∀ (ch:Bool) (ins:List aI),pn ins→(∀ x ∈ ins,qR (b.Revision + 1) x) →
    ∃ ins',nH (fun (s:Bool×List aI) (k:ae) (v:ByteArray)=>bZ b s.1 s.2 k v) (ch,ins) p=some (ch || p.any (uO b),ins')∧Ll b p ins ins'
  | [],_,_,ch,ins,h1,h2=>⟨ins,by rw [List.any_nil,Bool.or_false]; rfl,h1,h2,fun x=>⟨fun h=>.inr ⟨h,fun q hq=>absurd hq List.not_mem_nil⟩,fun h=>by
      rcases h with⟨q,hq,_⟩ | h
      · exact absurd hq List.not_mem_nil
      · exact h.1⟩⟩
  | q :: p,hnd,hk,ch,ins,h1,h2=>by
    have hnd2:q.1 ∉ p.map (·.1)∧Nd p:=List.nodup_cons.1 hnd
    have hq:=hk q List.mem_cons_self
    have hk2:∀ q' ∈ p,zV q':=fun q' h=>hk q' (List.mem_cons_of_mem _ h)
    have hw:IntKind.i64.wrap (b.Revision + 1)=b.Revision + 1:=pm (by omega) (by omega)
    have hil:=u4 h1 h2
    cases hc:uO b q with
    | false =>
      have hv:(gn b q.1).Value.toList == q.2.toList:=by unfold uO at hc; simpa using hc
      obtain⟨ins',e,hu⟩:=u3 hb hr p hnd2.2 hk2 ch ins h1 h2
      refine⟨ins',?_,hu.asc,hu.ok,fun x=>(hu.mem x).trans ⟨fun h=>?_,fun h=>?_⟩⟩
      · rw [nH]
        have e1:bZ b ch ins q.1 q.2=some (ch,ins):=by
          unfold bZ
          rw [DB hb,Option.bind_some,hv,cond_true]
        simp only [e1,Option.bind_some]
        rw [e,List.any_cons,hc,Bool.false_or]
      · rcases h with⟨q',a1,a2,a3⟩|⟨a1,a2⟩
        · exact .inl ⟨q',List.mem_cons_of_mem _ a1,a2,a3⟩
        · refine .inr ⟨a1,fun q' hq' hcq=>?_⟩
          rcases List.mem_cons.1 hq' with rfl | hq'
          · rw [hc] at hcq; cases hcq
          · exact a2 q' hq' hcq
      · rcases h with⟨q',a1,a2,a3⟩|⟨a1,a2⟩
        · rcases List.mem_cons.1 a1 with rfl | a1
          · rw [hc] at a2; cases a2
          · exact .inl ⟨q',a1,a2,a3⟩
        · exact .inr ⟨a1,fun q' hq'=>a2 q' (List.mem_cons_of_mem _ hq')⟩
    | true =>
      have hrO:qR (b.Revision + 1) (aI.mk q.1 q.2 (b.Revision + 1)):=⟨hq.1,hq.2,by show 0≤b.Revision + 1; omega,Int.le_refl _⟩
      obtain⟨ins',e,hu⟩:=u3 hb hr p hnd2.2 hk2 true (pF ins (aI.mk q.1 q.2 (b.Revision + 1))) (zt h1 _) (Bh h2 hrO)
      refine⟨ins',?_,hu.asc,hu.ok,fun x=>(hu.mem x).trans ⟨fun h=>?_,fun h=>?_⟩⟩
      · rw [nH]
        have e1:bZ b ch ins q.1 q.2=some (true,pF ins (aI.mk q.1 q.2 (b.Revision + 1))):=Ef (r:=aI.mk q.1 q.2 (b.Revision + 1)) h1 (by unfold Rm; omega) hb ch hw (pU.1 hc)
        simp only [e1,Option.bind_some]
        rw [e,List.any_cons,hc]
        simp
      · rcases h with⟨q',a1,a2,a3⟩|⟨a1,a2⟩
        · exact .inl ⟨q',List.mem_cons_of_mem _ a1,a2,a3⟩
        · rcases tu.1 a1 with rfl | ⟨a3,a4⟩
          · exact .inl ⟨q,List.mem_cons_self,hc,rfl⟩
          · refine .inr ⟨a3,fun q' hq' hcq=>?_⟩
            rcases List.mem_cons.1 hq' with rfl | hq'
            · exact a4
            · exact a2 q' hq' hcq
      · rcases h with⟨q',a1,a2,rfl⟩|⟨a1,a2⟩
        · rcases List.mem_cons.1 a1 with rfl | a1
          · exact .inr ⟨tu.2 (.inl rfl),fun q'' hq'' _ e=>hnd2.1 (by show q'.1 ∈ _; have e:q'.1=q''.1:=e; rw [e]; exact List.mem_map_of_mem hq'')⟩
          · exact .inl ⟨q',a1,a2,rfl⟩
        · exact .inr ⟨tu.2 (.inr ⟨a1,a2 q List.mem_cons_self hc⟩),fun q' hq'=>a2 q' (List.mem_cons_of_mem _ hq')⟩
def ie (m:List (ae×ByteArray)) (cs:List aq):List (ae×ByteArray):=cs.foldl (fun m c=>cT aC c.Key c.Value m) m
theorem zf {P:ae×ByteArray→Prop}:∀ (cs:List aq) (m:List (ae×ByteArray)),Nd m→(∀ q ∈ m,P q)→(∀ c ∈ cs,P (c.Key,c.Value))→Nd (ie m cs)∧∀ q ∈ ie m cs,P q
  | [],m,h1,h2,_=>⟨h1,h2⟩
  | c :: cs,m,h1,h2,h3=>by
    refine zf cs (cT aC c.Key c.Value m) (Nd.put eV h1 _ _) (fun q hq=>?_) (fun c' hc=>h3 c' (List.mem_cons_of_mem _ hc))
    rcases List.mem_cons.1 ((ug eV c.Key c.Value h1).mem_iff.1 hq) with rfl | hq
    · exact h3 c List.mem_cons_self
    · exact h2 q (List.mem_filter.1 hq).1
structure Cu (l:List aK) (b:ai) (cs:List aq) (b':ai):Prop where
  ok:iu l b'
  recs:b'.Records=b.Records
  get:∀ k v,bQ aC k (ie [] cs)=some v→(gn b k).Value ≠ v→gn b' k=⟨k,v,b.Revision + 1⟩
  keep:∀ k,(∀ v,bQ aC k (ie [] cs)=some v→(gn b k).Value=v)→gn b' k=gn b k
  rev:(∃ k v,bQ aC k (ie [] cs)=some v∧(gn b k).Value ≠ v)→b'.Revision=b.Revision + 1
  same:(∀ k v,bQ aC k (ie [] cs)=some v→(gn b k).Value=v)→b'=b
theorem Gn {l:List aK} {b:ai} (hl:l.length≤8) (h:iu l b) (hrev:b.Revision + 1≤1000000) {cs:List aq} (hc:∀ c ∈ cs,yJ c) (hn:cs.length≤32):∃ b',gX b cs=some (b',0)∧Cu l b cs b':=by
  have hr0:=h.rev
  have hb:=(h.rm hl).2.1
  have hw:IntKind.i64.wrap (b.Revision + 1)=b.Revision + 1:=pm (by omega) (by omega)
  obtain⟨hnd,hpo⟩:=zf (P:=zV) cs [] List.Pairwise.nil (fun q hq=>absurd hq List.not_mem_nil) (fun c hc'=>⟨(hc c hc').key,(hc c hc').value⟩)
  have hin1:∀ x ∈ b.Inputs,qR (b.Revision + 1) x:=fun x hx=>(h.ins x hx).le (by omega)
  obtain⟨ins',e1,hu⟩:=u3 hb hr0 (ie [] cs) hnd hpo false b.Inputs h.insA hin1
  have hmg:∀ k v,bQ aC k (ie [] cs)=some v↔(k,v) ∈ ie [] cs:=fun k v=>tv eV hnd
  have hrng:uk (fun (s:Bool×List aI) (k:ae) (v:ByteArray)=>bZ b s.1 s.2 k v) (ie [] cs) (false,b.Inputs)=some ((ie [] cs).any (uO b),ins'):=by
    refine B9 fun p hp=>?_
    obtain⟨ins2,e2,hu2⟩:=u3 hb hr0 p (hnd.perm hp.symm) (fun q hq=>hpo q (hp.mem_iff.1 hq)) false b.Inputs h.insA hin1
    rw [e2,Bool.false_or,hp.any_eq]
    congr 2
    refine vh hu2.asc hu.asc fun x=>(hu2.mem x).trans (Iff.trans ?_ (hu.mem x).symm)
    simp only [hp.mem_iff]
  have hil:=u4 hu.asc hu.ok
  have happ:gX b cs=eG b b ((ie [] cs).any (uO b)) ins':=by
    unfold gX
    rw [DA h hl hc hn,Option.bind_some]
    simp only [show ((0:Int) != 0)=false from rfl,cond_false]
    have hlp:loop (fun s:(List (ae×ByteArray))×Int=>eH cs s.1 s.2) (([]:List (ae×ByteArray)),0)=some (ie [] cs):=by
      refine bT (xs:=cs) (fun k=>(ie [] (cs.take k),(k:Int))) rfl (fun k x hx=>?_) ?_
      · unfold eH
        dsimp only
        rw [eJ hx,cond_true,aU,hx,Option.bind_some,cB (by have:=aY hx; omega),bG hx]
        unfold ie
        rw [List.foldl_append]; rfl
      · unfold eH
        dsimp only
        rw [bA,List.take_length]; rfl
    rw [hlp,Option.bind_some]
    unfold jh
    rw [Fg h hl,Option.bind_some,hrng,Option.bind_some]
  rw [happ]
  unfold eG
  have getOk:∀ rv:Int,∀ k,gn (ai.mk rv ins' b.Records) k=gn (ai.mk b.Revision ins' b.Records) k:=fun _ _=>rfl
  cases ha:(ie [] cs).any (uO b) with
  | false =>
    have hno:∀ q ∈ ie [] cs,uO b q=false:=fun q hq=>by
      have:=List.any_eq_false.1 ha q hq
      simpa using this
    have hins:ins'=b.Inputs:=vh hu.asc h.insA fun x=>(hu.mem x).trans ⟨fun hx=>by
        rcases hx with⟨q,a1,a2,_⟩|⟨a1,_⟩
        · rw [hno q a1] at a2; cases a2
        · exact a1,fun hx=>.inr ⟨hx,fun q hq hcq=>by rw [hno q hq] at hcq; cases hcq⟩⟩
    refine⟨b,by rw [hins]; rfl,h,rfl,fun k v hk hv=>?_,fun _ _=>rfl,fun ⟨k,v,hk,hv⟩=>?_,fun _=>rfl⟩
    · have:=hno _ ((hmg k v).1 hk)
      rw [(pU (q:=(k,v))).2 hv] at this; cases this
    · have:=hno _ ((hmg k v).1 hk)
      rw [(pU (q:=(k,v))).2 hv] at this; cases this
  | true =>
    obtain⟨q0,hq0,hc0⟩:=List.any_eq_true.1 ha
    refine⟨ai.mk (b.Revision + 1) ins' b.Records,?_,h.rise hrev hu.asc hu.ok,rfl,fun k v hk hv=>?_,fun k hk=>?_,fun _=>rfl,fun hs=>?_⟩
    · simp only [Bool.not_true,cond_false]
      rw [decide_eq_false (by omega),show (b.Revision == 1073741824)=false from beq_eq_false_iff_ne.2 (by omega),hw]; rfl
    · exact vN (b:=ai.mk (b.Revision + 1) ins' b.Records) hu.asc ((hu.mem _).2 (.inl ⟨(k,v),(hmg k v).1 hk,(pU (b:=b) (q:=(k,v))).2 hv,rfl⟩)) rfl
    · have hkq:∀ q ∈ ie [] cs,uO b q=true→k ≠ q.1:=fun q hq hcq e=>by
        subst e
        exact pU.1 hcq (hk q.2 ((hmg q.1 q.2).2 hq))
      rcases yZ (b:=b) k with⟨a1,a2⟩|⟨a1,a2⟩
      · exact vN (b:=ai.mk (b.Revision + 1) ins' b.Records) hu.asc ((hu.mem _).2 (.inr ⟨a1,fun q hq hcq=>by rw [a2]; exact hkq q hq hcq⟩)) a2
      · rw [a2]
        refine BT fun x hx e=>?_
        rcases (hu.mem x).1 hx with⟨q,b1,b2,rfl⟩|⟨b1,b2⟩
        · exact hkq q b1 b2 e.symm
        · exact a1 x b1 e
    · exact absurd (hs q0.1 q0.2 ((hmg _ _).2 hq0)) (pU.1 hc0)
end
section
open Go.RowKit
open Go.Lib hiding intOf
theorem HB {m:Option Bool} (h:Ok m fun r=>r=true):m=some true:=by obtain⟨v,e,rfl⟩:=h; exact e
section
variable {l:List aK} {b:ai}
theorem AC {r:an} (h:Rm r.Reads.length):kS r r=some true:=by
  unfold kS cE
  rw [w7 h]
  simp
theorem Ch {recs:List an} (h:Ea recs):o8 recs recs=some true:=by
  have hl:=h.1
  unfold Rm at hl
  unfold o8
  rw [show (((recs.length:Int):Int) != (recs.length:Int))=false by simp,cond_false]
  refine d7 (eF (r:=Fl.go ()) recs.length (fun k hk=>?_) ?_) rfl
  · unfold kT
    rw [dlt hk,cond_true,bB hk,Option.bind_some,Option.bind_some,AC (h.2 _ (List.getElem_mem hk)),cB (by omega)]; rfl
  · unfold kT
    rw [bA]; rfl
theorem Ci (h:Ea b.Records) (hi:Rm b.Inputs.length):o9 b b=some true:=by
  unfold Rm at hi
  unfold o9
  rw [show ((b.Revision:Int) != b.Revision)=false by simp,cond_false,show (((b.Inputs.length:Int):Int) != (b.Inputs.length:Int))=false by simp,cond_false,Ch h]
  simp only [Option.bind_some,Bool.not_true,cond_false]
  refine d7 (eF (r:=Fl.go ()) b.Inputs.length (fun k hk=>?_) ?_) rfl
  · unfold kU
    rw [dlt hk,cond_true,bB hk,Option.bind_some,Option.bind_some,cB (by omega)]
    simp
  · unfold kU
    rw [bA]; rfl
theorem Cu.val {cs:List aq} {b':ai} (h:Cu l b cs b') (k:ae):(gn b' k).Value=(bQ aC k (ie [] cs)).getD (gn b k).Value:=by
  cases hm:bQ aC k (ie [] cs) with
  | none=>rw [h.keep k fun v e=>by rw [hm] at e; cases e]; rfl
  | some v =>
    by_cases e:(gn b k).Value=v
    · rw [h.keep k fun v' e'=>by rw [hm] at e'; rw [← Option.some.inj e']; exact e]
      exact e
    · rw [h.get k v hm e]; rfl
end
theorem zh {t:List Int} (h:¬ t.length≤400):lD t=some false:=by
  unfold lD
  rw [decide_eq_false (by omega)]
theorem Ak {t:List Int} (h:t.length≤400):lD t=some true:=by
  unfold lD
  rw [decide_eq_true (by omega)]
end
end Go.Proofs.YtmfcloapbgfhaaaGreatDoor
section
namespace Go.Proofs
open Go.Shelf
def Tryz.sortKey_ren:Go.Shelf.Ren:=⟨fun | 6=>112 | 15=>142 | 14=>141 | 28=>174 | 29=>175 | 20=>166 | 21=>167 | 22=>168 | 23=>169 | 24=>170 | 25=>171 | 26=>172 | 27=>173 | 46=>192 | 47=>193 | 48=>194 | 49=>195 | 50=>196 | 57=>206 | n=>n,fun | 22=>58 | 24=>44 | 25=>82 | 3=>3 | 39=>146 | 0=>0 | 53=>211 | 55=>178 | 4=>4 | 46=>205 | 45=>204 | 50=>112 | 5=>5 | 9=>9 | 66=>228 | 70=>232 | 76=>244 | 77=>90 | n=>n,fun | n=>n⟩
theorem Tryz.sortKey:Go.Proofs.SlLaysF0.n6 Tryz.prog Tryz.sortKey_ren:={
  mixed:=by kernel_rfl
  f6:=⟨Tryz.f112.name,by decide,Tryz.func112.trans (congrArg some (by kernel_rfl))⟩
  f14:=⟨Tryz.f141.name,by decide,Tryz.func141.trans (congrArg some (by kernel_rfl))⟩
  f15:=Tryz.func142.trans (congrArg some (by kernel_rfl))
  f20:=⟨Tryz.f166.name,by decide,Tryz.func166.trans (congrArg some (by kernel_rfl))⟩
  f21:=⟨Tryz.f167.name,by decide,Tryz.func167.trans (congrArg some (by kernel_rfl))⟩
  f22:=⟨Tryz.f168.name,by decide,Tryz.func168.trans (congrArg some (by kernel_rfl))⟩
  f23:=⟨Tryz.f169.name,by decide,Tryz.func169.trans (congrArg some (by kernel_rfl))⟩
  f24:=⟨Tryz.f170.name,by decide,Tryz.func170.trans (congrArg some (by kernel_rfl))⟩
  f25:=⟨Tryz.f171.name,by decide,Tryz.func171.trans (congrArg some (by kernel_rfl))⟩
  f26:=⟨Tryz.f172.name,by decide,Tryz.func172.trans (congrArg some (by kernel_rfl))⟩
  f27:=⟨Tryz.f173.name,by decide,Tryz.func173.trans (congrArg some (by kernel_rfl))⟩
  f28:=Tryz.func174.trans (congrArg some (by kernel_rfl))
  f29:=Tryz.func175.trans (congrArg some (by kernel_rfl))
  f46:=⟨Tryz.f192.name,by decide,Tryz.func192.trans (congrArg some (by kernel_rfl))⟩
  f47:=Tryz.func193.trans (congrArg some (by kernel_rfl))
  f48:=Tryz.func194.trans (congrArg some (by kernel_rfl))
  f49:=⟨Tryz.f195.name,by decide,Tryz.func195.trans (congrArg some (by kernel_rfl))⟩
  f50:=⟨Tryz.f196.name,by decide,Tryz.func196.trans (congrArg some (by kernel_rfl))⟩
  f57:=⟨Tryz.f206.name,by decide,Tryz.func206.trans (congrArg some (by kernel_rfl))⟩
  t0:=Tryz.underlying0
  a0:=Tryz.isAgg0
  z0:=Tryz.sizeOf0
  v0:=Tryz.zeroValue0
  t3:=Tryz.underlying3
  a3:=Tryz.isAgg3
  z3:=Tryz.sizeOf3
  v3:=Tryz.zeroValue3
  t4:=Tryz.underlying4
  a4:=Tryz.isAgg4
  z4:=Tryz.sizeOf4
  v4:=Tryz.zeroValue4
  t5:=Tryz.underlying5
  a5:=Tryz.isAgg5
  z5:=Tryz.sizeOf5
  v5:=Tryz.zeroValue5
  t9:=Tryz.underlying9
  a9:=Tryz.isAgg9
  z9:=Tryz.sizeOf9
  v9:=Tryz.zeroValue9
  t22:=Tryz.underlying58
  a22:=Tryz.isAgg58
  z22:=Tryz.sizeOf58
  v22:=Tryz.zeroValue58
  t25:=Tryz.underlying82
  a25:=Tryz.isAgg82
  z25:=Tryz.sizeOf82
  v25:=Tryz.zeroValue82
  t39:=Tryz.underlying146
  a39:=Tryz.isAgg146
  z39:=Tryz.sizeOf146
  v39:=Tryz.zeroValue146
  t45:=Tryz.underlying204
  a45:=Tryz.isAgg204
  z45:=Tryz.sizeOf204
  v45:=Tryz.zeroValue204
  t46:=Tryz.underlying205
  a46:=Tryz.isAgg205
  z46:=Tryz.sizeOf205
  v46:=Tryz.zeroValue205
  t50:=Tryz.underlying112
  a50:=Tryz.isAgg112
  z50:=Tryz.sizeOf112
  v50:=Tryz.zeroValue112
  t53:=Tryz.underlying211
  a53:=Tryz.isAgg211
  z53:=Tryz.sizeOf211
  v53:=Tryz.zeroValue211
  t55:=Tryz.underlying178
  a55:=Tryz.isAgg178
  z55:=Tryz.sizeOf178
  v55:=Tryz.zeroValue178
  t66:=Tryz.underlying228
  a66:=Tryz.isAgg228
  z66:=Tryz.sizeOf228
  v66:=Tryz.zeroValue228
  t70:=Tryz.underlying232
  a70:=Tryz.isAgg232
  z70:=Tryz.sizeOf232
  v70:=Tryz.zeroValue232
  t76:=Tryz.underlying244
  a76:=Tryz.isAgg244
  z76:=Tryz.sizeOf244
  v76:=Tryz.zeroValue244
  t77:=Tryz.underlying90
  a77:=Tryz.isAgg90
  z77:=Tryz.sizeOf90
  v77:=Tryz.zeroValue90 }
end Go.Proofs
end
namespace Go.Proofs.YtmfcloapbgfhaaaGreatDoor
section
open Go.RowKit
open Go.Lib hiding intOf
open Go.Sort (grow grow_grow alloc_eq_grow)
def Gr (w w':World):Prop:=∃ q os,w'=grow (w.drewN q) os
theorem Gr.refl (w:World):Gr w w:=⟨0,#[],by rw [Go.Sort.grow_empty]; rfl⟩
theorem Gr.trans {a b c:World} (h:Gr a b) (k:Gr b c):Gr a c:=by
  obtain⟨q,os,rfl⟩:=h
  obtain⟨q2,os2,rfl⟩:=k
  exact⟨q + q2,os ++ os2,by show grow (grow ((a.drewN q).drewN q2) os) os2=_; rw [grow_grow,World.drewN_drewN]⟩
theorem Gr.drew (w:World):Gr w w.drew:=⟨1,#[],by rw [Go.Sort.grow_empty]; rfl⟩
theorem Gr.alloc (w:World) (o:Obj):Gr w (w.alloc o):=⟨0,#[o],by rw [alloc_eq_grow]; rfl⟩
theorem Gr.cell {w w':World} (h:Gr w w') {a:Addr} {v:Value} (hc:w.cell? a=some v):w'.cell? a=some v:=by
  obtain⟨q,os,rfl⟩:=h
  exact cell_grown (World.block_lt_of_cell? _ _ hc) hc q os
set_option maxHeartbeats 2000000 in
theorem Ex (b:Nat) (x y:Int) (w:World) (h0:w.cell? ⟨b,0,none⟩=some (.int .i64 x)) (h1:w.cell? ⟨b,1,none⟩=some (.int .i64 y)) :
    Calls Tryz.prog 97 #[.slice (some ⟨b,0,none⟩) 2 2] w fun e w'=>e = .returned (.int .i64 (if x ≠ 0 then x else y))∧Gr w w':=by
  go_enter Tryz.func97,Tryz.ntmps97
  go_wp2_with fail
  go_loopw [8] (fun i wr=>Gr w wr∧((i = .int .i64 0)∨(i = .int .i64 1∧Hid (x=0))∨(i = .int .i64 2∧Hid (x=0∧y=0)))) (fun i _=>2 - (intOf i).toNat)
  case atStart=>exact⟨Gr.refl _,.inl rfl⟩
  case round =>
    obtain⟨hb,rfl | ⟨rfl,H⟩|⟨rfl,H⟩⟩:=hrel
    · have d0:=hb.cell h0
      by_cases hx:x=0
      · have HX:=pC hx
        go_wp2_with fail
        exact⟨⟨hb,.inr (.inl ⟨rfl,HX⟩)⟩,by simp [intOf]⟩
      · go_wp2_with fail
        go_ret
        exact⟨by simp [hx],hb⟩
    · have d1:=hb.cell h1
      by_cases hy:y=0
      · have HY:Hid (x=0∧y=0):=pC ⟨H.out,hy⟩
        go_wp2_with fail
        exact⟨⟨hb,.inr (.inr ⟨rfl,HY⟩)⟩,by simp [intOf]⟩
      · go_wp2_with fail
        go_ret
        exact⟨by simp [H.out],hb⟩
    · go_wp2_with fail
      all_goals (go_ret; exact⟨by simp [H.out],hb⟩)
set_option maxHeartbeats 2000000 in
theorem C6 (a b:Int×ByteArray) (w:World) :
    Calls Tryz.prog 63 #[.agg #[.int .i64 a.1,.string a.2],.agg #[.int .i64 b.1,.string b.2]] w fun e w'=>e = .returned (.int .i64 (if compareInt a.1 b.1 ≠ 0 then compareInt a.1 b.1 else compareBytes a.2.data.toList b.2.data.toList))∧Gr w w':=by
  have hc:=fun W'=>Tryz.cmp_Compare_int a.1 b.1 W'
  have hs:=fun W'=>Tryz.strings_Compare a.2 b.2 W'
  obtain⟨r1,h1⟩:∃ r,r=compareInt a.1 b.1:=⟨_,rfl⟩
  obtain⟨r2,h2⟩:∃ r,r=compareBytes a.2.data.toList b.2.data.toList:=⟨_,rfl⟩
  rw [← h1] at hc ⊢
  rw [← h2] at hs ⊢
  clear h1 h2
  have ho:=fun W' b h0 h1=>Ex b r1 r2 W' h0 h1
  obtain⟨rr,hrr⟩:∃ rr,rr=if r1 ≠ 0 then r1 else r2:=⟨_,rfl⟩
  simp only [← hrr] at ho ⊢
  clear hrr
  go_enter Tryz.func63,Tryz.ntmps63
  go_wp2_with fail
  have hg0:Gr w ((w.alloc (.cells #[.int .i64 a.1,.string a.2] 44)).alloc (.cells #[.int .i64 b.1,.string b.2] 44)):=(Gr.alloc _ _).trans (Gr.alloc _ _)
  have hA0:((w.alloc (.cells #[.int .i64 a.1,.string a.2] 44)).alloc (.cells #[.int .i64 b.1,.string b.2] 44)).cell? ⟨w.heap.size,0,none⟩=some (.int .i64 a.1):=by simp
  have hA1:((w.alloc (.cells #[.int .i64 a.1,.string a.2] 44)).alloc (.cells #[.int .i64 b.1,.string b.2] 44)).cell? ⟨w.heap.size,1,none⟩=some (.string a.2):=by simp
  have hB0:((w.alloc (.cells #[.int .i64 a.1,.string a.2] 44)).alloc (.cells #[.int .i64 b.1,.string b.2] 44)).cell? ⟨w.heap.size + 1,0,none⟩=some (.int .i64 b.1):=by simp
  have hB1:((w.alloc (.cells #[.int .i64 a.1,.string a.2] 44)).alloc (.cells #[.int .i64 b.1,.string b.2] 44)).cell? ⟨w.heap.size + 1,1,none⟩=some (.string b.2):=by simp
  generalize ((w.alloc (.cells #[.int .i64 a.1,.string a.2] 44)).alloc (.cells #[.int .i64 b.1,.string b.2] 44))=W1 at *
  generalize w.heap.size=A at *
  go_region_held3 (fun w'=>w'.cell? ⟨A,0,none⟩=some (.int .i64 a.1)∧w'.cell? ⟨A,1,none⟩=some (.string a.2)∧w'.cell? ⟨A + 1,0,none⟩=some (.int .i64 b.1)∧w'.cell? ⟨A + 1,1,none⟩=some (.string b.2)) (first | exact⟨hA0,hA1,hB0,hB1⟩ | exact⟨q0,q1,q2,q3⟩ | go_keep) (first
    | (go_at_call 98; refine (hc _).mono ?_; rintro e w' ⟨rfl,rfl⟩)
    | (go_at_call 80; refine (hs _).mono ?_; rintro e w' ⟨rfl,rfl⟩)
    | (go_at_call 97; refine (ho _ _ ?_ ?_).mono ?_; simp; simp; rintro e w' ⟨rfl,hg⟩; have hg2:=(Gr.alloc W1 _).trans ((Gr.drew _).trans hg); have q0:=hg2.cell hA0; have q1:=hg2.cell hA1; have q2:=hg2.cell hB0; have q3:=hg2.cell hB1))
  all_goals (go_wp2_with fail; go_ret; exact⟨rfl,hg0.trans hg2⟩)
end
section
open Go.RowKit
open Go.Lib hiding intOf
open Go.Sort (grow grow_grow alloc_eq_grow SWO HoldsK Holds flatK putRowK heap_grow_old)
instance:Inhabited ae:=⟨⟨0,⟨#[]⟩⟩⟩
def p8 (k:ae):List Value:=[.int .i64 k.Kind,.string k.Text]
def pA (xs:List ae):List ae:=xs.mergeSort fun x y=>!ltOf bE y x
section
variable {α:Type} [Inhabited α] {enc:α→List Value} {n:Nat}
theorem lO (hk:∀ x,(enc x).length=n) (hn:0 < n):∀ (xs:List α) (t:Nat),t < xs.length * n→(xs.flatMap enc)[t]? = some (enc xs[t / n]!)[t % n]!
  | [],t,h=>by simp at h
  | x :: r,t,h=>by
    rw [List.flatMap_cons]
    by_cases ht:t < n
    · rw [List.getElem?_append_left (by rw [hk]; exact ht),Nat.div_eq_of_lt ht,Nat.mod_eq_of_lt ht]
      have:t < (enc x).length:=by rw [hk]; exact ht
      rw [List.getElem?_eq_getElem this]
      simp [this]
    · have h2:t - n < r.length * n:=by simp only [List.length_cons,Nat.add_mul] at h; omega
      rw [List.getElem?_append_right (by rw [hk]; omega),hk,lO hk hn r (t - n) h2]
      have e1:t / n=(t - n) / n + 1:=by
        conv=>lhs; rw [show t=t - n + n by omega]
        rw [Nat.add_div_right _ hn]
      have e2:t % n=(t - n) % n:=by
        conv=>lhs; rw [show t=t - n + n by omega]
        rw [Nat.add_mod_right]
      rw [e1,e2]; simp
omit [Inhabited α] in
theorem jq (hk:∀ x,(enc x).length=n) (xs:List α):(xs.flatMap enc).length=xs.length * n:=by
  induction xs with
  | nil=>simp
  | cons x r ih=>rw [List.flatMap_cons,List.length_append,hk,ih,List.length_cons,Nat.add_mul]; omega
theorem BP (hk:∀ x,(enc x).length=n) (hn:0 < n) (xs:List α):(flatK enc n xs.toArray).toList=xs.flatMap enc:=by
  refine List.ext_getElem? fun t=>?_
  by_cases ht:t < xs.length * n
  · rw [lO hk hn xs t ht]
    have h1:=Go.Sort.get_flatK enc n xs.toArray t (by simpa using ht)
    have h2:t < (flatK enc n xs.toArray).size:=by simpa using ht
    rw [Array.getElem?_toList,Array.getElem?_eq_getElem h2]
    rw [getElem!_pos (flatK enc n xs.toArray) t h2] at h1
    rw [h1]; simp
  · rw [List.getElem?_eq_none (by simp; omega),List.getElem?_eq_none (by rw [jq hk]; omega)]
theorem AE {w:World} {g off c:Nat} {cs:Array Value} {e:TypeId} {xs ys:List α} {q:Nat} {os:Array Obj} (hk:∀ x,(enc x).length=n) (hn:0 < n) (hg:uN w g cs e) (hsz:off + c * n≤cs.size) (hnc:xs.length≤c) (hcs:∀ j u,(xs.flatMap enc)[j]? = some u→cs[off + j]? = some u) (hl:ys.length=xs.length) :
    ∃ cs',uN (sortWorldK enc n w g off q ys.toArray os) g cs' e∧cs'.size=cs.size∧(∀ j u,(ys.flatMap enc)[j]? = some u→cs'[off + j]? = some u)∧Kt (fun k=>k=g) w (sortWorldK enc n w g off q ys.toArray os):=by
  have hH:Holds id w g off (flatK enc n xs.toArray):=fun j hj=>by
    have hj2:j < xs.length * n:=by simpa using hj
    have hm:xs.length * n≤c * n:=Nat.mul_le_mul_right _ hnc
    have h1:=Go.Sort.get_flatK enc n xs.toArray j (by simpa using hj2)
    refine⟨?_,hg.free (by omega)⟩
    rw [hg.cell,hcs j _ (lO hk hn xs j hj2),h1]; simp
  have e1:sortWorldK enc n w g off q ys.toArray os=grow ((w.drewN q).setCells g off (ys.flatMap enc)) os:=by
    unfold sortWorldK putRowK
    have:=putRow_eq_setCells id w g off (flatK enc n xs.toArray) (flatK enc n ys.toArray).toList q hH (by simp [hl])
    rw [Array.toArray_toList] at this
    rw [this,BP hk hn,List.map_id]
  obtain⟨fz,hg1,hfz⟩:=id hg
  obtain⟨cs',c1,c2,c3,c4⟩:=dG g e fz (ys.flatMap enc) off (w.drewN q) cs hg1
  have hgl:g < ((w.drewN q).setCells g off (ys.flatMap enc)).heap.size:=(Array.getElem?_eq_some_iff.1 c1).1
  refine⟨cs',?_,c2,fun j u hu=>c4 (by rw [jq hk,hl]; have:xs.length * n≤c * n:=Nat.mul_le_mul_right _ hnc; omega) j u hu,?_⟩
  · rw [e1]
    exact⟨fz,by rw [heap_grow_old _ os hgl]; exact c1,by rw [c2]; exact hfz⟩
  · rw [e1]
    have k1:Kt (fun k=>k=g) w ((w.drewN q).setCells g off (ys.flatMap enc)):=(Kt.drewN w q).no.trans (Kt.setCells _ g off _)
    exact k1.trans ⟨rfl,rfl,rfl,by simp,fun k hk _=>heap_grow_old _ os hk⟩
end
theorem wt {T:Nat→Prop} {w:World} {cl:List Value} {xs:List ae}:aB ac T w cl xs↔cl=xs.flatMap p8:=by
  have hk:∀ x:ae,(p8 x).length=2:=fun _=>rfl
  constructor
  · rintro⟨h1,h2⟩
    refine List.ext_getElem? fun t=>?_
    have h1':cl.length=xs.length * 2:=h1
    by_cases ht:t < xs.length * 2
    · rw [lO hk (by omega) xs t ht]
      have hx:t / 2 < xs.length:=by omega
      obtain⟨cs,rfl,h4⟩:=h2 (t / 2) _ (List.getElem?_eq_getElem hx)
      have hm:(p8 xs[t / 2])[t % 2]? = some (p8 xs[t / 2]!)[t % 2]!:=by
        rw [getElem!_pos xs (t / 2) hx]
        have h5:t % 2 < (p8 xs[t / 2]).length:=by rw [hk]; omega
        rw [List.getElem?_eq_getElem h5,getElem!_pos (p8 xs[t / 2]) (t % 2) h5]
      have:=h4 (t % 2) _ hm
      rwa [show t / 2 * ac.size + t % 2=t by show t / 2 * 2 + t % 2=t; omega] at this
    · rw [List.getElem?_eq_none (by omega),List.getElem?_eq_none (by rw [jq hk]; omega)]
  · rintro rfl
    refine⟨jq hk xs,fun k x hx=>⟨p8 x,rfl,fun j u hu=>?_⟩⟩
    have hkl:=(List.getElem?_eq_some_iff.1 hx).1
    have hj:j < 2:=by have:=(List.getElem?_eq_some_iff.1 hu).1; rw [hk] at this; exact this
    show (xs.flatMap p8)[k * 2 + j]? = some u
    rw [lO hk (by omega) xs _ (by omega),show (k * 2 + j) / 2=k by omega,show (k * 2 + j) % 2=j by omega,getElem!_pos xs k hkl,(List.getElem?_eq_some_iff.1 hx).2]
    obtain⟨h3,h4⟩:=List.getElem?_eq_some_iff.1 hu
    rw [getElem!_pos (p8 x) j h3,h4]
theorem Jk:SWO (ltOf bE) where
  irrefl x:=by unfold ltOf; simp [rW]
  trans x y z h1 h2:=by
    unfold ltOf at *
    simp only [decide_eq_true_eq] at *
    exact jr h1 h2
  ntrans x y z h1 h2:=by
    unfold ltOf at *
    simp only [decide_eq_false_iff_not] at *
    exact fun h=>h2 (kK h1 h)
theorem H9 (x y:ae) (h1:ltOf bE x y=false) (h2:ltOf bE y x=false):x=y:=by
  unfold ltOf at *
  simp only [decide_eq_false_iff_not] at *
  rcases qb x y with h | h | h
  · exact absurd h h1
  · exact h
  · exact absurd h h2
theorem CM (blk off size:Nat) (w:World):CmpLays Tryz.prog 63 #[] p8 2 bE blk off size w:=fun m os dk hd x y=>by
  refine (C6 (x.Kind,x.Text) (y.Kind,y.Text) (sortWorldK p8 2 w blk off m dk os)).mono ?_
  rintro e w' ⟨rfl,hg⟩
  refine⟨?_,hg⟩
  congr 2
  unfold bE compareInt
  dsimp only
  rw [pr,pr]
  by_cases h1:x.Kind < y.Kind
  · simp [h1]
  · by_cases h2:y.Kind < x.Kind <;> simp [h1,h2]
theorem qk (xs:List ae):(pA xs).length=xs.length:=by unfold pA; exact List.length_mergeSort _
theorem Cm (T:Nat→Prop) (W0:World) (v:Value) (cl:List Value) (xs:List ae) (hD:vd T W0 [.own v 44 ac.size cl]) (hv:aB ac (dT T [.own v 44 ac.size cl]) W0 cl xs) (hr:br xs.length=true) :
    aW Tryz.prog (MD [.own v 44 ac.size cl]) 112 [v,.func (.func 63) #[] #[]] W0 (fun v' w'=>v' = .tuple #[]∧∃ cl',aB ac (dT T [.own v 44 ac.size cl']) w' cl' (pA xs)∧n7 W0 w' [.own v 44 ac.size cl] [.own v 44 ac.size cl']):=by
  have hk:∀ x:ae,(p8 x).length=2:=fun _=>rfl
  have hr:=wq hr
  have hcl:=wt.1 hv
  subst hcl
  obtain⟨hown,hpos⟩:=hD.own _ List.mem_cons_self
  rcases id hown with⟨rfl,h0⟩|⟨g,off,n,c,cs,rfl,h1,hb,hg,hnc,hc,hsz,hcs⟩
  · have hx:xs=[]:=by
      have:=jq hk xs
      rw [h0] at this
      simp only [List.length_nil] at this
      exact List.eq_nil_of_length_eq_zero (by omega)
    subst hx
    have h:=AnyF.slices_SortFunc_none Tryz.sortKey none 0 (.func (.func 63) #[] #[]) W0
    change Calls Tryz.prog 112 _ _ _ at h
    refine h.mono ?_
    rintro e w' ⟨rfl,rfl⟩
    refine⟨_,rfl,Kt.refl _ _,rfl,[],wt.2 (by unfold pA; simp),⟨fun r hr=>?_,fun r hr k hk=>?_,List.pairwise_singleton _ _⟩⟩
    · simp only [List.mem_cons,List.not_mem_nil,or_false] at hr; subst hr; exact⟨hown,hpos⟩
    · simp only [List.mem_cons,List.not_mem_nil,or_false] at hr; subst hr; exact .inl ⟨_,List.mem_cons_self,hk⟩
  · have hn:n=xs.length:=by
      have h2:=jq hk xs
      rw [h1] at h2
      have h2:n * 2=xs.length * 2:=h2
      omega
    subst hn
    have hgl:g < W0.heap.size:=hg.lt
    have hH:HoldsK p8 2 W0 g off xs.toArray:=fun j hj=>by
      have hj2:j < xs.length * 2:=by simpa using hj
      have hsz2:off + c * 2≤cs.size:=hsz
      have h3:=Go.Sort.get_flatK p8 2 xs.toArray j (by simpa using hj2)
      refine⟨?_,hg.free (by omega)⟩
      rw [hg.cell,hcs j _ (lO hk (by omega) xs j hj2),h3]; simp
    have eg:∀ args w,(callFunc 63 args).run Tryz.prog w = .ok (.enter 63 args) w:=enters_of Tryz.func63 (by kernel_rfl) rfl
    have h:=AnyQ.slices_SortFunc_total Tryz.sortKey 2 Tryz.isAgg44 Tryz.sizeOf44 p8 hk (fun x v hv=>by simp [p8] at hv; rcases hv with rfl | rfl <;> rfl) bE Jk 63 #[] g off c xs.toArray W0 eg (CM g off _ W0) hH hgl (by simp; omega) H9
    change Calls Tryz.prog 112 _ _ _ at h
    rw [List.size_toArray] at h
    refine h.mono ?_
    rintro e w' ⟨rfl,q,os,rfl⟩
    have hs:(xs.toArray.toList.mergeSort fun x y=>!ltOf bE y x)=pA xs:=rfl
    rw [hs]
    obtain⟨cs',r1,r2,r3,r4⟩:=AE (enc:=p8) (n:=2) (ys:=pA xs) (q:=q) (os:=os) hk (by omega) hg hsz hnc hcs (qk xs)
    have hkM:Kt (MD [.own (.slice (some ⟨g,off,none⟩) xs.length c) 44 ac.size (xs.flatMap p8)]) W0 (sortWorldK p8 2 W0 g off q (pA xs).toArray os):=r4.mono fun j hj=>⟨_,List.mem_cons_self,by rw [hj]; rfl⟩
    refine⟨_,rfl,hkM,rfl,(pA xs).flatMap p8,wt.2 rfl,⟨fun r hr=>?_,fun r hr k hk=>?_,List.pairwise_singleton _ _⟩⟩
    · simp only [List.mem_cons,List.not_mem_nil,or_false] at hr
      subst hr
      exact⟨.inr ⟨g,off,xs.length,c,cs',rfl,by rw [jq hk,qk]; rfl,hb,r1,hnc,hc,by rw [r2]; exact hsz,r3⟩,hpos⟩
    · simp only [List.mem_cons,List.not_mem_nil,or_false] at hr; subst hr; exact .inl ⟨_,List.mem_cons_self,hk⟩
end
section
set_option maxRecDepth 100000
set_option maxHeartbeats 4000000
open Go.RowKit
noncomputable section
def pO:Option Bool:=some (true)
def i7 (e:LC) (f:LC) (b:Int):Option (Fl (Int) (Fl (Unit) Bool)):=cond (decide ((b:Int) < (e.length:Int))) ((be e b).bind fun c=>(be f b).bind fun d=>cond (!((d.Key.Kind:Int) == c.Key.Kind && d.Key.Text.toList == c.Key.Text.toList && d.Value.toList == c.Value.toList)) (some (.out (.out false))) (some (.go (IntKind.i64.wrap (b + 1))))) (some (.out (.go ())))
def lG (b:LC) (c:LC):Option Bool:=cond ((b.length:Int) != (c.length:Int)) (some (false)) ((loop (fun s:Int=>i7 b c s) 0).bind fun r=>Fl.el r (fun s=>pO) (fun y=>some (y)))
theorem qI (T:Nat→Prop) (W0:World) (hT:TW T W0) (c:LC) (f:LC) (i:Value) (j:Value) (t:aA aj T W0 i c) (u:aA aj T W0 j f) (y:Bool) (hM:lG c f=some y):aW Tryz.prog No 12 [i,j] W0 (fun v w'=>v = .bool y):=by
 refine en Tryz.func12 Tryz.ntmps12 hT fun a hS=>?_;replace hS:=(hS.fS (aA.dn t)).fS (aA.dn u);unfold lG at hM;refine ah hS fun a hS=>?_;refine az ?_;refine ah hS fun a hS=>?_;rcases cd hM with⟨l,hM⟩|⟨l,hM⟩
 ·exact fz
 refine ah hS fun a hS=>?_;refine aG (J:=fun a w=>St W0 No T 26 [] [] [] a w∧pO=some y) ?_ ?_
 ·skip;refine ah hS fun a hS=>?_;obtain⟨F,r,hMo1⟩:=bd hM;refine bu _ (fun s a w=>∃ (b:Int),b=s∧St W0 No T 26 [(1,j),(12,i),(13,.int .i64 (c.length:Int)),(14,.int .i64 b)] [] [aJ aj j f,aJ aj i c] a w) r ⟨_,rfl,hS.mt [] [0,1]⟩ ?_;rintro s a w C ⟨b,rfl,hS⟩ hM hf1;have hM:i7 c f b=some C:=hM;unfold i7 at hM;refine ah hS fun a hS=>?_;refine az ?_;rcases cd hM with⟨m,hM⟩|⟨m,hM⟩
  ·refine ah hS fun a hS=>?_;refine az ?_;refine ah hS fun a hS=>?_;obtain⟨d,g,hM⟩:=bd hM;refine wl rfl (bc (R:=aj) hS sh rK rfl rfl 1 rfl g rfl fun x E A n a hS=>?_);obtain rfl:=n;refine ah hS fun a hS=>?_;refine ka hS k9 fun z D a w hk hS=>?_;refine go hS fun a w hS=>?_;refine az ?_;refine dr [] hS fun w hQ hS=>?_;refine gE [0,1] hS fun a hS=>?_;obtain⟨e,h,hM⟩:=bd hM;obtain⟨k,q,B,o,p,hS⟩:=il (R:=aj) hS sh rK 1 rfl h;obtain rfl:=o;refine dy 2 (v:=pt k q) rfl (by kernel_rfl) (by kernel_rfl) (by kernel_rfl) rfl hQ hS (p rfl rfl) rfl rfl rfl fun a hS=>?_;refine gE [3,4] hS fun a hS=>?_;refine dy 5 (v:=.bool (!((e.Key.Kind:Int) == d.Key.Kind && e.Key.Text.toList == d.Key.Text.toList && e.Value.toList == d.Value.toList))) rfl (by kernel_rfl) (by kernel_rfl) (by kernel_rfl) rfl hQ hS (IW hS rfl rfl) rfl rfl rfl fun a hS=>?_;refine eD ?_;exact fz
  exact fz
 rintro a w ⟨hS,hM⟩;unfold pO at hM;exact fz
def mV (b:LB):Option LB:=some (b)
def ff (e:LC) (d:LB) (b:Int):Option (Fl (LB×Int) (LB)):=cond (decide ((b:Int) < (e.length:Int))) ((be e b).bind fun c=>some (.go ((cT aC c.Key c.Value d),IntKind.i64.wrap (b + 1)))) (some (.out d))
def d8 (b:LC):Option LB:=(loop (fun s:LB×Int=>ff b s.1 s.2) (([]:LB),0)).bind fun r=>mV r
theorem iA (T:Nat→Prop) (W0:World) (hT:TW T W0) (h:LC) (o:Value) (z:aA aj T W0 o h) (y:LB) (hM:d8 h=some y):aW Tryz.prog No 40 [o] W0 (fun v w'=>∃ (r:Nat) (q:Array MapEntry) (p:Nat),v = .map (some r)∧Gk ac true aN.str false T W0 w' [om r q p] r q p y):=by
 refine en Tryz.func40 Tryz.ntmps40 hT fun a hS=>?_;replace hS:=hS.fS (aA.dn z);unfold d8 at hM;refine ah hS fun a hS=>?_;refine wl rfl (ol ac true aN.str false hS rfl fun b G a w hk hS=>?_);refine ah hS fun a hS=>?_;refine aG (J:=fun a w=>∃ (l:LB) (e:AM) (j:Nat),St W0 No T 20 [(3,.map (some b))] [om b e j] [iv e l] a w∧mV l=some y) ?_ ?_
 ·skip;refine ah hS fun a hS=>?_;obtain⟨K,x,hMo1⟩:=bd hM;refine bu _ (fun s a w=>∃ (g:LB) (f:Int) (k:AM) (m:Nat),(g,f)=s∧St W0 No T 20 [(3,.map (some b)),(7,o),(8,.int .i64 (h.length:Int)),(9,.int .i64 f)] [om b k m] [iv k g,aJ aj o h] a w) x ⟨_,_,_,_,rfl,hS.mt [0] [0,1]⟩ ?_;rintro s a w F ⟨g,f,k,m,rfl,hS⟩ hM hf1;have hM:ff h g f=some F:=hM;unfold ff at hM;refine ah hS fun a hS=>?_;refine az ?_;rcases cd hM with⟨t,hM⟩|⟨t,hM⟩
  ·refine ah hS fun a hS=>?_;refine az ?_;refine ah hS fun a hS=>?_;obtain⟨d,n,hM⟩:=bd hM;refine wl rfl (bc (R:=aj) hS sh rK rfl rfl 1 rfl n rfl fun A I C u a hS=>?_);obtain rfl:=u;refine ah hS fun a hS=>?_;refine ka hS k9 fun B H a w hk hS=>?_;refine go hS fun a w hS=>?_;refine wl rfl (ub hS n9 cc 1 rfl 1 rfl (c:=(aM d.Key)) (cv:=[.string d.Value]) (key:=d.Key) (val:=d.Value) rfl rfl rfl rfl rfl fun E D w hk hS=>?_);exact fz
  exact fz
 rintro a w ⟨l,e,j,hS,hM⟩;unfold mV at hM;refine ah hS fun a hS=>?_;cases hM
 refine aE hS rfl (ap hS rfl aD) ?_;exact⟨b,e,j,rfl,hS.retMap ⟨.inr (List.mem_of_getElem? (i:=0) rfl),trivial⟩ 0 rfl 0 rfl⟩
def oM (b:LK):Option LK:=some (b)
def mb (b:Int):Option (Fl (Int) (Fl (Unit) LK)):=some (.go (IntKind.i64.wrap (b + 1)))
def jm (b:LK) (c:Int):Option (Fl (Int) (Fl (Unit) LK)):=(oz b c b.length).bind fun e=>(oz (List.take (Int.toNat c) b ++ List.replicate ((Int.toNat (b.length:Int)) - (Int.toNat c)) (ae.mk (0:Int) (ByteArray.mk #[])) ++ List.drop (Int.toNat (b.length:Int)) b) 0 c).bind fun d=>some (.out (.out d))
def jn (d:LK) (b:Int) (c:Int):Option (Fl (LK×Int×Int) (LK×Int)):=some (.go (d,b,IntKind.i64.wrap (c + 1)))
def mc (f:LK) (c:Int) (d:LK) (e:Int) (b:Int):Option (Fl (LK×Int×Int) (LK×Int)):=cond (decide ((b:Int) < (((Int.toNat (f.length:Int)) - (Int.toNat c):Nat):Int))) (gd (decide (0≤b)) <| gd (decide (b < (((Int.toNat (f.length:Int)) - (Int.toNat c):Nat):Int))) <| (be d ((((Int.toNat c):Nat):Int) + b)).bind fun g=>gd (decide (0≤IntKind.i64.wrap (b - 1))) <| gd (decide (IntKind.i64.wrap (b - 1) < (((Int.toNat (f.length:Int)) - (Int.toNat c):Nat):Int))) <| (be d ((((Int.toNat c):Nat):Int) + (IntKind.i64.wrap (b - 1)))).bind fun h=>cond (!((g.Kind:Int) == h.Kind && g.Text.toList == h.Text.toList)) (gd (decide (0≤b)) <| gd (decide (b < (((Int.toNat (f.length:Int)) - (Int.toNat c):Nat):Int))) <| (be d ((((Int.toNat c):Nat):Int) + b)).bind fun i=>(be d e).bind fun j=>jn (d.set (Int.toNat e) i) (IntKind.i64.wrap (e + 1)) b) (jn d e b)) (some (.out (d,e)))
def me (c:LK) (b:Int):Option (Fl (Int) (Fl (Unit) LK)):=cond (decide ((b:Int) < (c.length:Int))) ((be c b).bind fun d=>(be c (IntKind.i64.wrap (b - 1))).bind fun e=>cond ((d.Kind:Int) == e.Kind && d.Text.toList == e.Text.toList) ((oz c b c.length).bind fun f=>(loop (fun s:LK×Int×Int=>mc c b s.1 s.2.1 s.2.2) (c,b,1)).bind fun r=>jm r.1 r.2) (mb b)) (some (.out (.go ())))
def lN (b:LK):Option LK:=cond (decide ((b.length:Int) < 2)) (some (b)) ((loop (fun s:Int=>me b s) 1).bind fun r=>Fl.el r (fun s=>oM b) (fun y=>some (y)))
theorem wM (T:Nat→Prop) (W0:World) (hT:TW T W0) (d:LK) (b:Value) (sJ:List Value) (hD:vd T W0 [au b sJ]) (d4:aB ac (dT T [au b sJ]) W0 sJ d) (y:LK) (hM:lN d=some y):aW Tryz.prog (MD [au b sJ]) 113 [b] W0 (fun v w'=>∃ (v3:Value) (qT:List Value),v=v3∧aB ac (dT T [au v3 qT]) w' qT y∧n7 W0 w' [au b sJ] [au v3 qT]):=by
 refine jp (c:=_) Tryz.func113 rfl T 61 Tryz.ntmps113 hT rfl hD fun a hS=>?_;replace hS:=hS.fR d4;unfold lN at hM;refine ah hS fun a hS=>?_;refine az ?_;refine ah hS fun a hS=>?_;rcases cd hM with⟨Y,hM⟩|⟨Y,hM⟩
 ·refine ah hS fun a hS=>?_;cases hM
  refine aE hS rfl (ap hS rfl aD) ?_;have hZ:=hS.sl [0] [0];exact⟨b,sJ,rfl,(hZ.get 0 rfl),hZ.dnew⟩
 refine ah hS fun a hS=>?_;refine aG (J:=fun a w=>St W0 (MD [au b sJ]) T 61 [(0,b)] [au b sJ] [am ac sJ d] a w∧oM d=some y) ?_ ?_
 ·skip;refine ah hS fun a hS=>?_;obtain⟨r1,d2,hMo1⟩:=bd hM;refine bu _ (fun s a w=>∃ (e:Int),e=s∧St W0 (MD [au b sJ]) T 61 [(0,b),(3,.int .i64 e)] [au b sJ] [am ac sJ d] a w) d2 ⟨_,rfl,hS.mt [0] [0]⟩ ?_;rintro s a w F ⟨e,rfl,hS⟩ hM hf1;have hM:me d e=some F:=hM;unfold me at hM;refine az ?_;refine ah hS fun a hS=>?_;rcases cd hM with⟨Z,hM⟩|⟨Z,hM⟩
  ·refine ah hS fun a hS=>?_;refine aG (J:=fun a w=>St W0 (MD [au b sJ]) T 61 [(0,b),(3,.int .i64 e)] [au b sJ] [am ac sJ d] a w∧mb e=some F) ?_ ?_
   ·skip;refine ah hS fun a hS=>?_;refine az ?_;refine dr [] hS fun w hQ hS=>?_;refine gE [0,1] hS fun a hS=>?_;obtain⟨o,K,hM⟩:=bd hM;obtain⟨P,cb,em,da,a0,a1,a2,a3⟩:=kG (R:=ac) hS jd dd 0 rfl 0 rfl K;obtain rfl:=a0;refine dy 2 (v:=pt P cb) rfl (by kernel_rfl) (by kernel_rfl) (by kernel_rfl) rfl hQ hS (a3 rfl rfl) rfl rfl rfl fun a hS=>?_;refine dy (l:=[]) 3 (v:=.agg (aM o).toArray) rfl (by kernel_rfl) (by kernel_rfl) (by kernel_rfl) (by kernel_rfl) hQ hS (bL (k:=0) hS dd 0 rfl a1 a2 rfl bo (us:=(aM o)) rfl rfl (fun h=>by cases h)) rfl rfl rfl fun a hS=>?_;refine gE [4,5,6] hS fun a hS=>?_;obtain⟨p,L,hM⟩:=bd hM;obtain⟨Q,ch,eq,dc,a4,a5,a9,ab⟩:=kG (R:=ac) hS jd dd 0 rfl 0 rfl L;obtain rfl:=a4;refine dy 7 (v:=pt Q ch) rfl (by kernel_rfl) (by kernel_rfl) (by kernel_rfl) rfl hQ hS (ab rfl rfl) rfl rfl rfl fun a hS=>?_;refine dy (l:=[]) 8 (v:=.agg (aM p).toArray) rfl (by kernel_rfl) (by kernel_rfl) (by kernel_rfl) (by kernel_rfl) hQ hS (bL (k:=0) hS dd 0 rfl a5 a9 rfl bo (us:=(aM p)) rfl rfl (fun h=>by cases h)) rfl rfl rfl fun a hS=>?_;refine dy 9 (v:=.bool ((o.Kind:Int) == p.Kind && o.Text.toList == p.Text.toList)) rfl (by kernel_rfl) (by kernel_rfl) (by kernel_rfl) rfl hQ hS (wP hS rfl rfl) rfl rfl rfl fun a hS=>?_;refine eD ?_;refine ah hS fun a hS=>?_;rcases cd hM with⟨af,hM⟩|⟨af,hM⟩
    ·refine ah hS fun a hS=>?_;obtain⟨eg,O,hM⟩:=bd hM;obtain⟨g,e4,ag,ak⟩:=F2 (R:=ac) hS jd dd 0 rfl 0 rfl O;replace hS:=hS.fact (Ee 2 b g (Int.toNat e) (Int.toNat (d.length:Int)) d.length) ag;refine wl rfl (ky (v:=g) hS (ak (k2:=.i64) rfl (.inl ⟨_,rfl,rfl⟩) (.inr ⟨rfl,rfl⟩)) rfl rfl fun a hS=>?_);refine ah hS fun a hS=>?_;refine aG (J:=fun a w=>∃ (f:LK) (q:Int) (t:LV),St W0 (MD [au b sJ]) T 61 [(0,b),(3,.int .i64 q)] [au b t] [am ac t f] a w∧jm f q=some F) ?_ ?_
     ·skip;refine ah hS fun a hS=>?_;obtain⟨r2,d3,hMo2⟩:=bd hM;refine bu _ (fun s a w=>∃ (j:LK) (i:Int) (r:Int) (u:LV),(j,i,r)=s∧St W0 (MD [au b sJ]) T 61 [(0,b),(3,.int .i64 i),(4,g),(5,.int .i64 r)] [au b u] [am ac u j,Ee 2 b g (Int.toNat e) (Int.toNat (d.length:Int)) d.length] a w) d3 ⟨_,_,_,_,rfl,hS.mt [0] [1,0]⟩ ?_;rintro s a w f2 ⟨j,i,r,u,rfl,hS⟩ hM hf2;have hM:mc d e j i r=some f2:=hM;unfold mc at hM;refine az ?_;refine ah hS fun a hS=>?_;refine qy hS (HV hS jd rfl (hS.get 1 rfl)) fun a hS=>?_;refine ah hS fun a hS=>?_;rcases cd hM with⟨ao,hM⟩|⟨ao,hM⟩
      ·refine ah hS fun a hS=>?_;refine aG (J:=fun a w=>∃ (C:LK) (A:Int) (B:Int) (x:LV),St W0 (MD [au b sJ]) T 61 [(0,b),(3,.int .i64 A),(4,g),(5,.int .i64 B)] [au b x] [am ac x C,Ee 2 b g (Int.toNat e) (Int.toNat (d.length:Int)) d.length] a w∧jn C A B=some f2) ?_ ?_
       ·skip;refine ah hS fun a hS=>?_;refine az ?_;refine dr [] hS fun w hQ hS=>?_;refine gE [0,1] hS fun a hS=>?_;obtain⟨av,hM⟩:=aS hM;obtain⟨ax,hM⟩:=aS hM;obtain⟨m,G,hM⟩:=bd hM;obtain⟨S,ck,er,dk,b0,b1,b2,b3⟩:=vC (R:=ac) hS jd dd 0 rfl 0 rfl (hS.get 1 rfl) av ax G;obtain rfl:=b0;refine dy 2 (v:=pt S ck) rfl (by kernel_rfl) (by kernel_rfl) (by kernel_rfl) rfl hQ hS (b3 rfl rfl) rfl rfl rfl fun a hS=>?_;refine dy (l:=[]) 3 (v:=.agg (aM m).toArray) rfl (by kernel_rfl) (by kernel_rfl) (by kernel_rfl) (by kernel_rfl) hQ hS (bL (k:=0) hS dd 0 rfl b1 b2 rfl bo (us:=(aM m)) rfl rfl (fun h=>by cases h)) rfl rfl rfl fun a hS=>?_;refine gE [4,5,6] hS fun a hS=>?_;obtain⟨b4,hM⟩:=aS hM;obtain⟨b5,hM⟩:=aS hM;obtain⟨n,H,hM⟩:=bd hM;obtain⟨U,cl,et,dl,b6,b8,b9,bb⟩:=vC (R:=ac) hS jd dd 0 rfl 0 rfl (hS.get 1 rfl) b4 b5 H;obtain rfl:=b6;refine dy 7 (v:=pt U cl) rfl (by kernel_rfl) (by kernel_rfl) (by kernel_rfl) rfl hQ hS (bb rfl rfl) rfl rfl rfl fun a hS=>?_;refine dy (l:=[]) 8 (v:=.agg (aM n).toArray) rfl (by kernel_rfl) (by kernel_rfl) (by kernel_rfl) (by kernel_rfl) hQ hS (bL (k:=0) hS dd 0 rfl b8 b9 rfl bo (us:=(aM n)) rfl rfl (fun h=>by cases h)) rfl rfl rfl fun a hS=>?_;refine dy 9 (v:=.bool (!((m.Kind:Int) == n.Kind && m.Text.toList == n.Text.toList))) rfl (by kernel_rfl) (by kernel_rfl) (by kernel_rfl) rfl hQ hS (vJ hS rfl rfl) rfl rfl rfl fun a hS=>?_;refine eD ?_;refine ah hS fun a hS=>?_;rcases cd hM with⟨bi,hM⟩|⟨bi,hM⟩
        ·refine ah hS fun a hS=>?_;obtain⟨bl,hM⟩:=aS hM;obtain⟨bs,hM⟩:=aS hM;obtain⟨z,I,hM⟩:=bd hM;obtain⟨V,co,ex,dn,bt,c0,c1,c2⟩:=vC (R:=ac) hS jd dd 0 rfl 0 rfl (hS.get 1 rfl) bl bs I;obtain rfl:=bt;refine wl rfl (ky (v:=pt V co) hS (c2 rfl rfl) rfl rfl fun a hS=>?_);refine qy hS (bL (k:=0) hS dd 0 rfl c0 c1 rfl id (us:=(aM z)) rfl rfl (fun h=>by cases h)) fun a hS=>?_;obtain⟨X,D,hM⟩:=bd hM;refine wl rfl (cR (R:=ac) hS jd dd rfl rfl 0 rfl 0 rfl D rfl fun d6 el eT ds c3 c4 c5 a hS=>?_);obtain rfl:=c3;refine wl rfl (oU (R:=ac) (k:=0) (cs:=(aM X)) (us:=(aM z)) (x':=z) hS rfl rfl rfl dd 0 rfl 0 rfl c4 c5 D rfl rfl rfl rfl fun e2 w hk hS=>?_);exact fz
        exact fz
       rintro a w ⟨C,A,B,x,hS,hM⟩;unfold jn at hM;exact fz
      refine ah hS fun a hS=>?_;cases hM
      have hr:=hf2 _ rfl;subst hr;have hM:jm j i=some F:=hMo2;exact⟨_,_,_,hS.mt [0] [0],hM⟩
     rintro a w ⟨f,q,t,hS,hM⟩;unfold jm at hM;refine ah hS fun a hS=>?_;obtain⟨ea,M,hM⟩:=bd hM;obtain⟨E,e5,c9,ca⟩:=F2 (R:=ac) hS jd dd 0 rfl 0 rfl M;replace hS:=hS.fact (Ee 2 b E (Int.toNat q) (Int.toNat (f.length:Int)) f.length) c9;refine wl rfl (ky (v:=E) hS (ca (k2:=.i64) rfl (.inl ⟨_,rfl,rfl⟩) (.inr ⟨rfl,rfl⟩)) rfl rfl fun a hS=>?_);refine wl rfl (E2 (R:=ac) (z0:=(ae.mk (0:Int) (ByteArray.mk #[]))) (xs:=f) hS gm gh rfl 0 rfl 1 rfl (hS.get 0 rfl) rfl fun e3 w hk hS=>?_);refine ah hS fun a hS=>?_;obtain⟨ed,N,hM⟩:=bd hM;refine wl rfl (Hr (R:=ac) (k1:=.i64) hS jd dd rfl (.inr ⟨rfl,rfl⟩) (.inl ⟨_,rfl,rfl⟩) 0 rfl 0 rfl N rfl fun cv W a hS=>?_);refine ah hS fun a hS=>?_;cases hM
     have hr:=hf1 _ rfl;subst hr;replace hMo1:=jo hMo1;have hM:=hMo1;cases hM
     refine aE hS rfl (ap hS rfl aD) ?_;have hZ:=hS.sl [0] [0];exact⟨cv,W,rfl,(hZ.get 0 rfl),hZ.dnew⟩
    exact fz
   rintro a w ⟨hS,hM⟩;unfold mb at hM;exact fz
  exact fz
 rintro a w ⟨hS,hM⟩;unfold oM at hM;refine ah hS fun a hS=>?_;cases hM
 refine aE hS rfl (ap hS rfl aD) ?_;have hZ:=hS.sl [0] [0];exact⟨b,sJ,rfl,(hZ.get 0 rfl),hZ.dnew⟩
def oY (d:LK):Option LK:=(lM d).bind fun b=>gd (br b.length) <| (lN (pA b)).bind fun c=>some (c)
theorem x9 (T:Nat→Prop) (W0:World) (hT:TW T W0) (hLv:cU T W0) (d:LK) (q:Value) (p:aA ac T W0 q d) (y:LK) (hM:oY d=some y):aW Tryz.prog No 76 [q] W0 (fun v w'=>∃ (o:Value) (oh:List Value),v=o∧fu ac T W0 w' [au o oh] 44 o oh y):=by
 refine en Tryz.func76 Tryz.ntmps76 hT fun a hS=>?_;replace hS:=(hS.fact bv (cU.dn hLv)).fS (aA.dn p);unfold oY at hM;refine ah hS fun a hS=>?_;obtain⟨m,e,hM⟩:=bd hM;refine kc hS FL (uC _ _ hS.dlt d _ (hS.get 0 rfl) _ e) fun _ w hR a hk hA=>?_;obtain⟨u,r,he,b⟩:=hR;obtain rfl:=he.symm;have hS:=oI hA b;refine ah hS fun a hS=>?_;obtain⟨h,hM⟩:=aS hM;replace hS:=hS.re [0] [];refine wl rfl (cu hS Ig rfl rfl (Cm _ _ _ _ _ hS.dok (hS.getD 0 rfl) h) fun _ w hR a hk hA=>?_);obtain⟨he,s,j,k⟩:=hR;subst he;have hS:=hA _ k;replace hS:=hS.fR (j.keep (Kt.refl _ _) (aw _));refine ah hS fun a hS=>?_;obtain⟨t,f,hM⟩:=bd hM;replace hS:=hS.re [0] [];refine wl rfl (cu hS Ih rfl rfl (wM _ _ hS.dltD (pA m) _ _ hS.dok (hS.getD 0 rfl) _ f) fun _ w hR a hk hA=>?_);obtain⟨n,g,he,c,l⟩:=hR;obtain rfl:=he.symm;have hS:=hA _ l;replace hS:=hS.fR (c.keep (Kt.refl _ _) (aw _));refine ah hS fun a hS=>?_;cases hM
 refine aE hS rfl (ap hS rfl aD) ?_;exact⟨n,g,rfl,hS.retOwn ⟨.inr (List.mem_of_getElem? (i:=0) rfl),trivial⟩ 0 rfl 0 rfl⟩
def l8 (b:LK):Option LK:=(oY b).bind fun c=>some (c)
def l9 (b:Int) (c:LK):Option (Fl (LK×Int) (LK)):=some (.go (c,IntKind.i64.wrap (b + 1)))
def gF (d:LC) (c:LK) (b:Int):Option (Fl (LK×Int) (LK)):=cond (decide ((b:Int) < (d.length:Int))) ((be d b).bind fun e=>gd (br (c.length + ([e.Key]).length)) <| some (.go ((c ++ ([e.Key])),IntKind.i64.wrap (b + 1)))) (some (.out c))
def gG (b:(List LC)) (d:LK) (c:Int):Option (Fl (LK×Int) (LK)):=cond (decide ((c:Int) < (b.length:Int))) ((be b c).bind fun e=>(loop (fun s:LK×Int=>gF e s.1 s.2) (d,0)).bind fun r=>l9 c r) (some (.out d))
def lL (b:(List LC)):Option LK:=(loop (fun s:LK×Int=>gG b s.1 s.2) (([]:List ae),0)).bind fun r=>l8 r
theorem sm (T:Nat→Prop) (W0:World) (hT:TW T W0) (hLv:cU T W0) (b:(List LC)) (j:Value) (V:aA (aN.slice aj) T W0 j b) (y:LK) (hM:lL b=some y):aW Tryz.prog No 41 [j] W0 (fun v w'=>∃ (q:Value) (oh:List Value),v=q∧fu ac T W0 w' [au q oh] 44 q oh y):=by
 refine en Tryz.func41 Tryz.ntmps41 hT fun a hS=>?_;replace hS:=(hS.fact bv (cU.dn hLv)).fS (aA.dn V);unfold lL at hM;refine ah hS fun a hS=>?_;refine aG (J:=fun a w=>∃ (g:LK) (r:Value) (k:LV),St W0 No T 29 [(3,r)] [au r k] [am ac k g,bv] a w∧l8 g=some y) ?_ ?_
 ·skip;refine ah hS fun a hS=>?_;replace hS:=hS.nilRow ac 44 (by decide);obtain⟨r1,S,hMo1⟩:=bd hM;refine bu _ (fun s a w=>∃ (h:LK) (c:Int) (t:Value) (l:LV),(h,c)=s∧St W0 No T 29 [(3,t),(8,j),(9,.int .i64 (b.length:Int)),(10,.int .i64 c)] [au t l] [am ac l h,aJ (aN.slice aj) j b,bv] a w) S ⟨_,_,_,_,rfl,hS.mt [0] [0,1,2]⟩ ?_;rintro s a w Q ⟨h,c,t,l,rfl,hS⟩ hM hf1;have hM:gG b h c=some Q:=hM;unfold gG at hM;refine ah hS fun a hS=>?_;refine az ?_;rcases cd hM with⟨L,hM⟩|⟨L,hM⟩
  ·refine ah hS fun a hS=>?_;refine aG (J:=fun a w=>∃ (p:LK) (u:Value) (m:LV),St W0 No T 29 [(3,u),(8,j),(9,.int .i64 (b.length:Int)),(10,.int .i64 c)] [au u m] [am ac m p,aJ (aN.slice aj) j b,bv] a w∧l9 c p=some Q) ?_ ?_
   ·skip;refine ah hS fun a hS=>?_;obtain⟨o,G,hM⟩:=bd hM;refine wl rfl (bc (R:=(aN.slice aj)) hS Gb Js rfl rfl 1 rfl G rfl fun W a5 a0 M a hS=>?_);obtain⟨E,rfl,K⟩:=M;replace hS:=hS.fS K;refine ah hS fun a hS=>?_;obtain⟨r2,U,hMo2⟩:=bd hM;refine bu _ (fun s a w=>∃ (e:LK) (f:Int) (z:Value) (n:LV),(e,f)=s∧St W0 No T 29 [(3,z),(8,j),(9,.int .i64 (b.length:Int)),(10,.int .i64 c),(14,E),(15,.int .i64 (o.length:Int)),(16,.int .i64 f)] [au z n] [am ac n e,aJ (aN.slice aj) j b,aJ aj E o,bv] a w) U ⟨_,_,_,_,rfl,hS.mt [0] [2,3,0,4]⟩ ?_;rintro s a w f2 ⟨e,f,z,n,rfl,hS⟩ hM hf2;have hM:gF o e f=some f2:=hM;unfold gF at hM;refine ah hS fun a hS=>?_;refine az ?_;rcases cd hM with⟨N,hM⟩|⟨N,hM⟩
    ·refine ah hS fun a hS=>?_;refine az ?_;refine ah hS fun a hS=>?_;obtain⟨d,H,hM⟩:=bd hM;refine wl rfl (bc (R:=aj) hS sh rK rfl rfl 2 rfl H rfl fun X a9 a1 O a hS=>?_);obtain rfl:=O;refine ah hS fun a hS=>?_;refine ka hS k9 fun Y a4 a w hk hS=>?_;refine go hS fun a w hS=>?_;refine wl rfl (aT (ps:=[(0,.tmp 22)]) hS gm gh (zl:=[.int .i64 0,.string (ByteArray.mk #[])]) (by kernel_rfl) rfl (us:=[(aM d.Key)]) ⟨rfl,trivial⟩ (ws:=(aM d.Key)) rfl rfl rfl rfl fun Z a w hk hS=>?_);replace hS:=(hS.lit (R:=ac) (us:=(aM d.Key)) (xs:=[d.Key]) 0 rfl (by decide) (aB.one_ (R:=ac) (x:=d.Key) rfl) rfl rfl).freeze (R:=ac) 0 rfl 0 rfl;obtain⟨P,hM⟩:=aS hM;refine wl rfl (bw (R:=ac) (xs:=e) (ys:=[d.Key]) hS gm (by decide) (by decide) rfl rfl 1 rfl 3 rfl 0 rfl P rfl fun af a2 a w hk hS=>?_);exact fz
    exact fz
   rintro a w ⟨p,u,m,hS,hM⟩;unfold l9 at hM;exact fz
  exact fz
 rintro a w ⟨g,r,k,hS,hM⟩;unfold l8 at hM;refine ah hS fun a hS=>?_;have hL:=hS;replace hL:=hL.freeze (R:=ac) 0 rfl 0 rfl;obtain⟨ab,I,hM⟩:=bd hM;refine kc hS Ke (x9 _ _ hL.dlt (hL.get 2 rfl) g _ (hL.get 0 rfl) _ I) fun _ w hR a hk hA=>?_;obtain⟨F,A,he,⟨C,B,D⟩⟩:=hR;obtain rfl:=he.symm;have hS:=hA [au F A] (eA ⟨C,by decide⟩ B) (ro _);replace hS:=hS.fR D;refine ah hS fun a hS=>?_;cases hM
 refine aE hS rfl (ap hS rfl aD) ?_;exact⟨F,A,rfl,hS.retOwn ⟨.inr (List.mem_of_getElem? (i:=0) rfl),trivial⟩ 0 rfl 0 rfl⟩
def oJ (b:LC):Option LC:=some (b)
def fv (b:Int) (c:LC):Option (Fl (LC×Int) (LC)):=some (.go (c,IntKind.i64.wrap (b + 1)))
def gC (h:LB) (e:LB) (f:LK) (d:LC) (c:Int):Option (Fl (LC×Int) (LC)):=cond (decide ((c:Int) < (f.length:Int))) ((be f c).bind fun b=>(some ((bQ aC b h).getD (ByteArray.mk #[]))).bind fun i=>(some ((bQ aC b e).getD (ByteArray.mk #[]))).bind fun j=>cond (!(i.toList == j.toList)) ((some ((bQ aC b e).getD (ByteArray.mk #[]))).bind fun g=>gd (br (d.length + ([(aq.mk b g)]).length)) <| fv c (d ++ ([(aq.mk b g)]))) (fv c d)) (some (.out d))
def e6 (b:LC) (c:LC):Option LC:=(d8 b).bind fun d=>(d8 c).bind fun e=>(lL ([b,c])).bind fun f=>(loop (fun s:LC×Int=>gC d e f s.1 s.2) (([]:List aq),0)).bind fun r=>oJ r
theorem gk (T:Nat→Prop) (W0:World) (hT:TW T W0) (hLv:cU T W0) (e:LC) (g:LC) (W:Value) (X:Value) (b9:aA aj T W0 W e) (bb:aA aj T W0 X g) (y:LC) (hM:e6 e g=some y):aW Tryz.prog No 14 [W,X] W0 (fun v w'=>∃ (v3:Value) (qT:List Value),v=v3∧fu aj T W0 w' [bn v3 qT] 46 v3 qT y):=by
 refine en Tryz.func14 Tryz.ntmps14 hT fun a hS=>?_;replace hS:=((hS.fact bv (cU.dn hLv)).fS (aA.dn b9)).fS (aA.dn bb);unfold e6 at hM;refine ah hS fun a hS=>?_;obtain⟨H,Z,hM⟩:=bd hM;refine kc hS CK (iA _ _ hS.dlt e _ (hS.get 1 rfl) _ Z) fun _ w hR a hk hA=>?_;obtain⟨j,o,B,he,⟨O,L,S⟩⟩:=hR;obtain rfl:=he.symm;have hS:=hA [om j o B] (eA O (qB L)) (ro _);replace hS:=hS.fM (S.keep (Kt.refl _ _) (iB _));refine ah hS fun a hS=>?_;obtain⟨I,a0,hM⟩:=bd hM;refine kc hS CK (iA _ _ hS.dlt g _ (hS.get 1 rfl) _ a0) fun _ w hR a hk hA=>?_;obtain⟨m,p,C,he,⟨P,M,U⟩⟩:=hR;obtain rfl:=he.symm;have hS:=hA [om m p C] (eA P (qB M)) (ro _);replace hS:=hS.fM (U.keep (Kt.refl _ _) (iB _));refine ah hS fun a hS=>?_;refine aG (J:=fun a w=>∃ (F:LC) (z:Value) (u:LV),St W0 No T 40 [(7,z)] [bn z u] [am aj u F,bv] a w∧oJ F=some y) ?_ ?_
 ·skip;refine ah hS fun a hS=>?_;refine wl rfl (aT (ps:=[(0,.tmp 14),(1,.tmp 15)]) hS F4 JD (zl:=[.slice none 0 0,.slice none 0 0]) (by kernel_rfl) rfl (us:=[[W],[X]]) ⟨(ik (aA.one ((hS.get 3 rfl):aA aj _ _ _ _))),⟨(ik (aA.one ((hS.get 2 rfl):aA aj _ _ _ _))),trivial⟩⟩ (ws:=[W,X]) rfl rfl rfl rfl fun bi a w hk hS=>?_);replace hS:=hS.lit (R:=(aN.slice aj)) (us:=[W,X]) (xs:=[e,g]) 0 rfl (by decide) ((aB.one_ (R:=(aN.slice aj)) (x:=e) (⟨_,rfl,(hS.get 3 rfl)⟩)).append (aB.one_ (R:=(aN.slice aj)) (x:=g) (⟨_,rfl,(hS.get 2 rfl)⟩))) rfl rfl;have hL:=hS;replace hL:=hL.freeze (R:=(aN.slice aj)) 0 rfl 0 rfl;obtain⟨r,a1,hM⟩:=bd hM;refine kc hS IL (sm _ _ hL.dlt (hL.get 6 rfl) ([e,g]) _ (hL.get 0 rfl) _ a1) fun _ w hR a hk hA=>?_;obtain⟨t,n,he,⟨Q,N,V⟩⟩:=hR;obtain rfl:=he.symm;have hS:=hA [au t n] (eA ⟨Q,by decide⟩ N) (ro _);replace hS:=hS.fR V;refine ah hS fun a hS=>?_;replace hS:=hS.nilRow aj 46 (by decide);obtain⟨r1,b8,hMo1⟩:=bd hM;refine bu _ (fun s a w=>∃ (q:LC) (f:Int) (A:Value) (D:LV),(q,f)=s∧St W0 No T 40 [(5,.map (some j)),(6,.map (some m)),(7,A),(17,t),(18,.int .i64 (r.length:Int)),(19,.int .i64 f)] [om j o B,om m p C,bn A D,au t n] [iv o H,iv p I,am aj D q,am ac n r,bv] a w) b8 ⟨_,_,_,_,rfl,hS.mt [4,3,0,1] [4,3,0,1,7]⟩ ?_;rintro s a w f1 ⟨q,f,A,D,rfl,hS⟩ hM hf1;have hM:gC H I r q f=some f1:=hM;unfold gC at hM;refine ah hS fun a hS=>?_;refine az ?_;rcases cd hM with⟨a5,hM⟩|⟨a5,hM⟩
  ·refine ah hS fun a hS=>?_;refine aG (J:=fun a w=>∃ (G:LC) (K:Value) (E:LV),St W0 No T 40 [(5,.map (some j)),(6,.map (some m)),(7,K),(17,t),(18,.int .i64 (r.length:Int)),(19,.int .i64 f)] [om j o B,om m p C,bn K E,au t n] [iv o H,iv p I,am aj E G,am ac n r,bv] a w∧fv f G=some f1) ?_ ?_
   ·skip;refine ah hS fun a hS=>?_;obtain⟨b,Y,hM⟩:=bd hM;refine wl rfl (cR (R:=ac) hS jd dd rfl rfl 3 rfl 3 rfl Y rfl fun bl c9 ca c0 a9 ab af a hS=>?_);obtain rfl:=a9;refine qy hS (bL (k:=0) hS dd 3 rfl ab af rfl id (us:=(aM b)) rfl rfl (fun h=>by cases h)) fun a hS=>?_;refine ka hS gh fun bs c5 a w hk hS=>?_;refine go hS fun a w hS=>?_;refine az ?_;refine dr [] hS fun w hQ hS=>?_;refine gE [0,1] hS fun a hS=>?_;obtain⟨b3,a2,hM⟩:=bd hM;obtain⟨c1,ag,ak⟩:=dO hS n9 cc 1 rfl 0 rfl (c:=(aM b)) (key:=b) rfl zR (zc:=[.string (ByteArray.mk #[])]) rfl rfl a2;obtain rfl:=ag;refine dy (l:=[]) 2 (v:=.string b3) rfl (by kernel_rfl) (by kernel_rfl) (by kernel_rfl) (by kernel_rfl) hQ hS (ak rfl rfl bo) rfl rfl rfl fun a hS=>?_;refine gE [3,4] hS fun a hS=>?_;obtain⟨b4,a3,hM⟩:=bd hM;obtain⟨c2,ao,av⟩:=dO hS n9 cc 2 rfl 1 rfl (c:=(aM b)) (key:=b) rfl zR (zc:=[.string (ByteArray.mk #[])]) rfl rfl a3;obtain rfl:=ao;refine dy (l:=[]) 5 (v:=.string b4) rfl (by kernel_rfl) (by kernel_rfl) (by kernel_rfl) (by kernel_rfl) hQ hS (av rfl rfl bo) rfl rfl rfl fun a hS=>?_;refine gE [6] hS fun a hS=>?_;refine eD ?_;refine ah hS fun a hS=>?_;rcases cd hM with⟨ax,hM⟩|⟨ax,hM⟩
    ·refine ah hS fun a hS=>?_;refine dr [(7,.blk (Value.ownBlock A))] hS fun w hQ hS=>?_;refine gE [0,1,2,3] hS fun a hS=>?_;obtain⟨d,a4,hM⟩:=bd hM;obtain⟨c3,b0,b1⟩:=dO hS n9 cc 2 rfl 1 rfl (c:=(aM b)) (key:=b) rfl zR (zc:=[.string (ByteArray.mk #[])]) rfl rfl a4;obtain rfl:=b0;refine dy (l:=[]) 4 (v:=.string d) rfl (by kernel_rfl) (by kernel_rfl) (by kernel_rfl) (by kernel_rfl) hQ hS (b1 rfl rfl bo) rfl rfl rfl fun a hS=>?_;refine dy 5 (v:=.agg #[.int .i64 b.Kind,.string b.Text,.string d]) rfl (by kernel_rfl) (by kernel_rfl) (by kernel_rfl) rfl hQ hS (bj (ps:=[(0,.tmp 31),(1,.tmp 34)]) hS vX k9 rfl (us:=[(aM b),[.string d]]) ⟨rfl,⟨rfl,trivial⟩⟩ (ws:=[.int .i64 b.Kind,.string b.Text,.string d]) rfl) rfl rfl rfl fun a hS=>?_;refine e1 6 (aT (ps:=[(0,.tmp 35)]) hS tj k9 (zl:=[.int .i64 0,.string (ByteArray.mk #[]),.string (ByteArray.mk #[])]) (by kernel_rfl) rfl (us:=[[.int .i64 b.Kind,.string b.Text,.string d]]) ⟨rfl,trivial⟩ (ws:=[.int .i64 b.Kind,.string b.Text,.string d]) rfl rfl rfl rfl fun bt a w hk hS=>⟨fc (hk),?_⟩);replace hS:=(hS.lit (R:=aj) (us:=[.int .i64 b.Kind,.string b.Text,.string d]) (xs:=[(aq.mk b d)]) 0 rfl (by decide) (aB.one_ (R:=aj) (x:=(aq.mk b d)) rfl) rfl rfl).freeze (R:=aj) 0 rfl 0 rfl;obtain⟨b2,hM⟩:=aS hM;refine e1 7 (bw (R:=aj) (xs:=q) (ys:=[(aq.mk b d)]) hS tj (by decide) (by decide) rfl rfl 3 rfl 4 rfl 0 rfl b2 rfl fun cb c4 a w hk hS=>⟨kB rfl hk kH,?_⟩);refine gE [8] hS fun a hS=>?_;refine eD ?_;exact⟨_,_,_,hS.mt [1,2,3,4] [3,4,0,6,7],hM⟩
    exact fz
   rintro a w ⟨G,K,E,hS,hM⟩;unfold fv at hM;exact fz
  exact fz
 rintro a w ⟨F,z,u,hS,hM⟩;unfold oJ at hM;refine ah hS fun a hS=>?_;cases hM
 refine aE hS rfl (ap hS rfl aD) ?_;exact⟨z,u,rfl,hS.retOwn ⟨.inr (List.mem_of_getElem? (i:=0) rfl),trivial⟩ 0 rfl 0 rfl⟩
def fw (b:LC):Option Bool:=some (decide ((b.length:Int)≤64))
def b7 (b:Int) (c:Bool):Option (Fl (Int) (Fl (Unit) Bool)):=cond c (some (.out (.out false))) (some (.go (IntKind.i64.wrap (b + 1))))
def dW (d:LC) (b:Int):Option (Fl (Int) (Fl (Unit) Bool)):=cond (decide ((b:Int) < (d.length:Int))) ((be d b).bind fun c=>(fh c.Key).bind fun f=>cond (!(f)) (b7 b true) ((mZ c.Key).bind fun g=>cond (!(g)) (b7 b true) (cond (c.Value.toList == (ByteArray.mk #[]).toList) (b7 b true) (cond (decide ((1073741824:Int) < (c.Value.size:Int))) (b7 b true) (cond (decide ((0:Int) < b)) ((be d (IntKind.i64.wrap (b - 1))).bind fun e=>(pu e.Key c.Key).bind fun h=>b7 b (decide ((0:Int)≤h))) (b7 b false)))))) (some (.out (.go ())))
def cz (b:LC):Option Bool:=(loop (fun s:Int=>dW b s) 0).bind fun r=>Fl.el r (fun s=>fw b) (fun y=>some (y))
theorem jf (T:Nat→Prop) (W0:World) (hT:TW T W0) (hLv:cU T W0) (b:LC) (d:Value) (E:aA aj T W0 d b) (y:Bool) (hM:cz b=some y):aW Tryz.prog No 37 [d] W0 (fun v w'=>v = .bool y):=by
 refine en Tryz.func37 Tryz.ntmps37 hT fun a hS=>?_;replace hS:=(hS.fact bv (cU.dn hLv)).fS (aA.dn E);unfold cz at hM;refine ah hS fun a hS=>?_;refine aG (J:=fun a w=>St W0 No T 53 [(0,d)] [] [aJ aj d b,bv] a w∧fw b=some y) ?_ ?_
 ·skip;refine ah hS fun a hS=>?_;obtain⟨P,l,hMo1⟩:=bd hM;refine bu _ (fun s a w=>∃ (c:Int),c=s∧St W0 No T 53 [(0,d),(5,d),(6,.int .i64 (b.length:Int)),(7,.int .i64 c)] [] [aJ aj d b,bv] a w) l ⟨_,rfl,hS.mt [] [0,1]⟩ ?_;rintro s a w D ⟨c,rfl,hS⟩ hM hf1;have hM:dW b c=some D:=hM;unfold dW at hM;refine ah hS fun a hS=>?_;refine az ?_;rcases cd hM with⟨r,hM⟩|⟨r,hM⟩
  ·refine ah hS fun a hS=>?_;refine az ?_;refine ah hS fun a hS=>?_;obtain⟨e,j,hM⟩:=bd hM;refine wl rfl (bc (R:=aj) hS sh rK rfl rfl 0 rfl j rfl fun F L H t a hS=>?_);obtain rfl:=t;refine ah hS fun a hS=>?_;refine ka hS k9 fun G K a w hk hS=>?_;refine go hS fun a w hS=>?_;refine aG (J:=fun a w=>∃ (f:Bool),St W0 No T 53 [(0,d),(5,d),(6,.int .i64 (b.length:Int)),(7,.int .i64 c),(48,.bool f)] [] [aJ aj d b,bv] a w∧b7 c f=some D) ?_ ?_
   ·skip;refine dr [] hS fun w hQ hS=>?_;refine gE [0,1] hS fun a hS=>?_;obtain⟨M,m,hM⟩:=bd hM;refine ec 2 hS Ev (pv _ _ hS.dlt (hS.get 2 rfl) e.Key _ m) fun _ w hR a hk hA=>?_;obtain rfl:=hR;have hS:=bV hA;refine gE [3,4] hS fun a hS=>?_;rcases cd hM with⟨h,hM⟩|⟨h,hM⟩
    ·refine gE [5,6,7,8,9,10,11,12,13,14,15,16,17,18,19,20,21,22,23,24,25,26,27,28,29,30,31,32,33,34,35,36] hS fun a hS=>?_;refine eD ?_;exact⟨_,hS.mt [] [1,2],hM⟩
    refine gE [5,6] hS fun a hS=>?_;obtain⟨N,n,hM⟩:=bd hM;refine cy (i:=7) rfl (by kernel_rfl) hS rfl rfl rfl h (a8 hS Gy rfl rfl (rb _ _ hS.dlt e.Key _ n) fun _ w hR a hk hA=>⟨fc (hk),?_⟩);obtain rfl:=hR;have hS:=bV hA;refine gE [8,9,10] hS fun a hS=>?_;rcases cd hM with⟨u,hM⟩|⟨u,hM⟩
    ·refine gE [11,12,13,14,15,16,17,18,19,20,21,22,23,24,25,26,27,28,29,30,31,32,33,34,35,36] hS fun a hS=>?_;refine eD ?_;exact⟨_,hS.mt [] [1,2],hM⟩
    refine gE [11,12,13,14,15] hS fun a hS=>?_;rcases cd hM with⟨x,hM⟩|⟨x,hM⟩
    ·refine gE [16,17,18,19,20,21,22,23,24,25,26,27,28,29,30,31,32,33,34,35,36] hS fun a hS=>?_;refine eD ?_;exact⟨_,hS.mt [] [1,2],hM⟩
    refine gE [16,17,18,19,20,21] hS fun a hS=>?_;rcases cd hM with⟨z,hM⟩|⟨z,hM⟩
    ·refine gE [22,23,24,25,26,27,28,29,30,31,32,33,34,35,36] hS fun a hS=>?_;refine eD ?_;exact⟨_,hS.mt [] [1,2],hM⟩
    refine gE [22,23,24] hS fun a hS=>?_;rcases cd hM with⟨g,hM⟩|⟨g,hM⟩
    ·refine gE [25,26,27] hS fun a hS=>?_;obtain⟨q,k,hM⟩:=bd hM;obtain⟨p,C,I,A,B,hS⟩:=il (R:=aj) hS sh rK 1 rfl k;obtain rfl:=A;refine vG 28 (v:=pt p C) rfl (by kernel_rfl) (by kernel_rfl) (by kernel_rfl) rfl hQ hS (B rfl rfl) rfl rfl rfl g rfl rfl fun a hS=>?_;refine gE [29,30,31,32] hS fun a hS=>?_;obtain⟨O,o,hM⟩:=bd hM;refine cy (i:=33) rfl (by kernel_rfl) hS rfl rfl rfl g (a8 hS Eu rfl rfl (rX _ _ hS.dlt (hS.get 3 rfl) q.Key e.Key _ o) fun _ w hR a hk hA=>⟨fc (hk),?_⟩);obtain rfl:=hR;have hS:=bV hA;refine gE [34,35,36] hS fun a hS=>?_;refine eD ?_;exact⟨_,hS.mt [] [2,3],hM⟩
    refine gE [25,26,27,28,29,30,31,32,33,34,35,36] hS fun a hS=>?_;refine eD ?_;exact⟨_,hS.mt [] [1,2],hM⟩
   rintro a w ⟨f,hS,hM⟩;unfold b7 at hM;exact fz
  exact fz
 rintro a w ⟨hS,hM⟩;unfold fw at hM;exact fz
def iy (b:LC) (c:LK):Option (LC×LK×Int):=cond (decide ((64:Int) < (b.length:Int))) (some (([],[],45))) (cond (decide ((0:Int) < (c.length:Int))) (some ((b,c,49))) (some ((b,[],0))))
def iz (c:Int) (d:LC) (b:LK):Option (Fl (LC×LK×Int) (LC×LK)):=some (.go (d,b,IntKind.i64.wrap (c + 1)))
def cM (b:LC) (f:Int) (e:ae) (d:LK) (c:ByteArray):Option (Fl (LC×LK×Int) (LC×LK)):=cond (!(c.toList == (ByteArray.mk #[]).toList)) (gd (br (b.length + ([(aq.mk e c)]).length)) <| iz f (b ++ ([(aq.mk e c)])) d) (iz f b d)
def dJ (h:LB) (i:LB) (e:LC) (c:LK) (d:Int) (b:ae) (f:ByteArray) (g:Bool):Option (Fl (LC×LK×Int) (LC×LK)):=cond g (cM e d b c f) ((some ((bQ aC b h).getD (ByteArray.mk #[]))).bind fun j=>cond (f.toList == j.toList) ((some ((bQ aC b i).getD (ByteArray.mk #[]))).bind fun k=>cM e d b c k) (gd (br (c.length + ([b]).length)) <| cM e d b (c ++ ([b])) f))
def eI (g:LB) (j:LB) (d:LB) (i:LK) (f:LC) (e:LK) (c:Int):Option (Fl (LC×LK×Int) (LC×LK)):=cond (decide ((c:Int) < (i.length:Int))) ((be i c).bind fun b=>(some ((bQ aC b j).getD (ByteArray.mk #[]))).bind fun h=>(some ((bQ aC b d).getD (ByteArray.mk #[]))).bind fun k=>(some ((bQ aC b g).getD (ByteArray.mk #[]))).bind fun l=>cond (k.toList == l.toList) (dJ g d f e c b h true) ((some ((bQ aC b d).getD (ByteArray.mk #[]))).bind fun m=>dJ g d f e c b h (m.toList == h.toList))) (some (.out (f,e)))
def l7 (b:LC) (c:LC) (d:LC):Option (LC×LK×Int):=(cz b).bind fun i=>cond (!(i)) (some (([],[],5))) ((cz c).bind fun j=>cond (!(j)) (some (([],[],5))) ((cz d).bind fun k=>cond (!(k)) (some (([],[],5))) ((d8 b).bind fun e=>(d8 c).bind fun g=>(d8 d).bind fun f=>(lL ([b,c,d])).bind fun h=>(loop (fun s:LC×LK×Int=>eI e g f h s.1 s.2.1 s.2.2) (([]:List aq),([]:List ae),0)).bind fun r=>iy r.1 r.2)))
theorem vn (T:Nat→Prop) (W0:World) (hT:TW T W0) (hLv:cU T W0) (n:LC) (E:LC) (F:LC) (v1:Value) (v2:Value) (v3:Value) (f4:aA aj T W0 v1 n) (f6:aA aj T W0 v2 E) (fd:aA aj T W0 v3 F) (y:LC×LK×Int) (hM:l7 n E F=some y):aW Tryz.prog No 27 [v1,v2,v3] W0 (fun v w'=>∃ (v4:Value) (tX:List Value) (v6:Value) (vt:List Value),v = .tuple #[v4,v6,.int .i64 y.2.2]∧fu aj T W0 w' [bn v4 tX,au v6 vt] 46 v4 tX y.1∧fu ac T W0 w' [bn v4 tX,au v6 vt] 44 v6 vt y.2.1∧(∀ k,v4.ownBlock=some k→v6.ownBlock ≠ some k)):=by
 refine en Tryz.func27 Tryz.ntmps27 hT fun a hS=>?_;replace hS:=(((hS.fact bv (cU.dn hLv)).fS (aA.dn f4)).fS (aA.dn f6)).fS (aA.dn fd);unfold l7 at hM;refine ah hS fun a hS=>?_;refine az ?_;refine jV ?_;refine ah hS fun a hS=>?_;obtain⟨gs,cl,hM⟩:=bd hM;refine kc hS Eq (jf _ _ hS.dlt (hS.get 3 rfl) n _ (hS.get 2 rfl) _ cl) fun _ w hR a hk hA=>?_;obtain rfl:=hR;have hS:=bV hA;refine ah hS fun a hS=>?_;rcases cd hM with⟨ab,hM⟩|⟨ab,hM⟩
 ·refine ah hS fun a hS=>?_;cases hM
  refine aE hS Tryz.results27 (ap hS rfl (ap hS rfl (ap hS rfl aD))) ?_;exact⟨.slice none 0 0,[],.slice none 0 0,[],rfl,ir _ _ _ _ _ _,ir _ _ _ _ _ _,(fun k h=>by simp [Value.ownBlock] at *)⟩
 refine ah hS fun a hS=>?_;obtain⟨gu,co,hM⟩:=bd hM;refine wg hS rfl rfl rfl ab (a8 hS Eq rfl rfl (jf _ _ hS.dlt (hS.get 3 rfl) E _ (hS.get 1 rfl) _ co) fun _ w hR a hk hA=>?_);obtain rfl:=hR;have hS:=bV hA;refine ah hS fun a hS=>?_;rcases cd hM with⟨af,hM⟩|⟨af,hM⟩
 ·refine ah hS fun a hS=>?_;cases hM
  refine aE hS Tryz.results27 (ap hS rfl (ap hS rfl (ap hS rfl aD))) ?_;exact⟨.slice none 0 0,[],.slice none 0 0,[],rfl,ir _ _ _ _ _ _,ir _ _ _ _ _ _,(fun k h=>by simp [Value.ownBlock] at *)⟩
 refine ah hS fun a hS=>?_;obtain⟨h0,cs,hM⟩:=bd hM;refine wg hS rfl rfl rfl af (a8 hS Eq rfl rfl (jf _ _ hS.dlt (hS.get 3 rfl) F _ (hS.get 0 rfl) _ cs) fun _ w hR a hk hA=>?_);obtain rfl:=hR;have hS:=bV hA;refine ah hS fun a hS=>?_;rcases cd hM with⟨cv,hM⟩|⟨cv,hM⟩
 ·refine ah hS fun a hS=>?_;cases hM
  refine aE hS Tryz.results27 (ap hS rfl (ap hS rfl (ap hS rfl aD))) ?_;exact⟨.slice none 0 0,[],.slice none 0 0,[],rfl,ir _ _ _ _ _ _,ir _ _ _ _ _ _,(fun k h=>by simp [Value.ownBlock] at *)⟩
 refine ah hS fun a hS=>?_;obtain⟨C,c1,hM⟩:=bd hM;refine kc hS CK (iA _ _ hS.dlt n _ (hS.get 2 rfl) _ c1) fun _ w hR a hk hA=>?_;obtain⟨g,p,G,he,⟨b0,ak,b4⟩⟩:=hR;obtain rfl:=he.symm;have hS:=hA [om g p G] (eA b0 (qB ak)) (ro _);replace hS:=hS.fM (b4.keep (Kt.refl _ _) (iB _));refine ah hS fun a hS=>?_;obtain⟨M,c9,hM⟩:=bd hM;refine kc hS CK (iA _ _ hS.dlt E _ (hS.get 2 rfl) _ c9) fun _ w hR a hk hA=>?_;obtain⟨j,q,H,he,⟨b1,ao,b5⟩⟩:=hR;obtain rfl:=he.symm;have hS:=hA [om j q H] (eA b1 (qB ao)) (ro _);replace hS:=hS.fM (b5.keep (Kt.refl _ _) (iB _));refine ah hS fun a hS=>?_;obtain⟨D,c2,hM⟩:=bd hM;refine kc hS CK (iA _ _ hS.dlt F _ (hS.get 2 rfl) _ c2) fun _ w hR a hk hA=>?_;obtain⟨m,r,I,he,⟨b2,av,b6⟩⟩:=hR;obtain rfl:=he.symm;have hS:=hA [om m r I] (eA b2 (qB av)) (ro _);replace hS:=hS.fM (b6.keep (Kt.refl _ _) (iB _));refine ah hS fun a hS=>?_;refine aG (J:=fun a w=>∃ (a1:LC) (U:LK) (N:Value) (K:LV) (S:Value) (Q:LV),St W0 No T 97 [(12,N),(13,S)] [bn N K,au S Q] [am aj K a1,am ac Q U,bv] a w∧iy a1 U=some y) ?_ ?_
 ·skip;refine ah hS fun a hS=>?_;refine wl rfl (aT (ps:=[(0,.tmp 36),(1,.tmp 37),(2,.tmp 38)]) hS F4 JD (zl:=[.slice none 0 0,.slice none 0 0,.slice none 0 0]) (by kernel_rfl) rfl (us:=[[v1],[v2],[v3]]) ⟨(ik (aA.one ((hS.get 5 rfl):aA aj _ _ _ _))),⟨(ik (aA.one ((hS.get 4 rfl):aA aj _ _ _ _))),⟨(ik (aA.one ((hS.get 3 rfl):aA aj _ _ _ _))),trivial⟩⟩⟩ (ws:=[v1,v2,v3]) rfl rfl rfl rfl fun fl a w hk hS=>?_);replace hS:=hS.lit (R:=(aN.slice aj)) (us:=[v1,v2,v3]) (xs:=[n,E,F]) 0 rfl (by decide) ((aB.one_ (R:=(aN.slice aj)) (x:=n) (⟨_,rfl,(hS.get 5 rfl)⟩)).append ((aB.one_ (R:=(aN.slice aj)) (x:=E) (⟨_,rfl,(hS.get 4 rfl)⟩)).append (aB.one_ (R:=(aN.slice aj)) (x:=F) (⟨_,rfl,(hS.get 3 rfl)⟩)))) rfl rfl;have hL:=hS;replace hL:=hL.freeze (R:=(aN.slice aj)) 0 rfl 0 rfl;obtain⟨t,ca,hM⟩:=bd hM;refine kc hS IL (sm _ _ hL.dlt (hL.get 8 rfl) ([n,E,F]) _ (hL.get 0 rfl) _ ca) fun _ w hR a hk hA=>?_;obtain⟨u,o,he,⟨b3,ax,b8⟩⟩:=hR;obtain rfl:=he.symm;have hS:=hA [au u o] (eA ⟨b3,by decide⟩ ax) (ro _);replace hS:=hS.fR b8;refine ah hS fun a hS=>?_;replace hS:=(hS.nilRow aj 46 (by decide)).nilRow ac 44 (by decide);obtain⟨r1,f3,hMo1⟩:=bd hM;refine bu _ (fun s a w=>∃ (f:LC) (z:LK) (e:Int) (B:Value) (A:LV) (O:Value) (L:LV),(f,z,e)=s∧St W0 No T 97 [(9,.map (some g)),(10,.map (some j)),(11,.map (some m)),(12,B),(13,O),(40,u),(41,.int .i64 (t.length:Int)),(42,.int .i64 e)] [om g p G,om j q H,om m r I,bn B A,au O L,au u o] [iv p C,iv q M,iv r D,am aj A f,am ac L z,am ac o t,bv] a w) f3 ⟨_,_,_,_,_,_,_,rfl,hS.mt [6,5,4,1,0,2] [6,5,4,1,0,2,10]⟩ ?_;rintro s a w f1 ⟨f,z,e,B,A,O,L,rfl,hS⟩ hM hf1;have hM:eI C M D t f z e=some f1:=hM;unfold eI at hM;refine ah hS fun a hS=>?_;refine az ?_;rcases cd hM with⟨d0,hM⟩|⟨d0,hM⟩
  ·refine ah hS fun a hS=>?_;refine aG (J:=fun a w=>∃ (a2:LC) (V:LK) (a4:Value) (X:LV) (a5:Value) (Y:LV),St W0 No T 97 [(9,.map (some g)),(10,.map (some j)),(11,.map (some m)),(12,a4),(13,a5),(40,u),(41,.int .i64 (t.length:Int)),(42,.int .i64 e)] [om g p G,om j q H,om m r I,bn a4 X,au a5 Y,au u o] [iv p C,iv q M,iv r D,am aj X a2,am ac Y V,am ac o t,bv] a w∧iz e a2 V=some f1) ?_ ?_
   ·skip;refine ah hS fun a hS=>?_;obtain⟨b,c0,hM⟩:=bd hM;refine wl rfl (cR (R:=ac) hS jd dd rfl rfl 5 rfl 5 rfl c0 rfl fun fn gi gp g0 d1 d2 d3 a hS=>?_);obtain rfl:=d1;refine qy hS (bL (k:=0) hS dd 5 rfl d2 d3 rfl id (us:=(aM b)) rfl rfl (fun h=>by cases h)) fun a hS=>?_;refine ka hS gh fun P gb a w hk hS=>?_;refine go hS fun a w hS=>?_;obtain⟨a3,c3,hM⟩:=bd hM;obtain⟨g1,d4,d6⟩:=dO hS n9 cc 2 rfl 1 rfl (c:=(aM b)) (key:=b) rfl zR (zc:=[.string (ByteArray.mk #[])]) rfl rfl c3;obtain rfl:=d4;refine wl rfl (ky (v:=.string a3) hS (d6 rfl rfl id) rfl rfl fun a hS=>?_);refine ah hS fun a hS=>?_;refine aG (J:=fun a w=>∃ (W:LK) (d:ByteArray) (a9:Value) (Z:LV),St W0 No T 97 [(9,.map (some g)),(10,.map (some j)),(11,.map (some m)),(12,B),(13,a9),(15,pt P 0),(16,.string d),(40,u),(41,.int .i64 (t.length:Int)),(42,.int .i64 e)] [om g p G,om j q H,om m r I,bn B A,au a9 Z,au u o,.box P (aM b) 44] [iv p C,iv q M,iv r D,am aj A f,am ac Z W,am ac o t,bv] a w∧cM f e b W d=some f1) ?_ ?_
    ·skip;refine ah hS fun a hS=>?_;refine aG (J:=fun a w=>∃ (a0:Bool),St W0 No T 97 [(9,.map (some g)),(10,.map (some j)),(11,.map (some m)),(12,B),(13,O),(15,pt P 0),(16,.string a3),(40,u),(41,.int .i64 (t.length:Int)),(42,.int .i64 e),(53,.bool a0)] [om g p G,om j q H,om m r I,bn B A,au O L,au u o,.box P (aM b) 44] [iv p C,iv q M,iv r D,am aj A f,am ac L z,am ac o t,bv] a w∧dJ C D f z e b a3 a0=some f1) ?_ ?_
     ·skip;refine dr [] hS fun w hQ hS=>?_;refine gE [0,1] hS fun a hS=>?_;obtain⟨eT,cb,hM⟩:=bd hM;obtain⟨g2,da,dc⟩:=dO hS n9 cc 3 rfl 2 rfl (c:=(aM b)) (key:=b) rfl zR (zc:=[.string (ByteArray.mk #[])]) rfl rfl cb;obtain rfl:=da;refine dy (l:=[]) 2 (v:=.string eT) rfl (by kernel_rfl) (by kernel_rfl) (by kernel_rfl) (by kernel_rfl) hQ hS (dc rfl rfl bo) rfl rfl rfl fun a hS=>?_;refine gE [3,4] hS fun a hS=>?_;obtain⟨eX,ch,hM⟩:=bd hM;obtain⟨g3,dk,dl⟩:=dO hS n9 cc 1 rfl 0 rfl (c:=(aM b)) (key:=b) rfl zR (zc:=[.string (ByteArray.mk #[])]) rfl rfl ch;obtain rfl:=dk;refine dy (l:=[]) 5 (v:=.string eX) rfl (by kernel_rfl) (by kernel_rfl) (by kernel_rfl) (by kernel_rfl) hQ hS (dl rfl rfl bo) rfl rfl rfl fun a hS=>?_;refine gE [6,7] hS fun a hS=>?_;rcases cd hM with⟨ag,hM⟩|⟨ag,hM⟩
      ·refine gE [8,9,10,11,12,13,14] hS fun a hS=>?_;refine eD ?_;exact⟨_,hS.mt [1,2,3,4,5,6,0] [0,1,2,3,4,5,6],hM⟩
      refine gE [8,9] hS fun a hS=>?_;obtain⟨f2,ck,hM⟩:=bd hM;obtain⟨g4,ds,e2⟩:=dO hS n9 cc 3 rfl 2 rfl (c:=(aM b)) (key:=b) rfl zR (zc:=[.string (ByteArray.mk #[])]) rfl rfl ck;obtain rfl:=ds;refine vG (l:=[]) 10 (v:=.string f2) rfl (by kernel_rfl) (by kernel_rfl) (by kernel_rfl) (by kernel_rfl) hQ hS (e2 rfl rfl bo) rfl rfl rfl ag rfl rfl fun a hS=>?_;refine gE [11,12,13,14] hS fun a hS=>?_;refine eD ?_;exact⟨_,hS.mt [1,2,3,4,5,6,0] [0,1,2,3,4,5,6],hM⟩
     rintro a w ⟨a0,hS,hM⟩;unfold dJ at hM;rcases cd hM with⟨e3,hM⟩|⟨e3,hM⟩
     ·exact fz
     refine ah hS fun a hS=>?_;obtain⟨et,c4,hM⟩:=bd hM;obtain⟨g5,e4,e5⟩:=dO hS n9 cc 0 rfl 0 rfl (c:=(aM b)) (key:=b) rfl zR (zc:=[.string (ByteArray.mk #[])]) rfl rfl c4;obtain rfl:=e4;refine wl rfl (ky (v:=.string et) hS (e5 rfl rfl id) rfl rfl fun a hS=>?_);refine ah hS fun a hS=>?_;rcases cd hM with⟨e8,hM⟩|⟨e8,hM⟩
     ·refine ah hS fun a hS=>?_;obtain⟨ex,c5,hM⟩:=bd hM;obtain⟨g6,ea,ed⟩:=dO hS n9 cc 2 rfl 2 rfl (c:=(aM b)) (key:=b) rfl zR (zc:=[.string (ByteArray.mk #[])]) rfl rfl c5;obtain rfl:=ea;refine wl rfl (ky (v:=.string ex) hS (ed rfl rfl id) rfl rfl fun a hS=>?_);exact fz
     refine ah hS fun a hS=>?_;refine wl rfl (aT (ps:=[(0,.tmp 50)]) hS gm gh (zl:=[.int .i64 0,.string (ByteArray.mk #[])]) (by kernel_rfl) rfl (us:=[(aM b)]) ⟨rfl,trivial⟩ (ws:=(aM b)) rfl rfl rfl rfl fun fr a w hk hS=>?_);replace hS:=(hS.lit (R:=ac) (us:=(aM b)) (xs:=[b]) 0 rfl (by decide) (aB.one_ (R:=ac) (x:=b) rfl) rfl rfl).freeze (R:=ac) 0 rfl 0 rfl;obtain⟨eg,hM⟩:=aS hM;refine wl rfl (bw (R:=ac) (xs:=z) (ys:=[b]) hS gm (by decide) (by decide) rfl rfl 4 rfl 6 rfl 0 rfl eg rfl fun h1 g7 a w hk hS=>?_);exact fz
    rintro a w ⟨W,d,a9,Z,hS,hM⟩;unfold cM at hM;refine ah hS fun a hS=>?_;rcases cd hM with⟨el,hM⟩|⟨el,hM⟩
    ·refine ah hS fun a hS=>?_;refine qy hS (bj (ps:=[(0,.tmp 80),(1,.tmp 81)]) hS vX k9 rfl (us:=[(aM b),[.string d]]) ⟨rfl,⟨rfl,trivial⟩⟩ (ws:=[.int .i64 b.Kind,.string b.Text,.string d]) rfl) fun a hS=>?_;refine wl rfl (aT (ps:=[(0,.tmp 82)]) hS tj k9 (zl:=[.int .i64 0,.string (ByteArray.mk #[]),.string (ByteArray.mk #[])]) (by kernel_rfl) rfl (us:=[[.int .i64 b.Kind,.string b.Text,.string d]]) ⟨rfl,trivial⟩ (ws:=[.int .i64 b.Kind,.string b.Text,.string d]) rfl rfl rfl rfl fun fs a w hk hS=>?_);replace hS:=(hS.lit (R:=aj) (us:=[.int .i64 b.Kind,.string b.Text,.string d]) (xs:=[(aq.mk b d)]) 0 rfl (by decide) (aB.one_ (R:=aj) (x:=(aq.mk b d)) rfl) rfl rfl).freeze (R:=aj) 0 rfl 0 rfl;obtain⟨em,hM⟩:=aS hM;refine wl rfl (bw (R:=aj) (xs:=f) (ys:=[(aq.mk b d)]) hS tj (by decide) (by decide) rfl rfl 3 rfl 5 rfl 0 rfl em rfl fun h2 g8 a w hk hS=>?_);exact fz
    exact fz
   rintro a w ⟨a2,V,a4,X,a5,Y,hS,hM⟩;unfold iz at hM;exact fz
  refine ah hS fun a hS=>?_;cases hM
  have hr:=hf1 _ rfl;subst hr;have hM:iy f z=some y:=hMo1;exact⟨_,_,_,_,_,_,hS.mt [3,4] [3,4,6],hM⟩
 rintro a w ⟨a1,U,N,K,S,Q,hS,hM⟩;unfold iy at hM;refine az ?_;refine ah hS fun a hS=>?_;rcases cd hM with⟨eq,hM⟩|⟨eq,hM⟩
 ·refine ah hS fun a hS=>?_;cases hM
  refine aE hS Tryz.results27 (ap hS rfl (ap hS rfl (ap hS rfl aD))) ?_;exact⟨.slice none 0 0,[],.slice none 0 0,[],rfl,ir _ _ _ _ _ _,ir _ _ _ _ _ _,(fun k h=>by simp [Value.ownBlock] at *)⟩
 refine ah hS fun a hS=>?_;rcases cd hM with⟨er,hM⟩|⟨er,hM⟩
 ·refine ah hS fun a hS=>?_;cases hM
  refine aE hS Tryz.results27 (ap hS rfl (ap hS rfl (ap hS rfl aD))) ?_;exact⟨N,K,S,Q,rfl,hS.retOwn ⟨.inr (List.mem_of_getElem? (i:=0) rfl),⟨.inr (List.mem_of_getElem? (i:=1) rfl),trivial⟩⟩ 0 rfl 0 rfl,hS.retOwn ⟨.inr (List.mem_of_getElem? (i:=0) rfl),⟨.inr (List.mem_of_getElem? (i:=1) rfl),trivial⟩⟩ 1 rfl 1 rfl,(hS.apart2 0 rfl 1 rfl (by decide))⟩
 refine ah hS fun a hS=>?_;cases hM
 refine aE hS Tryz.results27 (ap hS rfl (ap hS rfl (ap hS rfl aD))) ?_;exact⟨N,K,.slice none 0 0,[],rfl,hS.retOwn ⟨.inr (List.mem_of_getElem? (i:=0) rfl),⟨.inl rfl,trivial⟩⟩ 0 rfl 0 rfl,ir _ _ _ _ _ _,(fun k h=>by simp [Value.ownBlock] at *)⟩
def gI (b:Bool):Option Bool:=some (b)
def lP:Option Bool:=(cW 0).bind fun c=>(cW 0).bind fun d=>(cW 0).bind fun e=>(cW 1).bind fun f=>(l7 ([(aq.mk c (ByteArray.mk #[49]))]) ([(aq.mk d (ByteArray.mk #[50]))]) ([(aq.mk e (ByteArray.mk #[49])),(aq.mk f (ByteArray.mk #[53]))])).bind fun b=>cond ((b.2.2:Int) == 0) (cond ((b.2.1.length:Int) == 0) ((cW 0).bind fun g=>(cW 1).bind fun h=>(lG b.1 ([(aq.mk g (ByteArray.mk #[50])),(aq.mk h (ByteArray.mk #[53]))])).bind fun i=>cond i ((e6 ([(aq.mk c (ByteArray.mk #[49]))]) ([(aq.mk d (ByteArray.mk #[50]))])).bind fun j=>gI ((j.length:Int) == 1)) (gI false)) (gI false)) (gI false)
theorem sv (T:Nat→Prop) (W0:World) (hT:TW T W0) (hLv:cU T W0) (y:Bool) (hM:lP=some y):aW Tryz.prog No 6 [] W0 (fun v w'=>v = .bool y):=by
 refine en Tryz.func6 Tryz.ntmps6 hT fun a hS=>?_;replace hS:=hS.fact bv (cU.dn hLv);unfold lP at hM;refine ah hS fun a hS=>?_;obtain⟨b,t,hM⟩:=bd hM;refine kc hS wK (d9 _ _ hS.dlt (hS.get 0 rfl) 0 _ t) fun _ w hR a hk hA=>?_;obtain rfl:=hR;have hS:=bV hA;refine qy hS (bj (ps:=[(0,.tmp 7),(1,.const (.string ⟨#[49]⟩))]) hS vX k9 rfl (us:=[(aM b),[.string (ByteArray.mk #[49])]]) ⟨rfl,⟨rfl,trivial⟩⟩ (ws:=[.int .i64 b.Kind,.string b.Text,.string (ByteArray.mk #[49])]) rfl) fun a hS=>?_;refine wl rfl (aT (ps:=[(0,.tmp 8)]) hS tj k9 (zl:=[.int .i64 0,.string (ByteArray.mk #[]),.string (ByteArray.mk #[])]) (by kernel_rfl) rfl (us:=[[.int .i64 b.Kind,.string b.Text,.string (ByteArray.mk #[49])]]) ⟨rfl,trivial⟩ (ws:=[.int .i64 b.Kind,.string b.Text,.string (ByteArray.mk #[49])]) rfl rfl rfl rfl fun Q a w hk hS=>?_);refine ah hS fun a hS=>?_;obtain⟨c,u,hM⟩:=bd hM;refine kc hS wK (d9 _ _ hS.dlt (hS.get 0 rfl) 0 _ u) fun _ w hR a hk hA=>?_;obtain rfl:=hR;have hS:=bV hA;refine qy hS (bj (ps:=[(0,.tmp 10),(1,.const (.string ⟨#[50]⟩))]) hS vX k9 rfl (us:=[(aM c),[.string (ByteArray.mk #[50])]]) ⟨rfl,⟨rfl,trivial⟩⟩ (ws:=[.int .i64 c.Kind,.string c.Text,.string (ByteArray.mk #[50])]) rfl) fun a hS=>?_;refine wl rfl (aT (ps:=[(0,.tmp 11)]) hS tj k9 (zl:=[.int .i64 0,.string (ByteArray.mk #[]),.string (ByteArray.mk #[])]) (by kernel_rfl) rfl (us:=[[.int .i64 c.Kind,.string c.Text,.string (ByteArray.mk #[50])]]) ⟨rfl,trivial⟩ (ws:=[.int .i64 c.Kind,.string c.Text,.string (ByteArray.mk #[50])]) rfl rfl rfl rfl fun S a w hk hS=>?_);refine ah hS fun a hS=>?_;obtain⟨d,z,hM⟩:=bd hM;refine kc hS wK (d9 _ _ hS.dlt (hS.get 0 rfl) 0 _ z) fun _ w hR a hk hA=>?_;obtain rfl:=hR;have hS:=bV hA;refine qy hS (bj (ps:=[(0,.tmp 13),(1,.const (.string ⟨#[49]⟩))]) hS vX k9 rfl (us:=[(aM d),[.string (ByteArray.mk #[49])]]) ⟨rfl,⟨rfl,trivial⟩⟩ (ws:=[.int .i64 d.Kind,.string d.Text,.string (ByteArray.mk #[49])]) rfl) fun a hS=>?_;obtain⟨e,A,hM⟩:=bd hM;refine kc hS wK (d9 _ _ hS.dlt (hS.get 0 rfl) 1 _ A) fun _ w hR a hk hA=>?_;obtain rfl:=hR;have hS:=bV hA;refine qy hS (bj (ps:=[(0,.tmp 15),(1,.const (.string ⟨#[53]⟩))]) hS vX k9 rfl (us:=[(aM e),[.string (ByteArray.mk #[53])]]) ⟨rfl,⟨rfl,trivial⟩⟩ (ws:=[.int .i64 e.Kind,.string e.Text,.string (ByteArray.mk #[53])]) rfl) fun a hS=>?_;refine wl rfl (aT (ps:=[(0,.tmp 14),(1,.tmp 16)]) hS tj k9 (zl:=[.int .i64 0,.string (ByteArray.mk #[]),.string (ByteArray.mk #[]),.int .i64 0,.string (ByteArray.mk #[]),.string (ByteArray.mk #[])]) (by kernel_rfl) rfl (us:=[[.int .i64 d.Kind,.string d.Text,.string (ByteArray.mk #[49])],[.int .i64 e.Kind,.string e.Text,.string (ByteArray.mk #[53])]]) ⟨rfl,⟨rfl,trivial⟩⟩ (ws:=[.int .i64 d.Kind,.string d.Text,.string (ByteArray.mk #[49]),.int .i64 e.Kind,.string e.Text,.string (ByteArray.mk #[53])]) rfl rfl rfl rfl fun U a w hk hS=>?_);refine ah hS fun a hS=>?_;replace hS:=((hS.lit (R:=aj) (us:=[.int .i64 b.Kind,.string b.Text,.string (ByteArray.mk #[49])]) (xs:=[(aq.mk b (ByteArray.mk #[49]))]) 2 rfl (by decide) (aB.one_ (R:=aj) (x:=(aq.mk b (ByteArray.mk #[49]))) rfl) rfl rfl).lit (R:=aj) (us:=[.int .i64 c.Kind,.string c.Text,.string (ByteArray.mk #[50])]) (xs:=[(aq.mk c (ByteArray.mk #[50]))]) 1 rfl (by decide) (aB.one_ (R:=aj) (x:=(aq.mk c (ByteArray.mk #[50]))) rfl) rfl rfl).lit (R:=aj) (us:=[.int .i64 d.Kind,.string d.Text,.string (ByteArray.mk #[49]),.int .i64 e.Kind,.string e.Text,.string (ByteArray.mk #[53])]) (xs:=[(aq.mk d (ByteArray.mk #[49])),(aq.mk e (ByteArray.mk #[53]))]) 0 rfl (by decide) ((aB.one_ (R:=aj) (x:=(aq.mk d (ByteArray.mk #[49]))) rfl).append (aB.one_ (R:=aj) (x:=(aq.mk e (ByteArray.mk #[53]))) rfl)) rfl rfl;have hL:=hS;replace hL:=hL.freeze (R:=aj) 2 rfl 2 rfl;replace hL:=hL.freeze (R:=aj) 1 rfl 2 rfl;replace hL:=hL.freeze (R:=aj) 0 rfl 2 rfl;obtain⟨L,B,hM⟩:=bd hM;refine kc hS JS (vn _ _ hL.dlt (hL.get 6 rfl) ([(aq.mk b (ByteArray.mk #[49]))]) ([(aq.mk c (ByteArray.mk #[50]))]) ([(aq.mk d (ByteArray.mk #[49])),(aq.mk e (ByteArray.mk #[53]))]) _ _ _ (hL.get 2 rfl) (hL.get 1 rfl) (hL.get 0 rfl) _ B) fun _ w hR a hk hA=>?_;obtain⟨M,G,N,H,he,⟨n,k,q⟩,⟨o,l,r⟩,P⟩:=hR;obtain rfl:=he.symm;have hS:=hA [bn M G,au N H] (FE ⟨n,by decide⟩ k ⟨o,by decide⟩ l) (K9 P);replace hS:=(hS.fR q).fR r;refine ah hS fun a hS=>?_;refine aG (J:=fun a w=>∃ (i:Bool),St W0 No T 49 [(0,.bool i)] [] [bv] a w∧gI i=some y) ?_ ?_
 ·skip;refine ah hS fun a hS=>?_;rcases cd hM with⟨K,hM⟩|⟨K,hM⟩
  ·refine ah hS fun a hS=>?_;rcases cd hM with⟨h,hM⟩|⟨h,hM⟩
   ·refine ah hS fun a hS=>?_;obtain⟨f,C,hM⟩:=bd hM;refine wg hS rfl rfl rfl h (a8 hS wK rfl rfl (d9 _ _ hS.dlt (hS.get 5 rfl) 0 _ C) fun _ w hR a hk hA=>?_);obtain rfl:=hR;have hS:=bV hA;refine qg hS h (bj (ps:=[(0,.tmp 35),(1,.const (.string ⟨#[50]⟩))]) hS vX k9 rfl (us:=[(aM f),[.string (ByteArray.mk #[50])]]) ⟨rfl,⟨rfl,trivial⟩⟩ (ws:=[.int .i64 f.Kind,.string f.Text,.string (ByteArray.mk #[50])]) rfl) fun a hS=>?_;obtain⟨g,D,hM⟩:=bd hM;refine wg hS rfl rfl rfl h (a8 hS wK rfl rfl (d9 _ _ hS.dlt (hS.get 5 rfl) 1 _ D) fun _ w hR a hk hA=>?_);obtain rfl:=hR;have hS:=bV hA;refine qg hS h (bj (ps:=[(0,.tmp 37),(1,.const (.string ⟨#[53]⟩))]) hS vX k9 rfl (us:=[(aM g),[.string (ByteArray.mk #[53])]]) ⟨rfl,⟨rfl,trivial⟩⟩ (ws:=[.int .i64 g.Kind,.string g.Text,.string (ByteArray.mk #[53])]) rfl) fun a hS=>?_;refine wg hS rfl rfl rfl h (aT (ps:=[(0,.tmp 36),(1,.tmp 38)]) hS tj k9 (zl:=[.int .i64 0,.string (ByteArray.mk #[]),.string (ByteArray.mk #[]),.int .i64 0,.string (ByteArray.mk #[]),.string (ByteArray.mk #[])]) (by kernel_rfl) rfl (us:=[[.int .i64 f.Kind,.string f.Text,.string (ByteArray.mk #[50])],[.int .i64 g.Kind,.string g.Text,.string (ByteArray.mk #[53])]]) ⟨rfl,⟨rfl,trivial⟩⟩ (ws:=[.int .i64 f.Kind,.string f.Text,.string (ByteArray.mk #[50]),.int .i64 g.Kind,.string g.Text,.string (ByteArray.mk #[53])]) rfl rfl rfl rfl fun V a w hk hS=>?_);replace hS:=hS.lit (R:=aj) (us:=[.int .i64 f.Kind,.string f.Text,.string (ByteArray.mk #[50]),.int .i64 g.Kind,.string g.Text,.string (ByteArray.mk #[53])]) (xs:=[(aq.mk f (ByteArray.mk #[50])),(aq.mk g (ByteArray.mk #[53]))]) 0 rfl (by decide) ((aB.one_ (R:=aj) (x:=(aq.mk f (ByteArray.mk #[50]))) rfl).append (aB.one_ (R:=aj) (x:=(aq.mk g (ByteArray.mk #[53]))) rfl)) rfl rfl;have hL:=hS;replace hL:=hL.freeze (R:=aj) 1 rfl 2 rfl;replace hL:=hL.freeze (R:=aj) 0 rfl 1 rfl;obtain⟨W,E,hM⟩:=bd hM;refine wg hS rfl rfl rfl h (a8 hS Gu rfl rfl (qI _ _ hL.dlt L.1 ([(aq.mk f (ByteArray.mk #[50])),(aq.mk g (ByteArray.mk #[53]))]) _ _ (hL.get 1 rfl) (hL.get 0 rfl) _ E) fun _ w hR a hk hA=>?_);obtain rfl:=hR;have hS:=bV hA;refine ah hS fun a hS=>?_;rcases cd hM with⟨j,hM⟩|⟨j,hM⟩
    ·refine ah hS fun a hS=>?_;have hL:=hS;replace hL:=hL.freeze (R:=aj) 5 rfl 5 rfl;replace hL:=hL.freeze (R:=aj) 4 rfl 5 rfl;obtain⟨X,F,hM⟩:=bd hM;refine wg hS rfl rfl rfl j (a8 hS Ad rfl rfl (gk _ _ hL.dlt (hL.get 8 rfl) ([(aq.mk b (ByteArray.mk #[49]))]) ([(aq.mk c (ByteArray.mk #[50]))]) _ _ (hL.get 1 rfl) (hL.get 0 rfl) _ F) fun _ w hR a hk hA=>?_);obtain⟨O,I,he,⟨p,m,s⟩⟩:=hR;obtain rfl:=he.symm;have hS:=hA [bn O I] (eA ⟨p,by decide⟩ m) (ro _);replace hS:=hS.fR s;exact fz
    exact fz
   exact fz
  exact fz
 rintro a w ⟨i,hS,hM⟩;unfold gI at hM;exact fz
def mT (b:LC):Option LC:=some (b)
def gD (b:Int) (c:LC):Option (Fl (LC×Int) (LC)):=some (.go (c,IntKind.i64.wrap (b + 1)))
def fe (e:ai) (d:LC) (c:Int):Option (Fl (LC×Int) (LC)):=cond (decide ((c:Int) < (e.Inputs.length:Int))) ((be e.Inputs c).bind fun b=>cond (!(b.Value.toList == (ByteArray.mk #[]).toList)) (gd (br (d.length + ([(aq.mk b.Key b.Value)]).length)) <| gD c (d ++ ([(aq.mk b.Key b.Value)]))) (gD c d)) (some (.out d))
def e7 (b:ai):Option LC:=(loop (fun s:LC×Int=>fe b s.1 s.2) (([]:List aq),0)).bind fun r=>mT r
theorem ix (T:Nat→Prop) (W0:World) (hT:TW T W0) (c:ai) (o:Value) (E:Value) (C:aA ad T W0 o c.Inputs) (D:aA aa T W0 E c.Records) (y:LC) (hM:e7 c=some y):aW Tryz.prog No 9 [.agg (aQ c o E).toArray] W0 (fun v w'=>∃ (z:Value) (qT:List Value),v=z∧fu aj T W0 w' [bn z qT] 46 z qT y):=by
 refine en Tryz.func9 Tryz.ntmps9 hT fun a hS=>?_;replace hS:=(hS.fS (aA.dn C)).fS (aA.dn D);unfold e7 at hM;refine ah hS fun a hS=>?_;refine kb hS fun F M a w hk hS=>?_;refine ah hS fun a hS=>?_;refine aG (J:=fun a w=>∃ (k:LC) (g:Value) (f:LV),St W0 No T 26 [(3,g)] [bn g f] [am aj f k] a w∧mT k=some y) ?_ ?_
 ·skip;refine ah hS fun a hS=>?_;replace hS:=hS.nilRow aj 46 (by decide);obtain⟨Q,B,hMo1⟩:=bd hM;refine bu _ (fun s a w=>∃ (e:LC) (d:Int) (m:Value) (h:LV),(e,d)=s∧St W0 No T 26 [(3,m),(7,o),(8,.int .i64 (c.Inputs.length:Int)),(9,.int .i64 d)] [bn m h] [am aj h e,aJ ad o c.Inputs] a w) B ⟨_,_,_,_,rfl,hS.mt [0] [0,2]⟩ ?_;rintro s a w A ⟨e,d,m,h,rfl,hS⟩ hM hf1;have hM:fe c e d=some A:=hM;unfold fe at hM;refine ah hS fun a hS=>?_;refine az ?_;rcases cd hM with⟨q,hM⟩|⟨q,hM⟩
  ·refine ah hS fun a hS=>?_;refine aG (J:=fun a w=>∃ (l:LC) (n:Value) (j:LV),St W0 No T 26 [(3,n),(7,o),(8,.int .i64 (c.Inputs.length:Int)),(9,.int .i64 d)] [bn n j] [am aj j l,aJ ad o c.Inputs] a w∧gD d l=some A) ?_ ?_
   ·skip;refine ah hS fun a hS=>?_;obtain⟨b,p,hM⟩:=bd hM;refine wl rfl (bc (R:=ad) hS sg rL rfl rfl 1 rfl p rfl fun G O K r a hS=>?_);obtain rfl:=r;refine ah hS fun a hS=>?_;refine ka hS qV fun H N a w hk hS=>?_;refine go hS fun a w hS=>?_;rcases cd hM with⟨t,hM⟩|⟨t,hM⟩
    ·refine ah hS fun a hS=>?_;refine qy hS (bj (ps:=[(0,.tmp 18),(1,.tmp 20)]) hS vX k9 rfl (us:=[(aM b.Key),[.string b.Value]]) ⟨rfl,⟨rfl,trivial⟩⟩ (ws:=[.int .i64 b.Key.Kind,.string b.Key.Text,.string b.Value]) rfl) fun a hS=>?_;refine wl rfl (aT (ps:=[(0,.tmp 21)]) hS tj k9 (zl:=[.int .i64 0,.string (ByteArray.mk #[]),.string (ByteArray.mk #[])]) (by kernel_rfl) rfl (us:=[[.int .i64 b.Key.Kind,.string b.Key.Text,.string b.Value]]) ⟨rfl,trivial⟩ (ws:=[.int .i64 b.Key.Kind,.string b.Key.Text,.string b.Value]) rfl rfl rfl rfl fun I a w hk hS=>?_);replace hS:=(hS.lit (R:=aj) (us:=[.int .i64 b.Key.Kind,.string b.Key.Text,.string b.Value]) (xs:=[(aq.mk b.Key b.Value)]) 0 rfl (by decide) (aB.one_ (R:=aj) (x:=(aq.mk b.Key b.Value)) rfl) rfl rfl).freeze (R:=aj) 0 rfl 0 rfl;obtain⟨u,hM⟩:=aS hM;refine wl rfl (bw (R:=aj) (xs:=e) (ys:=[(aq.mk b.Key b.Value)]) hS tj (by decide) (by decide) rfl rfl 1 rfl 3 rfl 0 rfl u rfl fun P L a w hk hS=>?_);exact fz
    exact fz
   rintro a w ⟨l,n,j,hS,hM⟩;unfold gD at hM;exact fz
  exact fz
 rintro a w ⟨k,g,f,hS,hM⟩;unfold mT at hM;refine ah hS fun a hS=>?_;cases hM
 refine aE hS rfl (ap hS rfl aD) ?_;exact⟨g,f,rfl,hS.retOwn ⟨.inr (List.mem_of_getElem? (i:=0) rfl),trivial⟩ 0 rfl 0 rfl⟩
def gJ (d:LC) (b:LN) (c:Int):Option (LC×aP):=some ((d,(aP.mk b c)))
def fi (d:Int) (e:LC) (b:LN) (c:Int):Option (Fl (LC×Int×LN×Int) (LC×LN×Int)):=some (.go (e,IntKind.i64.wrap (d + 1),b,c))
def jZ (d:LC) (c:Int) (f:LN) (g:Int):Option (Fl (LC×Int×LN×Int) (LC×LN×Int)):=cond (decide ((c:Int) < 5)) ((bF (aP.mk f g) 2).bind fun b=>cond ((b.1:Int) == 0) ((cW c).bind fun h=>(oB (aP.mk b.2.L b.2.At) ([(ByteArray.mk #[49]),(ByteArray.mk #[50]),(ByteArray.mk #[51]),(ByteArray.mk #[120])])).bind fun e=>gd (br (d.length + ([(aq.mk h e.1)]).length)) <| fi c (d ++ ([(aq.mk h e.1)])) e.2.L e.2.At) (fi c d b.2.L b.2.At)) (some (.out (d,f,g)))
def kL (b:aP):Option (LC×aP):=(loop (fun s:LC×Int×LN×Int=>jZ s.1 s.2.1 s.2.2.1 s.2.2.2) (([]:List aq),0,b.L,b.At)).bind fun r=>gJ r.1 r.2.1 r.2.2
theorem uS (T:Nat→Prop) (W0:World) (hT:TW T W0) (p:aP) (Q:Value) (b:Nat) (M:W0.heap[b]? = some (.cells (aZ p Q).toArray 64 (0,0))) (X:¬ T b) (a2:aA (aN.int .i64) (dT T [.box b (aZ p Q) 64]) W0 Q p.L) (hLv:cU (dT T [.box b (aZ p Q) 64]) W0) (y:LC×aP) (hM:kL p=some y):aW Tryz.prog (fun k=>k=b) 10 [pt b 0] W0 (fun v w'=>∃ (m:Value) (qT:List Value) (S:Value),v=m∧fu aj T W0 w' [bn m qT,.box b (aZ y.2 S) 64] 46 m qT y.1∧w'.heap[b]? = some (.cells (aZ y.2 S).toArray 64 (0,0))∧aA (aN.int .i64) (dT T [bn m qT,.box b (aZ y.2 S) 64]) w' S y.2.L):=by
 refine pB (c:=_) Tryz.func10 rfl T 22 Tryz.ntmps10 hT rfl M X fun a hS=>?_;replace hS:=(hS.fact bv hLv).fS a2;unfold kL at hM;refine ah hS fun a hS=>?_;refine aG (J:=fun a w=>∃ (B:LC) (t:LN) (u:Int) (n:Value) (l:LV) (o:Value),St W0 (fun k=>k=b) T 22 [(3,n)] [bn n l,.box b [o,.int .i64 u] 64] [am aj l B,aJ (aN.int .i64) o t,bv] a w∧gJ B t u=some y) ?_ ?_
 ·skip;refine ah hS fun a hS=>?_;replace hS:=hS.nilRow aj 46 (by decide);obtain⟨r1,a1,hMo1⟩:=bd hM;refine bu _ (fun s a w=>∃ (j:LC) (f:Int) (g:LN) (h:Int) (E:Value) (q:LV) (F:Value),(j,f,g,h)=s∧St W0 (fun k=>k=b) T 22 [(0,pt b 0),(3,E),(5,.int .i64 f)] [bn E q,.box b [F,.int .i64 h] 64] [am aj q j,aJ (aN.int .i64) F g,bv] a w) a1 ⟨_,_,_,_,_,_,_,rfl,hS.mt [0,1] [0,1,2]⟩ ?_;rintro s a w f1 ⟨j,f,g,h,E,q,F,rfl,hS⟩ hM hf1;have hM:jZ j f g h=some f1:=hM;unfold jZ at hM;refine ah hS fun a hS=>?_;refine az ?_;rcases cd hM with⟨U,hM⟩|⟨U,hM⟩
  ·refine ah hS fun a hS=>?_;refine aG (J:=fun a w=>∃ (C:LC) (z:LN) (A:Int) (G:Value) (r:LV) (H:Value),St W0 (fun k=>k=b) T 22 [(0,pt b 0),(3,G),(5,.int .i64 f)] [bn G r,.box b [H,.int .i64 A] 64] [am aj r C,aJ (aN.int .i64) H z,bv] a w∧fi f C z A=some f1) ?_ ?_
   ·skip;refine ah hS fun a hS=>?_;obtain⟨D,N,hM⟩:=bd hM;refine wl rfl (bS hS lA rfl rfl 1 rfl (bh _ _ (hS.drop 1).dlt (aP.mk g h) 2 _ _ (hS.boxRow 1 rfl) (hS.notin 1 rfl) (aA.lent (i:=1) rfl (hS.get 1 rfl)) _ N) fun _ w hR hk=>?_);obtain⟨Y,he,hrow,I⟩:=hR;obtain rfl:=he.symm;refine⟨(aZ D.2 Y),hrow,fun a hS=>?_⟩;replace hS:=hS.fS (aA.back (i:=1) rfl I);refine ah hS fun a hS=>?_;rcases cd hM with⟨V,hM⟩|⟨V,hM⟩
    ·refine ah hS fun a hS=>?_;obtain⟨d,O,hM⟩:=bd hM;refine kc hS wK (d9 _ _ hS.dlt (hS.get 3 rfl) f _ O) fun _ w hR a hk hA=>?_;obtain rfl:=hR;have hS:=bV hA;refine ah hS fun a hS=>?_;refine wl rfl (aT (ps:=[(0,.const (.string ⟨#[49]⟩)),(1,.const (.string ⟨#[50]⟩)),(2,.const (.string ⟨#[51]⟩)),(3,.const (.string ⟨#[120]⟩))]) hS uQ H0 (zl:=[.string (ByteArray.mk #[]),.string (ByteArray.mk #[]),.string (ByteArray.mk #[]),.string (ByteArray.mk #[])]) (by kernel_rfl) rfl (us:=[[.string (ByteArray.mk #[49])],[.string (ByteArray.mk #[50])],[.string (ByteArray.mk #[51])],[.string (ByteArray.mk #[120])]]) ⟨rfl,⟨rfl,⟨rfl,⟨rfl,trivial⟩⟩⟩⟩ (ws:=[.string (ByteArray.mk #[49]),.string (ByteArray.mk #[50]),.string (ByteArray.mk #[51]),.string (ByteArray.mk #[120])]) rfl rfl rfl rfl fun a3 a w hk hS=>?_);replace hS:=(hS.lit (R:=aN.str) (us:=[.string (ByteArray.mk #[49]),.string (ByteArray.mk #[50]),.string (ByteArray.mk #[51]),.string (ByteArray.mk #[120])]) (xs:=[(ByteArray.mk #[49]),(ByteArray.mk #[50]),(ByteArray.mk #[51]),(ByteArray.mk #[120])]) 0 rfl (by decide) ((aB.one_ (R:=aN.str) (x:=(ByteArray.mk #[49])) rfl).append ((aB.one_ (R:=aN.str) (x:=(ByteArray.mk #[50])) rfl).append ((aB.one_ (R:=aN.str) (x:=(ByteArray.mk #[51])) rfl).append (aB.one_ (R:=aN.str) (x:=(ByteArray.mk #[120])) rfl)))) rfl rfl).freeze (R:=aN.str) 0 rfl 0 rfl;obtain⟨e,P,hM⟩:=bd hM;refine wl rfl (bS hS IC rfl rfl 1 rfl (uG _ _ (hS.drop 1).dlt (aP.mk D.2.L D.2.At) ([(ByteArray.mk #[49]),(ByteArray.mk #[50]),(ByteArray.mk #[51]),(ByteArray.mk #[120])]) _ _ _ (hS.boxRow 1 rfl) (hS.notin 1 rfl) (aA.lent (i:=1) rfl (hS.get 2 rfl)) (aA.lent (i:=1) rfl (hS.get 0 rfl)) _ P) fun _ w hR hk=>?_);obtain⟨Z,he,hrow,K⟩:=hR;obtain rfl:=he.symm;refine⟨(aZ e.2 Z),hrow,fun a hS=>?_⟩;replace hS:=hS.fS (aA.back (i:=1) rfl K);refine qy hS (bj (ps:=[(0,.tmp 13),(1,.tmp 16)]) hS vX k9 rfl (us:=[(aM d),[.string e.1]]) ⟨rfl,⟨rfl,trivial⟩⟩ (ws:=[.int .i64 d.Kind,.string d.Text,.string e.1]) rfl) fun a hS=>?_;refine wl rfl (aT (ps:=[(0,.tmp 17)]) hS tj k9 (zl:=[.int .i64 0,.string (ByteArray.mk #[]),.string (ByteArray.mk #[])]) (by kernel_rfl) rfl (us:=[[.int .i64 d.Kind,.string d.Text,.string e.1]]) ⟨rfl,trivial⟩ (ws:=[.int .i64 d.Kind,.string d.Text,.string e.1]) rfl rfl rfl rfl fun a4 a w hk hS=>?_);replace hS:=(hS.lit (R:=aj) (us:=[.int .i64 d.Kind,.string d.Text,.string e.1]) (xs:=[(aq.mk d e.1)]) 0 rfl (by decide) (aB.one_ (R:=aj) (x:=(aq.mk d e.1)) rfl) rfl rfl).freeze (R:=aj) 0 rfl 0 rfl;obtain⟨W,hM⟩:=aS hM;refine wl rfl (bw (R:=aj) (xs:=j) (ys:=[(aq.mk d e.1)]) hS tj (by decide) (by decide) rfl rfl 0 rfl 6 rfl 0 rfl W rfl fun a9 a5 a w hk hS=>?_);exact fz
    exact fz
   rintro a w ⟨C,z,A,G,r,H,hS,hM⟩;unfold fi at hM;exact fz
  refine ah hS fun a hS=>?_;cases hM
  have hr:=hf1 _ rfl;subst hr;have hM:gJ j g h=some y:=hMo1;exact⟨_,_,_,_,_,_,hS.mt [0,1] [0,1,2],hM⟩
 rintro a w ⟨B,t,u,n,l,o,hS,hM⟩;unfold gJ at hM;refine ah hS fun a hS=>?_;cases hM
 refine aE hS rfl (ap hS rfl aD) ?_;exact⟨n,l,o,rfl,hS.retOwnm ⟨.inr (List.mem_of_getElem? (i:=0) rfl),⟨.inr (List.mem_of_getElem? (i:=1) rfl),trivial⟩⟩ 0 rfl 0 rfl 1 rfl (by decide),hS.boxRow 1 rfl,(aA.up ⟨.inr (List.mem_of_getElem? (i:=0) rfl),⟨.inr (List.mem_of_getElem? (i:=1) rfl),trivial⟩⟩ (hS.get 1 rfl))⟩
def mU (g:ai) (b:Int) (c:Int) (d:LI) (e:LR):Option (ai×Int):=cond ((b:Int) != 0) ((db g).bind fun f=>some ((f,b))) (some (((ai.mk c d e),0)))
def gl (b:ai) (d:LC):Option (ai×Int):=(gY b).bind fun e=>cond (!(e)) ((db b).bind fun f=>some ((f,42))) ((cz d).bind fun g=>cond (!(g)) ((db b).bind fun h=>some ((h,5))) ((e7 b).bind fun i=>(e6 i d).bind fun j=>(gX b j).bind fun c=>mU b c.2 c.1.Revision c.1.Inputs c.1.Records))
theorem n8 (T:Nat→Prop) (W0:World) (hT:TW T W0) (hLv:cU T W0) (b:ai) (f:LC) (v1:Value) (v2:Value) (v3:Value) (d3:aA ad T W0 v1 b.Inputs) (d4:aA aa T W0 v2 b.Records) (d6:aA aj T W0 v3 f) (y:ai×Int) (hM:gl b f=some y):aW Tryz.prog No 11 [.agg (aQ b v1 v2).toArray,v3] W0 (fun v w'=>∃ (v4:Value) (tX:List Value) (v6:Value) (vt:List Value),v = .tuple #[.agg (aQ y.1 v4 v6).toArray,.int .i64 y.2]∧fu ad T W0 w' [aR v4 tX,aH v6 vt] 69 v4 tX y.1.Inputs∧fu aa T W0 w' [aR v4 tX,aH v6 vt] 84 v6 vt y.1.Records∧(∀ k,v4.ownBlock=some k→v6.ownBlock ≠ some k)):=by
 refine en Tryz.func11 Tryz.ntmps11 hT fun a hS=>?_;replace hS:=(((hS.fact bv (cU.dn hLv)).fS (aA.dn d3)).fS (aA.dn d4)).fS (aA.dn d6);unfold gl at hM;refine ah hS fun a hS=>?_;refine kb hS fun H e2 a w hk hS=>?_;refine ka hS l4 fun I e3 a w hk hS=>?_;refine ah hS fun a hS=>?_;refine az ?_;refine ah hS fun a hS=>?_;obtain⟨e5,af,hM⟩:=bd hM;refine kc hS IK (qi _ _ hS.dlt (hS.get 3 rfl) b _ _ (hS.get 2 rfl) (hS.get 1 rfl) _ af) fun _ w hR a hk hA=>?_;obtain rfl:=hR;have hS:=bV hA;refine ah hS fun a hS=>?_;rcases cd hM with⟨bs,hM⟩|⟨bs,hM⟩
 ·refine ah hS fun a hS=>?_;obtain⟨e8,ag,hM⟩:=bd hM;refine kc hS Ae (eN _ _ hS.dlt b _ _ (hS.get 2 rfl) (hS.get 1 rfl) _ ag) fun _ w hR a hk hA=>?_;obtain⟨cl,b5,co,b6,he,P,Q,c⟩:=hR;obtain rfl:=he.symm;have hS:=s7 hA P Q c;refine go hS fun a w hS=>?_;cases hM
  refine aE hS Tryz.results11 (a7 hS rfl 2 rfl ez rfl (fun h=>by cases h) (ap hS rfl aD)) ?_;exact⟨cl,b5,co,b6,rfl,hS.retOwn ⟨.inr (List.mem_of_getElem? (i:=0) rfl),⟨.inr (List.mem_of_getElem? (i:=1) rfl),trivial⟩⟩ 0 rfl 1 rfl,hS.retOwn ⟨.inr (List.mem_of_getElem? (i:=0) rfl),⟨.inr (List.mem_of_getElem? (i:=1) rfl),trivial⟩⟩ 1 rfl 0 rfl,(hS.apart2 0 rfl 1 rfl (by decide))⟩
 refine ah hS fun a hS=>?_;obtain⟨ea,ak,hM⟩:=bd hM;refine kc hS Eq (jf _ _ hS.dlt (hS.get 3 rfl) f _ (hS.get 0 rfl) _ ak) fun _ w hR a hk hA=>?_;obtain rfl:=hR;have hS:=bV hA;refine ah hS fun a hS=>?_;rcases cd hM with⟨bt,hM⟩|⟨bt,hM⟩
 ·refine ah hS fun a hS=>?_;obtain⟨ed,ao,hM⟩:=bd hM;refine kc hS Ae (eN _ _ hS.dlt b _ _ (hS.get 2 rfl) (hS.get 1 rfl) _ ao) fun _ w hR a hk hA=>?_;obtain⟨cs,b8,cv,b9,he,S,U,c⟩:=hR;obtain rfl:=he.symm;have hS:=s7 hA S U c;refine go hS fun a w hS=>?_;cases hM
  refine aE hS Tryz.results11 (a7 hS rfl 2 rfl ez rfl (fun h=>by cases h) (ap hS rfl aD)) ?_;exact⟨cs,b8,cv,b9,rfl,hS.retOwn ⟨.inr (List.mem_of_getElem? (i:=0) rfl),⟨.inr (List.mem_of_getElem? (i:=1) rfl),trivial⟩⟩ 0 rfl 1 rfl,hS.retOwn ⟨.inr (List.mem_of_getElem? (i:=0) rfl),⟨.inr (List.mem_of_getElem? (i:=1) rfl),trivial⟩⟩ 1 rfl 0 rfl,(hS.apart2 0 rfl 1 rfl (by decide))⟩
 refine ah hS fun a hS=>?_;refine aG (J:=fun a w=>∃ (u:Int) (x:Int) (z:LI) (A:LR) (s:Nat) (q:Value) (n:LV) (r:Value) (o:LV),St W0 No T 35 [(2,pt H 0),(4,pt I 0),(6,pt s 0),(7,.int .i64 u)] [.box H (aQ b v1 v2) 31,.box I [.int .i64 0,.slice none 0 0,.slice none 0 0] 31,aR q n,aH r o,.box s [.int .i64 x,q,r] 31] [aJ ad v1 b.Inputs,aJ aa v2 b.Records,am ad n z,am aa o A,bv] a w∧mU b u x z A=some y) ?_ ?_
 ·skip;obtain⟨N131,a9⟩:∃ N,N=w.heap.size:=⟨_,rfl⟩;replace hS:=hS.fact (BA N131) (Nat.le_of_eq a9);refine dr [(10,.new N131)] hS fun w hQ hS=>?_;refine gE [0,1,3] hS fun a hS=>?_;obtain⟨B,E,hM⟩:=bd hM;refine de (i:=2) (j:=9) rfl rfl (by kernel_rfl) rfl rfl ?_ ?_
  ·skip;skip;refine id (a8 hS IS rfl rfl (ix _ _ hS.dlt b _ _ (hS.get 3 rfl) (hS.get 2 rfl) _ E) fun _ w hR a hk hA=>⟨fc (hk),?_⟩);obtain⟨el,dc,he,V⟩:=hR;obtain rfl:=he.symm;have hS:=oI hA V;have hL:=hS;replace hL:=hL.freeze (R:=aj) 0 rfl 0 rfl;obtain⟨C,F,hM⟩:=bd hM;refine de (i:=4) (j:=9) rfl rfl (by kernel_rfl) rfl rfl ?_ ?_
   ·skip;skip;have hL:=hS;replace hL:=hL.freeze (R:=aj) 0 rfl 0 rfl;refine id (a8 hS Ad rfl rfl (gk _ _ hL.dlt (hL.get 6 rfl) B f _ _ (hL.get 0 rfl) (hL.get 3 rfl) _ F) fun _ w hR a hk hA=>⟨fc (hk),?_⟩);obtain⟨d0,bb,he,⟨O,M,W⟩⟩:=hR;obtain rfl:=he.symm;have hS:=hA [bn d0 bb] (eA ⟨O,by decide⟩ M) (ro _);replace hS:=(hS.fR W).freeze (R:=aj) 0 rfl 0 rfl;obtain⟨eg,G,hM⟩:=bd hM;refine de (i:=5) (j:=9) rfl rfl (by kernel_rfl) rfl rfl ?_ ?_
    ·skip;skip;refine id (a8 hS Er rfl rfl (kp _ _ hS.dlt (hS.get 7 rfl) b C _ _ _ (hS.get 6 rfl) (hS.get 5 rfl) (hS.get 0 rfl) _ G) fun _ w hR a hk hA=>⟨fc (hk),?_⟩);obtain⟨em,dk,eq,dl,he,X,Y,c⟩:=hR;obtain rfl:=he.symm;have hS:=s7 hA X Y c;refine gE [6,7,8] hS fun a hS=>?_;have c0:=(hS.get 5 rfl:N131≤w.heap.size);refine e1 9 (cr hS l4 rfl fun b1 c1 a w hk hS=>⟨fc (hk),?_⟩);refine cC 10 (.blk (some b1)) _ (by kernel_rfl) (lZ (Nat.le_trans c0 c1)) ?_;refine es 10 hS fun w hS=>?_;refine gE [11] hS fun a hS=>?_;refine eD ?_;exact⟨_,_,_,_,_,_,_,_,_,hS.mt [5,4,1,2,0] [8,7,1,0,9],hM⟩
    skip;have c2:=(hS.get 3 rfl:N131≤w.heap.size);refine id (cr hS l4 rfl fun b2 c3 a w hk hS=>⟨fc (hk),?_⟩);refine cC 10 (.blk (some b2)) _ (by kernel_rfl) (lZ (Nat.le_trans c2 c3)) ?_;refine ec 5 hS Er (kp _ _ hS.dlt (hS.get 7 rfl) b C _ _ _ (hS.get 6 rfl) (hS.get 5 rfl) (hS.get 0 rfl) _ G) fun _ w hR a hk hA=>?_;obtain⟨a2,K,a3,L,he,d,e,c⟩:=hR;obtain rfl:=he.symm;have hS:=s7 hA d e c;refine gE [6,7,8] hS fun a hS=>?_;refine es 10 hS fun w hS=>?_;refine gE [11] hS fun a hS=>?_;refine eD ?_;exact⟨_,_,_,_,_,_,_,_,_,hS.mt [5,4,0,1,2] [8,7,1,0,9],hM⟩
   skip;have c4:=(hS.get 1 rfl:N131≤w.heap.size);refine id (cr hS l4 rfl fun b3 c5 a w hk hS=>⟨fc (hk),?_⟩);refine cC 10 (.blk (some b3)) _ (by kernel_rfl) (lZ (Nat.le_trans c4 c5)) ?_;have hL:=hS;replace hL:=hL.freeze (R:=aj) 1 rfl 0 rfl;refine ec 4 hS Ad (gk _ _ hL.dlt (hL.get 6 rfl) B f _ _ (hL.get 0 rfl) (hL.get 3 rfl) _ F) fun _ w hR a hk hA=>?_;obtain⟨D,t,he,⟨l,g,m⟩⟩:=hR;obtain rfl:=he.symm;have hS:=hA [bn D t] (eA ⟨l,by decide⟩ g) (ro _);replace hS:=(hS.fR m).freeze (R:=aj) 0 rfl 0 rfl;obtain⟨ch,p,hM⟩:=bd hM;refine ec 5 hS Er (kp _ _ hS.dlt (hS.get 7 rfl) b C _ _ _ (hS.get 6 rfl) (hS.get 5 rfl) (hS.get 0 rfl) _ p) fun _ w hR a hk hA=>?_;obtain⟨a2,K,a3,L,he,d,e,c⟩:=hR;obtain rfl:=he.symm;have hS:=s7 hA d e c;refine gE [6,7,8] hS fun a hS=>?_;refine es 10 hS fun w hS=>?_;refine gE [11] hS fun a hS=>?_;refine eD ?_;exact⟨_,_,_,_,_,_,_,_,_,hS.mt [5,4,0,1,2] [8,7,1,0,9],hM⟩
  skip;have c9:=(hS.get 0 rfl:N131≤w.heap.size);refine id (cr hS l4 rfl fun b4 ca a w hk hS=>⟨fc (hk),?_⟩);refine cC 10 (.blk (some b4)) _ (by kernel_rfl) (lZ (Nat.le_trans c9 ca)) ?_;refine ec 2 hS IS (ix _ _ hS.dlt b _ _ (hS.get 3 rfl) (hS.get 2 rfl) _ E) fun _ w hR a hk hA=>?_;obtain⟨er,ds,he,Z⟩:=hR;obtain rfl:=he.symm;have hS:=oI hA Z;have hL:=hS;replace hL:=hL.freeze (R:=aj) 0 rfl 0 rfl;obtain⟨ck,av,hM⟩:=bd hM;refine ec 4 hS Ad (gk _ _ hL.dlt (hL.get 6 rfl) B f _ _ (hL.get 0 rfl) (hL.get 3 rfl) _ av) fun _ w hR a hk hA=>?_;obtain⟨D,t,he,⟨l,g,m⟩⟩:=hR;obtain rfl:=he.symm;have hS:=hA [bn D t] (eA ⟨l,by decide⟩ g) (ro _);replace hS:=(hS.fR m).freeze (R:=aj) 0 rfl 0 rfl;obtain⟨ch,p,hM⟩:=bd hM;refine ec 5 hS Er (kp _ _ hS.dlt (hS.get 7 rfl) b ck _ _ _ (hS.get 6 rfl) (hS.get 5 rfl) (hS.get 0 rfl) _ p) fun _ w hR a hk hA=>?_;obtain⟨a2,K,a3,L,he,d,e,c⟩:=hR;obtain rfl:=he.symm;have hS:=s7 hA d e c;refine gE [6,7,8] hS fun a hS=>?_;refine es 10 hS fun w hS=>?_;refine gE [11] hS fun a hS=>?_;refine eD ?_;exact⟨_,_,_,_,_,_,_,_,_,hS.mt [5,4,0,1,3] [8,7,1,0,9],hM⟩
 rintro a w ⟨u,x,z,A,s,q,n,r,o,hS,hM⟩;unfold mU at hM;refine az ?_;refine ah hS fun a hS=>?_;rcases cd hM with⟨cb,hM⟩|⟨cb,hM⟩
 ·refine ah hS fun a hS=>?_;obtain⟨e4,ab,hM⟩:=bd hM;refine kc hS Ae (eN _ _ hS.dlt b _ _ (hS.get 0 rfl) (hS.get 1 rfl) _ ab) fun _ w hR a hk hA=>?_;obtain⟨d1,bi,d2,bl,he,a0,a1,c⟩:=hR;obtain rfl:=he.symm;have hS:=s7 hA a0 a1 c;refine go hS fun a w hS=>?_;cases hM
  refine aE hS Tryz.results11 (a7 hS rfl 3 rfl ez rfl (fun h=>by cases h) (ap hS rfl aD)) ?_;exact⟨d1,bi,d2,bl,rfl,hS.retOwn ⟨.inr (List.mem_of_getElem? (i:=0) rfl),⟨.inr (List.mem_of_getElem? (i:=1) rfl),trivial⟩⟩ 0 rfl 1 rfl,hS.retOwn ⟨.inr (List.mem_of_getElem? (i:=0) rfl),⟨.inr (List.mem_of_getElem? (i:=1) rfl),trivial⟩⟩ 1 rfl 0 rfl,(hS.apart2 0 rfl 1 rfl (by decide))⟩
 refine go hS fun a w hS=>?_;cases hM
 refine aE hS Tryz.results11 (a7 hS rfl 1 rfl ez rfl (fun h=>by cases h) (ap hS rfl aD)) ?_;exact⟨q,n,r,o,rfl,hS.retOwn ⟨.inr (List.mem_of_getElem? (i:=2) rfl),⟨.inr (List.mem_of_getElem? (i:=3) rfl),trivial⟩⟩ 2 rfl 2 rfl,hS.retOwn ⟨.inr (List.mem_of_getElem? (i:=2) rfl),⟨.inr (List.mem_of_getElem? (i:=3) rfl),trivial⟩⟩ 3 rfl 3 rfl,(hS.apart2 2 rfl 3 rfl (by decide))⟩
end
end
section
open Go.RowKit
open Go.Lib hiding intOf
instance:DecidableEq ae:=fun a b=>decidable_of_iff (cS a b=true) dz
theorem AD (xs:List ae):(pA xs).Perm xs:=List.mergeSort_perm _ _
theorem yt (xs:List ae):(pA xs).Pairwise fun a b=>¬ bE b a < 0:=by
  have h:=List.pairwise_mergeSort (le:=fun x y=>!ltOf bE y x) (fun a b c h1 h2=>by
    simp only [Bool.not_eq_true'] at *
    exact Jk.ntrans _ _ _ h2 h1) (fun a b=>by
    simp only [Bool.or_eq_true,Bool.not_eq_true']
    unfold ltOf
    simp only [decide_eq_false_iff_not]
    by_cases h:bE b a < 0
    · exact .inr (rV h)
    · exact .inl h) xs
  refine List.Pairwise.imp (fun {a b} h=>?_) h
  unfold ltOf at h
  simpa using h
def pX (s:List ae):Nat→List ae
  | 0=>[]
  | n + 1=>pX s n ++ (match s[n]? with
    | some x=>if n ≠ 0∧s[n - 1]? = some x then [] else [x]
    | none=>[])
theorem A3 (s:List ae):∀ n,(pX s n).length≤n
  | 0=>Nat.le_refl _
  | n + 1=>by
    have:=A3 s n
    unfold pX
    rw [List.length_append]
    cases s[n]? with
    | none=>simp; omega
    | some x=>dsimp only; split <;> simp <;> omega
theorem td {s:List ae} {n:Nat} {x:ae} (hx:s[n]? = some x) (h:n=0∨s[n - 1]? ≠ some x):pX s (n + 1)=pX s n ++ [x]:=by
  rw [pX,hx]
  dsimp only
  rw [if_neg (by rintro⟨h1,h2⟩; rcases h with h | h; exact h1 h; exact h h2)]
theorem tf {s:List ae} {n:Nat} {x:ae} (hx:s[n]? = some x) (h0:n ≠ 0) (h:s[n - 1]? = some x):pX s (n + 1)=pX s n:=by
  rw [pX,hx]
  dsimp only
  rw [if_pos ⟨h0,h⟩,List.append_nil]
theorem vA {s:List ae}:∀ {n:Nat} {x:ae},n≤s.length→(x ∈ pX s n↔∃ i,i < n∧s[i]? = some x)
  | 0,x,_=>by simp [pX]
  | n + 1,x,h=>by
    have ih:=vA (s:=s) (n:=n) (x:=x) (by omega)
    have hn:s[n]? = some s[n]:=List.getElem?_eq_getElem (by omega)
    by_cases hc:n ≠ 0∧s[n - 1]? = some s[n]
    · rw [tf hn hc.1 hc.2,ih]
      constructor
      · rintro⟨i,h1,h2⟩; exact⟨i,by omega,h2⟩
      · rintro⟨i,h1,h2⟩
        by_cases hi:i=n
        · subst hi
          rw [hn] at h2
          exact⟨i - 1,by omega,by rw [hc.2,← h2]⟩
        · exact⟨i,by omega,h2⟩
    · rw [td hn (by by_cases h0:n=0; exact .inl h0; exact .inr fun h=>hc ⟨h0,h⟩),List.mem_append,ih]
      constructor
      · rintro (⟨i,h1,h2⟩ | h)
        · exact⟨i,by omega,h2⟩
        · simp only [List.mem_cons,List.not_mem_nil,or_false] at h
          exact⟨n,by omega,by rw [hn,h]⟩
      · rintro⟨i,h1,h2⟩
        by_cases hi:i=n
        · subst hi
          rw [hn] at h2
          injection h2 with h2
          exact .inr (by simp [h2])
        · exact .inl ⟨i,by omega,h2⟩
theorem yU {s:List ae} (hs:s.Pairwise fun a b=>¬ bE b a < 0):∀ n,n≤s.length→qq (pX s n)
  | 0,_=>List.Pairwise.nil
  | n + 1,h=>by
    have ih:=yU hs n (by omega)
    have hn:s[n]? = some s[n]:=List.getElem?_eq_getElem (by omega)
    by_cases hc:n ≠ 0∧s[n - 1]? = some s[n]
    · rw [tf hn hc.1 hc.2]; exact ih
    · rw [td hn (by by_cases h0:n=0; exact .inl h0; exact .inr fun h=>hc ⟨h0,h⟩)]
      unfold qq
      rw [List.pairwise_append]
      refine⟨ih,List.pairwise_singleton _ _,fun a ha b hb=>?_⟩
      simp only [List.mem_cons,List.not_mem_nil,or_false] at hb
      subst hb
      obtain⟨i,hi,hia⟩:=(vA (by omega)).1 ha
      have h0:n ≠ 0:=by omega
      have hm:s[n - 1]? = some s[n - 1]:=List.getElem?_eq_getElem (by omega)
      have hlt:bE s[n - 1] s[n] < 0:=by
        have h1:=List.pairwise_iff_getElem.1 hs (n - 1) n (by omega) (by omega) (by omega)
        rcases qb s[n - 1] s[n] with h | h | h
        · exact h
        · exact absurd ⟨h0,by rw [hm,h]⟩ hc
        · exact absurd h h1
      by_cases hin:i=n - 1
      · subst hin
        rw [hm] at hia
        injection hia with hia
        rw [← hia]; exact hlt
      · have h1:=List.pairwise_iff_getElem.1 hs i (n - 1) (by omega) (by omega) (by omega)
        obtain⟨q1,q2⟩:=List.getElem?_eq_some_iff.1 hia
        rw [q2] at h1
        exact kK h1 hlt
theorem rP {s:List ae}:∀ n,n≤s.length→(∀ i,i ≠ 0→i < n→s[i - 1]? ≠ s[i]?)→pX s n=s.take n
  | 0,_,_=>by simp [pX]
  | n + 1,h,hd=>by
    have hn:s[n]? = some s[n]:=List.getElem?_eq_getElem (by omega)
    rw [td hn (by by_cases h0:n=0; exact .inl h0; exact .inr (by rw [← hn]; exact hd n h0 (by omega))),rP n (by omega) fun i h0 hi=>hd i h0 (by omega),bG hn]
theorem Ag {s:List ae} (hl:Rm s.length):lN s=some (pX s s.length):=by
  unfold Rm at hl
  have key:Ok (lN s) fun y=>y=pX s s.length:=by
    unfold lN
    refine Ok.cond (fun e=>Ok.ret ?_) (fun e=>?_)
    · have e:s.length < 2:=by have:=of_decide_eq_true e; omega
      rw [rP _ (Nat.le_refl _) fun i h0 hi=>by omega,List.take_length]
    · have e:2≤s.length:=by have:=of_decide_eq_false e; omega
      refine Ok.loop (fun n t=>t=((n + 1:Nat):Int)∧n + 1≤s.length∧∀ i,i ≠ 0→i < n + 1→s[i - 1]? ≠ s[i]?) (fun r=>(r = .go ()∧pX s s.length=s)∨r = .out (pX s s.length)) (s.length - 1) ⟨rfl,by omega,fun i h0 hi=>by omega⟩ (fun n t hn hI=>?_) (fun r hr=>?_)
      · obtain⟨rfl,hI1,hI2⟩:=hI
        unfold me
        by_cases hk:n + 1 < s.length
        · have hx:s[n + 1]? = some s[n + 1]:=List.getElem?_eq_getElem hk
          have hy:s[n]? = some s[n]:=List.getElem?_eq_getElem (by omega)
          rw [dlt hk,cond_true,aU,hx,Option.bind_some,wF (by omega) (by omega),show (((n + 1:Nat):Int) - 1)=((n:Nat):Int) by omega,aU,hy,Option.bind_some]
          show Ok (cond (cS s[n + 1] s[n]) _ _) _
          cases hq:cS s[n + 1] s[n]
          · rw [cond_false]
            unfold mb
            rw [cB (by omega)]
            refine Ok.ret ⟨by omega,rfl,by omega,fun i h0 hi=>?_⟩
            by_cases hin:i=n + 1
            · subst hin
              rw [Nat.add_sub_cancel,hx,hy]
              have:=qu.1 hq
              exact fun h=>this (Option.some.inj h).symm
            · exact hI2 i h0 (by omega)
          · rw [cond_true,r9 (by omega),Option.bind_some]
            have heq:=dz.1 hq
            refine Ok.loop (fun m t=>∃ s' kk,t=(s',((kk:Nat):Int),((m + 1:Nat):Int))∧s'.length=s.length∧s'.take kk=pX s (n + 1 + (m + 1))∧s'.drop (n + 1 + m)=s.drop (n + 1 + m)∧kk≤n + 1 + m∧n + 1 + (m + 1)≤s.length)
              (fun t=>∃ s' kk,t=(s',((kk:Nat):Int))∧s'.length=s.length∧kk≤s.length∧s'.take kk=pX s s.length) (s.length - (n + 2))
              ⟨s,n + 1,rfl,rfl,?_,rfl,by omega,by omega⟩ (fun m t hm hJ=>?_) (fun t ht=>?_)
            · rw [Nat.zero_add,tf hx (by omega) (by rw [Nat.add_sub_cancel,hy,heq]),rP (n + 1) (by omega) hI2]
            · obtain⟨s',kk,rfl,e1,e2,e3,e4,e5⟩:=hJ
              have hgt:∀ j,n + 1 + m≤j→s'[j]? = s[j]?:=fun j hj=>by
                have:=congrArg (fun l=>l[j - (n + 1 + m)]?) e3
                simp only [List.getElem?_drop] at this
                rwa [show n + 1 + m + (j - (n + 1 + m))=j by omega] at this
              unfold mc
              dsimp only
              rw [Int.toNat_natCast,Int.toNat_natCast]
              by_cases hk2:n + 1 + (m + 1) < s.length
              · have hz:s[n + 1 + (m + 1)]? = some s[n + 1 + (m + 1)]:=List.getElem?_eq_getElem hk2
                have hz0:s[n + 1 + m]? = some s[n + 1 + m]:=List.getElem?_eq_getElem (by omega)
                have w0:IntKind.i64.wrap (((m + 1:Nat):Int) - 1)=(m:Int):=by rw [wF (by omega) (by omega)]; omega
                rw [decide_eq_true (by omega),cond_true,w0]
                have g1:decide ((0:Int)≤((m + 1:Nat):Int))=true:=decide_eq_true (by omega)
                have g2:decide ((0:Int)≤(m:Int))=true:=decide_eq_true (by omega)
                have g3:decide ((m:Int) < ((s.length - (n + 1):Nat):Int))=true:=decide_eq_true (by omega)
                have a1:((n + 1:Nat):Int) + ((m + 1:Nat):Int)=((n + 1 + (m + 1):Nat):Int):=by omega
                have a2:((n + 1:Nat):Int) + (m:Int)=((n + 1 + m:Nat):Int):=by omega
                rw [g1,g2,g3,a1,a2]
                simp only [gd,cond_true]
                rw [aU,aU,aU,hgt _ (by omega),hgt _ (by omega),hz,hz0]
                simp only [Option.bind_some]
                show Ok (cond (!cS s[n + 1 + (m + 1)] s[n + 1 + m]) _ _) _
                unfold jn
                rw [cB (by omega),cB (by omega),List.getElem?_eq_getElem (by omega:kk < s'.length),Option.bind_some,Int.toNat_natCast]
                cases hq2:cS s[n + 1 + (m + 1)] s[n + 1 + m]
                · simp only [Bool.not_false,cond_true]
                  refine Ok.ret ⟨by omega,_,kk + 1,rfl,by simp [e1],?_,?_,by omega,by omega⟩
                  · rw [bG (x:=s[n + 1 + (m + 1)]) (List.getElem?_set_self (by omega)),List.take_set_of_le (Nat.le_refl _),e2,show n + 1 + (m + 1 + 1)=n + 1 + (m + 1) + 1 from rfl,td hz (.inr ?_)]
                    rw [show n + 1 + (m + 1) - 1=n + 1 + m by omega,hz0]
                    exact fun h=>(qu.1 hq2) (Option.some.inj h).symm
                  · rw [List.drop_set_of_lt (by omega)]
                    have:=congrArg (List.drop 1) e3
                    simpa [Nat.add_comm,Nat.add_left_comm,Nat.add_assoc] using this
                · simp only [Bool.not_true,cond_false]
                  refine Ok.ret ⟨by omega,_,kk,rfl,e1,?_,?_,by omega,by omega⟩
                  · rw [e2,show n + 1 + (m + 1 + 1)=n + 1 + (m + 1) + 1 from rfl,tf hz (by omega) (by rw [show n + 1 + (m + 1) - 1=n + 1 + m by omega,hz0,dz.1 hq2])]
                  · have:=congrArg (List.drop 1) e3
                    simpa [Nat.add_comm,Nat.add_left_comm,Nat.add_assoc] using this
              · rw [decide_eq_false (by omega),cond_false]
                exact Ok.ret ⟨s',kk,rfl,e1,by omega,by rw [e2,show n + 1 + (m + 1)=s.length by omega]⟩
            · obtain⟨s',kk,rfl,e1,e2,e3⟩:=ht
              unfold jm
              dsimp only
              rw [r9 (by omega),Option.bind_some]
              simp only [Int.toNat_natCast,List.drop_length,List.append_nil]
              rw [ql (by simp; omega),Option.bind_some]
              refine Ok.ret (.inr ?_)
              rw [List.take_append_of_le_length (by simp; omega),List.take_take,Nat.min_self,e3]
        · have hn2:n + 1=s.length:=by omega
          rw [Ah hk,cond_false]
          refine Ok.ret (.inl ⟨rfl,?_⟩)
          rw [rP _ (Nat.le_refl _) fun i h0 hi=>hI2 i h0 (by omega),List.take_length]
      · rcases hr with⟨rfl,h⟩ | rfl
        · exact Ok.ret h.symm
        · exact Ok.ret rfl
  obtain⟨y,e,rfl⟩:=key
  exact e
theorem yR {s:List ae} (h:Rm s.length):lM s=some s:=by
  unfold lM Rm at *
  rw [show br (([]:List ae).length + s.length)=true from dv (by simp; omega)]; rfl
theorem Cn {l:List ae} (hl:Rm l.length):∃ m,oY l=some m∧oH l m:=by
  unfold oY
  rw [yR hl,Option.bind_some,dv (by unfold Rm at hl; omega)]
  simp only [gd,cond_true]
  rw [Ag (by rw [qk]; exact hl)]
  refine⟨_,rfl,yU (yt l) _ (Nat.le_refl _),fun x=>?_,by have:=A3 (pA l) (pA l).length; rw [qk] at this; rw [qk]; exact this⟩
  rw [vA (Nat.le_refl _),← (AD l).mem_iff]
  constructor
  · rintro⟨i,_,h⟩; exact List.mem_of_getElem? h
  · intro h
    obtain⟨i,hi⟩:=List.mem_iff_getElem?.1 h
    exact⟨i,aY hi,hi⟩
end
section
open Go.RowKit
open Go.Lib hiding intOf
theorem q9 {α:Type} (x:Option α):gd true x=x:=rfl
theorem yq {α:Type} {P:List α→Prop} (h0:P []) (h1:∀ l c,P l→P (l ++ [c])) (l:List α):P l:=by
  have key:∀ m:List α,P m.reverse:=fun m=>by
    induction m with
    | nil=>exact h0
    | cons c m ih=>rw [List.reverse_cons]; exact h1 _ _ ih
  have:=key l.reverse
  rwa [List.reverse_reverse] at this
def e0:ByteArray:=ByteArray.mk #[]
def mv (m:List (ae×ByteArray)) (k:ae):ByteArray:=(bQ aC k m).getD (ByteArray.mk #[])
theorem Hx (m:List (ae×ByteArray)) (k k':ae) (v:ByteArray):mv (cT aC k' v m) k=if k=k' then v else mv m k:=by
  unfold mv
  rw [qc eV]
  by_cases h:k=k'
  · rw [if_pos ((eV _ _).2 h),if_pos h]; rfl
  · rw [if_neg (by rw [eV]; exact h),if_neg h]
def vals (l:List aq):List (ae×ByteArray):=l.foldl (fun m c=>cT aC c.Key c.Value m) []
theorem xG (l:List aq) (c:aq):vals (l ++ [c])=cT aC c.Key c.Value (vals l):=by unfold vals; rw [List.foldl_append]; rfl
def va (l:List aq) (k:ae):ByteArray:=mv (vals l) k
theorem tP (l:List aq) (c:aq) (k:ae):va (l ++ [c]) k=if k=c.Key then c.Value else va l k:=by
  unfold va; rw [xG,Hx]
theorem ux {k:ae} (l:List aq):(∀ c ∈ l,c.Key ≠ k)→va l k=e0:=by
  refine yq (P:=fun l=>(∀ c ∈ l,c.Key ≠ k)→va l k=e0) (fun _=>rfl) (fun l c ih h=>?_) l
  rw [tP,if_neg fun e=>h c (by simp) e.symm]
  exact ih fun d hd=>h d (List.mem_append_left _ hd)
theorem Br {c:aq} (l:List aq):(l.map (·.Key)).Nodup→c ∈ l→va l c.Key=c.Value:=by
  refine yq (P:=fun l=>(l.map (·.Key)).Nodup→c ∈ l→va l c.Key=c.Value) (fun _ h=>by cases h) (fun l d ih hn h=>?_) l
  rw [List.map_append,List.nodup_append] at hn
  rw [tP]
  rcases List.mem_append.1 h with h | h
  · rw [if_neg fun e=>hn.2.2 c.Key (List.mem_map_of_mem h) d.Key (by simp) e]
    exact ih hn.1 h
  · rw [List.mem_singleton.1 h,if_pos rfl]
theorem qn {l:List aq} (h:l.length≤1000000):d8 l=some (vals l):=by
  unfold d8
  rw [show loop (fun s:(List (ae×ByteArray))×Int=>ff l s.1 s.2) (([]:(List (ae×ByteArray))),0)=some (vals l) from by
    refine (bT (xs:=l) (fun k=>(vals (l.take k),(k:Int))) rfl (fun k c hx=>?_) ?_)
    · dsimp only
      have:=aY hx
      unfold ff
      rw [eJ hx,cond_true,aU,hx,Option.bind_some,cB (by omega),bG hx,xG]
    · dsimp only
      unfold ff
      rw [bA,List.take_length]; rfl]
  rfl
def bN (l:List aq):List ae:=l.map (·.Key)
theorem E5 {l:List aq} {acc:List ae} (h:acc.length + l.length≤1000000):loop (fun s:(List ae)×Int=>gF l s.1 s.2) (acc,0)=some (acc ++ bN l):=by
  refine (bT (xs:=l) (fun k=>(acc ++ bN (l.take k),(k:Int))) (by simp [bN]) (fun k c hx=>?_) ?_)
  · dsimp only
    have:=aY hx
    unfold gF
    rw [eJ hx,cond_true,aU,hx,Option.bind_some,dv (by simp [bN]; omega),q9,cB (by omega),bG hx]
    simp [bN]
  · dsimp only
    unfold gF
    rw [bA,List.take_length]; rfl
theorem B0 {ls:List (List aq)} (h:(ls.flatMap bN).length≤1000000) (h2:ls.length≤1000000):loop (fun s:(List ae)×Int=>gG ls s.1 s.2) (([]:List ae),0)=some (ls.flatMap bN):=by
  refine (bT (xs:=ls) (fun k=>((ls.take k).flatMap bN,(k:Int))) rfl (fun k c hx=>?_) ?_)
  · dsimp only
    have:=aY hx
    unfold gG
    have hl:((ls.take k).flatMap bN).length + c.length≤1000000:=by
      have e:ls=ls.take (k + 1) ++ ls.drop (k + 1):=(List.take_append_drop _ _).symm
      rw [e,bG hx] at h
      simp only [List.flatMap_append,List.length_append,List.flatMap_cons,List.flatMap_nil,List.append_nil] at h
      have:(bN c).length=c.length:=by simp [bN]
      omega
    rw [eJ hx,cond_true,aU,hx,Option.bind_some,E5 hl,Option.bind_some]
    unfold l9
    rw [cB (by omega),bG hx]
    simp
  · dsimp only
    unfold gG
    rw [bA,List.take_length]; rfl
theorem A9 {ls:List (List aq)} (h:(ls.flatMap bN).length≤1000000) (h2:ls.length≤1000000):∃ ks,lL ls=some ks∧oH (ls.flatMap bN) ks:=by
  obtain⟨ks,k1,k2⟩:=Cn (l:=ls.flatMap bN) (by unfold Rm; omega)
  refine⟨ks,?_,k2⟩
  unfold lL
  rw [B0 h h2]
  rw [Option.bind_some]
  unfold l8
  rw [k1]; rfl
theorem jW (a b:ByteArray):(a.toList == b.toList)=decide (a=b):=by
  by_cases h:a=b
  · rw [h]; simp
  · rw [decide_eq_false h,beq_eq_false_iff_ne]
    exact fun e=>h (toList_inj e)
def fx (f t:List aq) (ks:List ae):List aq:=(ks.filter fun k=>!decide (va f k=va t k)).map fun k=>⟨k,va t k⟩
theorem sL (f t:List aq) (ks:List ae):(fx f t ks).length≤ks.length:=by
  unfold fx; rw [List.length_map]; exact List.length_filter_le _ _
theorem BL {f t:List aq} {ks:List ae} (h:ks.length≤1000000):loop (fun s:(List aq)×Int=>gC (vals f) (vals t) ks s.1 s.2) (([]:List aq),0)=some (fx f t ks):=by
  refine (bT (xs:=ks) (fun n=>(fx f t (ks.take n),(n:Int))) rfl (fun n k hx=>?_) ?_)
  · dsimp only
    have hn:=aY hx
    have hl:=sL f t (ks.take n)
    rw [List.length_take] at hl
    unfold gC
    rw [eJ hx,cond_true,aU,hx,Option.bind_some,Option.bind_some,Option.bind_some,Option.bind_some]
    show cond (!((va f k).toList == (va t k).toList)) (gd (br ((fx f t (ks.take n)).length + [aq.mk k (va t k)].length)) (fv (n:Int) (fx f t (ks.take n) ++ [aq.mk k (va t k)]))) (fv (n:Int) (fx f t (ks.take n)))=_
    rw [jW,dv (by simp; omega),q9]
    unfold fv
    rw [cB (by omega),bG hx]
    unfold fx
    rw [List.filter_append,List.map_append]
    cases hd:decide (va f k=va t k) <;> simp [hd]
  · dsimp only
    unfold gC
    rw [bA,List.take_length]; rfl
theorem u0 {f t:List aq} (hf:f.length≤1000) (ht:t.length≤1000):∃ ks,oH (bN f ++ bN t) ks∧ks.length≤2000∧e6 f t=some (fx f t ks):=by
  have hl:([f,t].flatMap bN).length≤2000:=by simp [bN]; omega
  obtain⟨ks,k1,k2⟩:=A9 (ls:=[f,t]) (by omega) (by simp)
  have e:[f,t].flatMap bN=bN f ++ bN t:=by simp
  have hk:=k2.len
  rw [e] at k2
  refine⟨ks,k2,by omega,?_⟩
  unfold e6
  rw [qn (by omega),qn (by omega),Option.bind_some,Option.bind_some,k1,Option.bind_some,BL (by omega)]
  rfl
def rn (o a b:List aq) (k:ae):ByteArray:=if va b k=va o k∨va b k=va a k then va a k else if va a k=va o k then va b k else va a k
def dA (o a b:List aq) (k:ae):Bool:=!decide (va b k=va o k) && !decide (va b k=va a k) && !decide (va a k=va o k)
def qf (o a b:List aq) (ks:List ae):List aq:=(ks.filter fun k=>!decide (rn o a b k=e0)).map fun k=>⟨k,rn o a b k⟩
theorem zq (o a b:List aq) (ks:List ae):(qf o a b ks).length≤ks.length:=by
  unfold qf; rw [List.length_map]; exact List.length_filter_le _ _
theorem An {o a b:List aq} {ks:List ae} (h:ks.length≤1000000):loop (fun s:(List aq)×(List ae)×Int=>eI (vals o) (vals a) (vals b) ks s.1 s.2.1 s.2.2) (([]:List aq),([]:List ae),0)=some (qf o a b ks,ks.filter (dA o a b)):=by
  refine (bT (xs:=ks) (fun n=>(qf o a b (ks.take n),(ks.take n).filter (dA o a b),(n:Int))) rfl (fun n k hx=>?_) ?_)
  · dsimp only
    have hn:=aY hx
    have hl:=zq o a b (ks.take n)
    have hc:=List.length_filter_le (dA o a b) (ks.take n)
    rw [List.length_take] at hl hc
    have hj3:∀ (cl:List ae) (v:ByteArray),cM (qf o a b (ks.take n)) (n:Int) k cl v=some (.go ((qf o a b (ks.take n) ++ (if v=e0 then [] else [aq.mk k v])),cl,((n + 1:Nat):Int))):=fun cl v=>by
      unfold cM
      rw [jW,dv (by simp; omega),q9]
      unfold iz
      rw [cB (by omega)]
      by_cases hv:v=e0
      · rw [if_pos hv,decide_eq_true (show v=ByteArray.mk #[] from hv)]; simp
      · rw [if_neg hv,decide_eq_false (show ¬ v=ByteArray.mk #[] from hv)]; rfl
    have hj4:∀ g:Bool,dJ (vals o) (vals b) (qf o a b (ks.take n)) ((ks.take n).filter (dA o a b)) (n:Int) k (va a k) g=cond g (cM (qf o a b (ks.take n)) (n:Int) k ((ks.take n).filter (dA o a b)) (va a k)) (cond (decide (va a k=va o k)) (cM (qf o a b (ks.take n)) (n:Int) k ((ks.take n).filter (dA o a b)) (va b k)) (cM (qf o a b (ks.take n)) (n:Int) k ((ks.take n).filter (dA o a b) ++ [k]) (va a k))):=fun g=>by
      unfold dJ
      rw [← jW,dv (by simp; omega),q9]
      rfl
    have e:∀ r,eI (vals o) (vals a) (vals b) ks (qf o a b (ks.take n)) ((ks.take n).filter (dA o a b)) (n:Int)=r↔cond (decide (va b k=va o k)) (dJ (vals o) (vals b) (qf o a b (ks.take n)) ((ks.take n).filter (dA o a b)) (n:Int) k (va a k) true) (dJ (vals o) (vals b) (qf o a b (ks.take n)) ((ks.take n).filter (dA o a b)) (n:Int) k (va a k) (decide (va b k=va a k)))=r:=fun r=>by
      unfold eI
      rw [eJ hx,cond_true,aU,hx,Option.bind_some,Option.bind_some,Option.bind_some,Option.bind_some,Option.bind_some,← jW,← jW]
      exact Iff.rfl
    rw [e,hj4,hj4,hj3,hj3,hj3,bG hx]
    have em:qf o a b (ks.take n ++ [k])=qf o a b (ks.take n) ++ (if rn o a b k=e0 then [] else [aq.mk k (rn o a b k)]):=by
      unfold qf
      rw [List.filter_append,List.map_append]
      by_cases hv:rn o a b k=e0 <;> simp [hv]
    have ec:(ks.take n ++ [k]).filter (dA o a b)=(ks.take n).filter (dA o a b) ++ (if dA o a b k then [k] else []):=by
      rw [List.filter_append]
      cases hv:dA o a b k <;> simp [hv]
    rw [em,ec]
    by_cases h1:va b k=va o k
    · have q1:rn o a b k=va a k:=by unfold rn; rw [if_pos (.inl h1)]
      have q2:dA o a b k=false:=by unfold dA; rw [decide_eq_true h1]; rfl
      rw [q1,q2,decide_eq_true h1]; simp
    · by_cases h2:va b k=va a k
      · have q1:rn o a b k=va a k:=by unfold rn; rw [if_pos (.inr h2)]
        have q2:dA o a b k=false:=by unfold dA; rw [decide_eq_true h2]; simp
        rw [q1,q2,decide_eq_false h1,decide_eq_true h2]; simp
      · have h3:¬ (va b k=va o k∨va b k=va a k):=fun h=>h.elim h1 h2
        by_cases h4:va a k=va o k
        · have q1:rn o a b k=va b k:=by unfold rn; rw [if_neg h3,if_pos h4]
          have q2:dA o a b k=false:=by unfold dA; rw [decide_eq_true h4]; simp
          rw [q1,q2,decide_eq_false h1,decide_eq_false h2,decide_eq_true h4]; simp
        · have q1:rn o a b k=va a k:=by unfold rn; rw [if_neg h3,if_neg h4]
          have q2:dA o a b k=true:=by unfold dA; rw [decide_eq_false h4,decide_eq_false h1,decide_eq_false h2]; rfl
          rw [q1,q2,decide_eq_false h1,decide_eq_false h2,decide_eq_false h4]; simp
  · dsimp only
    unfold eI
    rw [bA,List.take_length]; rfl
theorem Df {o a b:List aq} (ho:o.length≤20) (ha:a.length≤20) (hb:b.length≤20) (co:cz o=some true) (ca:cz a=some true) (cb:cz b=some true) :
    ∃ ks,oH (bN o ++ bN a ++ bN b) ks∧ks.length≤60∧l7 o a b=some (qf o a b ks,if 0 < (ks.filter (dA o a b)).length then (ks.filter (dA o a b),49) else ([],0)):=by
  have hl:([o,a,b].flatMap bN).length≤60:=by simp [bN]; omega
  obtain⟨ks,k1,k2⟩:=A9 (ls:=[o,a,b]) (by omega) (by simp)
  have e:[o,a,b].flatMap bN=bN o ++ bN a ++ bN b:=by simp
  have hk:=k2.len
  rw [e] at k2
  refine⟨ks,k2,by omega,?_⟩
  unfold l7
  rw [co,ca,cb]
  simp only [Option.bind_some,Bool.not_true,cond_false]
  rw [qn (by omega),qn (by omega),qn (by omega),Option.bind_some,Option.bind_some,Option.bind_some,k1,Option.bind_some,An (by omega),Option.bind_some]
  dsimp only
  unfold iy
  have hm:=zq o a b ks
  rw [decide_eq_false (show ¬ ((64:Int) < ((qf o a b ks).length:Int)) by omega),cond_false]
  by_cases h0:0 < (ks.filter (dA o a b)).length
  · rw [if_pos h0,decide_eq_true (by omega)]; rfl
  · rw [if_neg h0,decide_eq_false (by omega)]; rfl
end
section
open Go.RowKit
open Go.Lib hiding intOf
theorem BN:∀ m n:Fin 10,m < n→compareBytes (decDigits m.val) (decDigits n.val) < 0:=by decide +kernel
theorem xJ {m n:Nat} (h:m < n) (hn:n < 10):bE (bg m) (bg n) < 0:=by
  have h1:=BN ⟨m,by omega⟩ ⟨n,hn⟩ h
  unfold bE
  rw [if_neg (show ¬ (bg m).Kind < (bg n).Kind by simp [bg]),if_neg (show ¬ (bg n).Kind < (bg m).Kind by simp [bg])]
  have e:∀ k:Nat,(bg k).Text.toList=decDigits k:=fun k=>by
    show (cq (k:Int)).toList=_
    rw [oS,mg]
  rw [e,e]; exact h1
theorem Gs {m n:Nat} (h:m < n) (hn:n < 10):bg m ≠ bg n:=nn (xJ h hn)
structure fV (n:Nat) (l:List aq):Prop where
  asc:qq (bN l)
  len:l.length≤n
  keys:∀ c ∈ l,∃ m,m < n∧c.Key=bg m
  vals:∀ c ∈ l,c.Value ≠ e0∧c.Value.size≤1000
theorem fV.nil:fV 0 []:=⟨List.Pairwise.nil,Nat.le_refl _,(fun c h=>by cases h),(fun c h=>by cases h)⟩
theorem fV.wait {n:Nat} {l:List aq} (h:fV n l):fV (n + 1) l :=
  ⟨h.asc,by have:=h.len; omega,fun c hc=>by obtain⟨m,h1,h2⟩:=h.keys c hc; exact⟨m,by omega,h2⟩,h.vals⟩
theorem fV.snoc {n:Nat} {l:List aq} (h:fV n l) (hn:n < 10) {v:ByteArray} (hv:v ≠ e0∧v.size≤1000):fV (n + 1) (l ++ [aq.mk (bg n) v]):=by
  refine⟨?_,by have:=h.len; simp; omega,fun c hc=>?_,fun c hc=>?_⟩
  · unfold bN qq
    rw [List.map_append,List.pairwise_append]
    refine⟨h.asc,by simp,fun a ha b hb=>?_⟩
    obtain⟨c,hc,rfl⟩:=List.mem_map.1 ha
    obtain⟨m,h1,h2⟩:=h.keys c hc
    simp only [List.map_cons,List.map_nil,List.mem_singleton] at hb
    rw [hb,h2]
    exact xJ h1 hn
  · rcases List.mem_append.1 hc with hc | hc
    · obtain⟨m,h1,h2⟩:=h.keys c hc; exact⟨m,by omega,h2⟩
    · rw [List.mem_singleton.1 hc]; exact⟨n,by omega,rfl⟩
  · rcases List.mem_append.1 hc with hc | hc
    · exact h.vals c hc
    · rw [List.mem_singleton.1 hc]; exact hv
theorem qq.nodup {l:List ae} (h:qq l):l.Nodup:=List.Pairwise.imp (fun h=>nn h) h
theorem BW {n:Nat}:mZ (bg n)=some true:=rfl
theorem pq {n:Nat} {l:List aq} (h:fV n l) (hn:n≤10):cz l=some true:=by
  have hl:=h.len
  unfold cz
  rw [show loop (fun s:Int=>dW l s) 0=some (Fl.go ()) from by
    refine (bT (xs:=l) (fun k=>(k:Int)) rfl (fun k c hx=>?_) ?_)
    · have hk:=aY hx
      have hc:=List.mem_of_getElem? hx
      obtain⟨m,m1,m2⟩:=h.keys c hc
      obtain⟨v1,v2⟩:=h.vals c hc
      have hj:b7 (k:Int) false=some (.go (((k + 1:Nat):Int))):=by
        unfold b7
        rw [cB (by omega)]; rfl
      unfold dW
      rw [eJ hx,cond_true,aU,hx,Option.bind_some,m2,zb (show m < 100 by omega),Option.bind_some,BW,Option.bind_some,jW,decide_eq_false (show ¬ c.Value=ByteArray.mk #[] from v1),decide_eq_false (show ¬ (1073741824:Int) < (c.Value.size:Int) by omega)]
      simp only [Bool.not_true,cond_false]
      rcases (show k=0∨0 < k by omega) with h0 | h0
      · subst h0
        exact hj
      · have hp:=List.getElem?_eq_getElem (show k - 1 < l.length by omega)
        rw [decide_eq_true (show (0:Int) < (k:Int) by omega),cond_true,pm (by omega) (by omega),show (k:Int) - 1=((k - 1:Nat):Int) by omega,aU,hp,Option.bind_some,xL,Option.bind_some]
        have hlt:bE l[k - 1].Key (bg m) < 0:=by
          have h2:=List.pairwise_iff_getElem.1 h.asc (k - 1) k (by unfold bN; simp; omega) (by unfold bN; simpa using hk) (by omega)
          obtain⟨q1,q2⟩:=List.getElem?_eq_some_iff.1 hx
          simp only [bN,List.getElem_map] at h2
          rw [q2,m2] at h2; exact h2
        rw [decide_eq_false (by omega)]
        exact hj
    · unfold dW
      rw [bA]; rfl]
  show fw l=_
  unfold fw
  rw [decide_eq_true (by omega)]
theorem D3 {v:ByteArray} (h:v ∈ [(ByteArray.mk #[49]),(ByteArray.mk #[50]),(ByteArray.mk #[51]),(ByteArray.mk #[120])]):v ≠ e0∧v.size≤1000:=by
  simp only [List.mem_cons,List.not_mem_nil,or_false] at h
  unfold e0
  rcases h with rfl | rfl | rfl | rfl <;> exact⟨by decide,by decide⟩
theorem CO {d:aP} (h:bM d.L d.At):Ok (kL d) fun r=>fV 5 r.1∧bM r.2.L r.2.At:=by
  unfold kL
  refine Ok.loop (fun n s=>s.2.1=(n:Int)∧n≤5∧fV n s.1∧bM s.2.2.1 s.2.2.2) (fun r=>fV 5 r.1∧bM r.2.1 r.2.2) 5 ⟨rfl,by omega,fV.nil,h⟩ (fun n s hn hI=>?_) (fun r hr=>?_)
  · obtain⟨l,k,dl,da⟩:=s
    obtain⟨a1,a2,a3,a4⟩:=hI
    dsimp only at a1 a2 a3 a4
    subst a1
    unfold jZ
    dsimp only
    refine Ok.cond (fun e=>?_) (fun e=>?_)
    · have e:n < 5:=by have:=of_decide_eq_true e; omega
      refine Ok.bind (cP a4 (n:=2) (by omega) (by omega)) fun u hu=>?_
      refine Ok.cond (fun e2=>?_) (fun e2=>?_)
      · rw [m7 (by omega),Option.bind_some]
        refine Ok.bind (Bt hu.2.2 (by simp) (by simp)) fun v hv=>?_
        refine Ok.gd (dv (by have:=a3.len; simp; omega)) ?_
        unfold fi
        refine Ok.ret ⟨by omega,?_,by omega,a3.snoc (by omega) (D3 hv.1),hv.2⟩
        exact cB (by omega)
      · unfold fi
        refine Ok.ret ⟨by omega,cB (by omega),by omega,a3.wait,hu.2.2⟩
    · have e:n=5:=by have:=of_decide_eq_false e; omega
      subst e
      exact Ok.ret ⟨a3,a4⟩
  · unfold gJ
    exact Ok.ret hr
theorem AB {l:List aq} (h:l.length≤1000000):lG l l=some true:=by
  unfold lG
  rw [show ((l.length:Int) != (l.length:Int))=false by simp,cond_false,show loop (fun s:Int=>i7 l l s) 0=some (Fl.go ()) from by
    refine (bT (xs:=l) (fun k=>(k:Int)) rfl (fun k c hx=>?_) ?_)
    · have hk:=aY hx
      unfold i7
      rw [eJ hx,cond_true,aU,hx,Option.bind_some,Option.bind_some,cB (by omega)]
      simp
    · unfold i7
      rw [bA]; rfl]
  rfl
theorem pQ (k0 k:ae) (v:ByteArray):va [aq.mk k0 v] k=if k=k0 then v else e0:=tP [] _ _
theorem yw (k0 k1 k:ae) (v u:ByteArray):va [aq.mk k0 v,aq.mk k1 u] k=if k=k1 then u else if k=k0 then v else e0:=by
  have:=tP [aq.mk k0 v] (aq.mk k1 u) k
  rw [pQ] at this
  exact this
theorem rf:lP=some true:=by
  unfold lP
  have c0:=m7 (n:=0) (by omega)
  have c1:=m7 (n:=1) (by omega)
  rw [show cW 0=some (bg 0) from c0,show cW 1=some (bg 1) from c1]
  simp only [Option.bind_some]
  have hne:bg 1 ≠ bg 0:=fun e=>Gs (m:=0) (n:=1) (by omega) (by omega) e.symm
  have hlt:=xJ (m:=0) (n:=1) (by omega) (by omega)
  have n1:(ByteArray.mk #[49]) ≠ e0∧(ByteArray.mk #[49]).size≤1000:=⟨by unfold e0; decide,by decide⟩
  have n2:(ByteArray.mk #[50]) ≠ e0∧(ByteArray.mk #[50]).size≤1000:=⟨by unfold e0; decide,by decide⟩
  have n5:(ByteArray.mk #[53]) ≠ e0∧(ByteArray.mk #[53]).size≤1000:=⟨by unfold e0; decide,by decide⟩
  have n12:(ByteArray.mk #[49]) ≠ (ByteArray.mk #[50]):=by decide
  have o1:fV 1 [aq.mk (bg 0) (ByteArray.mk #[49])]:=fV.nil.snoc (by omega) n1
  have o2:fV 1 [aq.mk (bg 0) (ByteArray.mk #[50])]:=fV.nil.snoc (by omega) n2
  have o3:fV 2 [aq.mk (bg 0) (ByteArray.mk #[49]),aq.mk (bg 1) (ByteArray.mk #[53])]:=o1.snoc (by omega) n5
  obtain⟨ks,k1,k2,k3⟩:=Df (o:=[aq.mk (bg 0) (ByteArray.mk #[49])]) (a:=[aq.mk (bg 0) (ByteArray.mk #[50])]) (b:=[aq.mk (bg 0) (ByteArray.mk #[49]),aq.mk (bg 1) (ByteArray.mk #[53])]) (by simp) (by simp) (by simp) (pq o1 (by omega)) (pq o2 (by omega)) (pq o3 (by omega))
  have hks:ks=[bg 0,bg 1]:=k1.uniq ⟨by unfold qq; simp [hlt],fun x=>by simp [bN],by simp [bN]⟩
  obtain⟨es,j1,j2,j3⟩:=u0 (f:=[aq.mk (bg 0) (ByteArray.mk #[49])]) (t:=[aq.mk (bg 0) (ByteArray.mk #[50])]) (by simp) (by simp)
  have hes:es=[bg 0]:=j1.uniq ⟨by unfold qq; simp,fun x=>by simp [bN],by simp [bN]⟩
  have m0:rn [aq.mk (bg 0) (ByteArray.mk #[49])] [aq.mk (bg 0) (ByteArray.mk #[50])] [aq.mk (bg 0) (ByteArray.mk #[49]),aq.mk (bg 1) (ByteArray.mk #[53])] (bg 0)=ByteArray.mk #[50]:=by
    unfold rn
    rw [pQ,pQ,yw,if_pos rfl,if_pos rfl,if_neg hne.symm,if_pos (.inl rfl)]
  have m1:rn [aq.mk (bg 0) (ByteArray.mk #[49])] [aq.mk (bg 0) (ByteArray.mk #[50])] [aq.mk (bg 0) (ByteArray.mk #[49]),aq.mk (bg 1) (ByteArray.mk #[53])] (bg 1)=ByteArray.mk #[53]:=by
    unfold rn
    rw [pQ,pQ,yw,if_pos rfl,if_neg hne,if_neg hne,if_neg (by rintro (h | h) <;> exact n5.1 h),if_pos rfl]
  have q0:dA [aq.mk (bg 0) (ByteArray.mk #[49])] [aq.mk (bg 0) (ByteArray.mk #[50])] [aq.mk (bg 0) (ByteArray.mk #[49]),aq.mk (bg 1) (ByteArray.mk #[53])] (bg 0)=false:=by
    unfold dA
    rw [pQ,pQ,yw,if_pos rfl,if_pos rfl,if_neg hne.symm]; simp
  have q1:dA [aq.mk (bg 0) (ByteArray.mk #[49])] [aq.mk (bg 0) (ByteArray.mk #[50])] [aq.mk (bg 0) (ByteArray.mk #[49]),aq.mk (bg 1) (ByteArray.mk #[53])] (bg 1)=false:=by
    unfold dA
    rw [pQ,pQ,yw,if_pos rfl,if_neg hne,if_neg hne]; simp
  rw [k3,hks]
  have hm:qf [aq.mk (bg 0) (ByteArray.mk #[49])] [aq.mk (bg 0) (ByteArray.mk #[50])] [aq.mk (bg 0) (ByteArray.mk #[49]),aq.mk (bg 1) (ByteArray.mk #[53])] [bg 0,bg 1]=[aq.mk (bg 0) (ByteArray.mk #[50]),aq.mk (bg 1) (ByteArray.mk #[53])]:=by
    unfold qf
    simp [List.filter_cons,m0,m1,n2.1,n5.1]
  rw [hm]
  simp only [List.filter_cons,q0,q1,List.filter_nil]
  simp only [Bool.false_eq_true,if_false,List.length_nil,Nat.lt_irrefl,Option.bind_some]
  rw [AB (by simp),j3,hes]
  have hd:fx [aq.mk (bg 0) (ByteArray.mk #[49])] [aq.mk (bg 0) (ByteArray.mk #[50])] [bg 0]=[aq.mk (bg 0) (ByteArray.mk #[50])]:=by
    unfold fx
    simp [List.filter_cons,pQ,n12]
  rw [hd]
  rfl
end
section
open Go.RowKit
open Go.Lib hiding intOf
def ku (b:ai):List aq:=(b.Inputs.filter fun x=>!decide (x.Value=e0)).map fun x=>⟨x.Key,x.Value⟩
theorem C1 (b:ai):(ku b).length≤b.Inputs.length:=by unfold ku; rw [List.length_map]; exact List.length_filter_le _ _
theorem rT {b:ai} (h:b.Inputs.length≤1000000):e7 b=some (ku b):=by
  unfold e7
  rw [show loop (fun s:(List aq)×Int=>fe b s.1 s.2) (([]:List aq),0)=some (ku b) from by
    refine (bT (xs:=b.Inputs) (fun n=>(((b.Inputs.take n).filter fun x=>!decide (x.Value=e0)).map fun x=>(⟨x.Key,x.Value⟩:aq),(n:Int))) rfl (fun n x hx=>?_) ?_)
    · dsimp only
      have hn:=aY hx
      have hl:=List.length_filter_le (fun x:aI=>!decide (x.Value=e0)) (b.Inputs.take n)
      rw [List.length_take] at hl
      unfold fe
      rw [eJ hx,cond_true,aU,hx,Option.bind_some,jW,dv (by simp; omega),q9]
      unfold gD
      rw [cB (by omega),bG hx,List.filter_append,List.map_append]
      show cond (!decide (x.Value=e0)) _ _=_
      cases hd:decide (x.Value=e0) <;> simp [hd]
    · dsimp only
      unfold fe
      rw [bA,List.take_length]; rfl]
  rfl
section
variable {l:List aK} {b:ai}
theorem BV (b:ai):bN (ku b)=(b.Inputs.filter fun x=>!decide (x.Value=e0)).map aI.Key:=by
  unfold bN ku; rw [List.map_map]; rfl
theorem rS (h:iu l b):fV 10 (ku b):=by
  refine⟨?_,by have:=C1 b; have:=h.nin; omega,fun c hc=>?_,fun c hc=>?_⟩
  · rw [BV]
    unfold qq
    rw [List.pairwise_map]
    exact h.insA.filter _
  · obtain⟨x,hx,rfl⟩:=List.mem_map.1 hc
    exact (h.ins x (List.mem_filter.1 hx).1).key
  · obtain⟨x,hx,rfl⟩:=List.mem_map.1 hc
    obtain⟨h1,h2⟩:=List.mem_filter.1 hx
    exact⟨by simpa using h2,(h.ins x h1).value⟩
theorem tp (h:iu l b) (k:ae):va (ku b) k=(gn b k).Value:=by
  have hn:((ku b).map (·.Key)).Nodup:=(rS h).asc.nodup
  rcases yZ (b:=b) k with⟨h1,h2⟩|⟨h1,h2⟩
  · by_cases hv:(gn b k).Value=e0
    · rw [hv]
      refine ux _ fun c hc e=>?_
      obtain⟨x,hx,rfl⟩:=List.mem_map.1 hc
      obtain⟨h3,h4⟩:=List.mem_filter.1 hx
      have e:x.Key=k:=e
      have:=vN h.insA h3 e
      rw [this] at hv
      rw [hv] at h4
      simp at h4
    · have:=Br (c:=⟨(gn b k).Key,(gn b k).Value⟩) (ku b) hn (List.mem_map.2 ⟨gn b k,List.mem_filter.2 ⟨h1,by simp [hv]⟩,rfl⟩)
      have h5:va (ku b) (gn b k).Key=(gn b k).Value:=this
      rw [h2] at h5; exact h5
  · rw [h2]
    refine ux _ fun c hc e=>?_
    obtain⟨x,hx,rfl⟩:=List.mem_map.1 hc
    exact h1 x (List.mem_filter.1 hx).1 e
theorem DY {c:List aq} (ha:qq (bN c)) (hv:∀ x ∈ c,x.Value ≠ e0) (x:aq):x ∈ c↔va c x.Key=x.Value∧x.Value ≠ e0:=by
  constructor
  · intro h; exact⟨Br c ha.nodup h,hv x h⟩
  · rintro⟨h1,h2⟩
    by_cases hk:∃ y ∈ c,y.Key=x.Key
    · obtain⟨y,hy,e⟩:=hk
      have h3:=Br c ha.nodup hy
      rw [e,h1] at h3
      have:x=y:=by cases x; cases y; simp only [aq.mk.injEq]; exact⟨e.symm,h3⟩
      rw [this]; exact hy
    · have:=ux (k:=x.Key) c fun y hy e=>hk ⟨y,hy,e⟩
      rw [this] at h1; exact absurd h1.symm h2
theorem yT:∀ {a c:List aq},qq (bN a)→qq (bN c)→(∀ x,x ∈ a↔x ∈ c)→a=c
  | [],[],_,_,_=>rfl
  | [],y :: c,_,_,h=>absurd ((h y).2 List.mem_cons_self) List.not_mem_nil
  | x :: a,[],_,_,h=>absurd ((h x).1 List.mem_cons_self) List.not_mem_nil
  | x :: a,y :: c,ha,hc,h=>by
    obtain⟨a1,a2⟩:=List.pairwise_cons.1 ha
    obtain⟨c1,c2⟩:=List.pairwise_cons.1 hc
    have hxy:x=y:=by
      rcases List.mem_cons.1 ((h x).1 List.mem_cons_self) with e | hx
      · exact e
      · rcases List.mem_cons.1 ((h y).2 List.mem_cons_self) with e | hy
        · exact e.symm
        · exact absurd (a1 _ (List.mem_map.2 ⟨y,hy,rfl⟩)) (rV (c1 _ (List.mem_map.2 ⟨x,hx,rfl⟩)))
    subst hxy
    congr 1
    refine yT a2 c2 fun z=>?_
    have hz:=h z
    simp only [List.mem_cons] at hz
    constructor
    · intro hm
      rcases hz.1 (.inr hm) with e | hm2
      · subst e; exact absurd (a1 _ (List.mem_map.2 ⟨z,hm,rfl⟩)) oW
      · exact hm2
    · intro hm
      rcases hz.2 (.inr hm) with e | hm2
      · subst e; exact absurd (c1 _ (List.mem_map.2 ⟨z,hm,rfl⟩)) oW
      · exact hm2
theorem Ez {m n:Nat} {a c:List aq} (ha:fV m a) (hc:fV n c) (h:∀ k,va a k=va c k):a=c :=
  yT ha.asc hc.asc fun x=>by rw [DY ha.asc (fun x hx=>(ha.vals x hx).1),DY hc.asc (fun x hx=>(hc.vals x hx).1),h]
theorem B3:∀ (cs:List aq),(bN cs).Nodup→∀ k v,bQ aC k (ie [] cs)=some v↔(⟨k,v⟩:aq) ∈ cs:=by
  intro cs
  induction cs using yq with
  | h0=>intro _ k v; simp [ie,bQ]
  | h1 cs c ih =>
    intro hn k v
    unfold bN at hn
    rw [List.map_append,List.nodup_append] at hn
    obtain⟨n1,_,n3⟩:=hn
    have e:ie [] (cs ++ [c])=cT aC c.Key c.Value (ie [] cs):=by unfold ie; rw [List.foldl_append]; rfl
    rw [e,qc eV]
    by_cases hk:k=c.Key
    · subst hk
      rw [if_pos ((eV _ _).2 rfl)]
      constructor
      · intro h
        have:c.Value=v:=Option.some.inj h
        subst this
        exact List.mem_append_right _ (List.mem_singleton.2 rfl)
      · intro h
        rcases List.mem_append.1 h with h | h
        · exact absurd rfl (n3 c.Key (List.mem_map.2 ⟨_,h,rfl⟩) c.Key (by simp))
        · have:=List.mem_singleton.1 h
          rw [← this]
    · rw [if_neg (fun h=>hk ((eV _ _).1 h)),ih n1]
      constructor
      · intro h; exact List.mem_append_left _ h
      · intro h
        rcases List.mem_append.1 h with h | h
        · exact h
        · exact absurd (congrArg aq.Key (List.mem_singleton.1 h)) hk
structure JN (l:List aK) (b:ai) (tc:List aq) (d:List aq) (b':ai):Prop where
  ok:iu l b'
  inp:ku b'=tc
  diff:e6 (ku b) tc=some d
  mem:∀ c,c ∈ d↔va (ku b) c.Key ≠ va tc c.Key∧c.Value=va tc c.Key
  rev:(d=[]∧b'=b)∨(d ≠ []∧b'.Revision=b.Revision + 1)
theorem DS (hl:l.length≤8) (h:iu l b) (hrev:b.Revision + 1≤1000000) {n:Nat} {tc:List aq} (ht:fV n tc) (hn:n≤10):∃ d b',gl b tc=some (b',0)∧JN l b tc d b':=by
  have hi:=rS h
  obtain⟨ks,k1,k2,k3⟩:=u0 (f:=ku b) (t:=tc) (by have:=hi.len; omega) (by have:=ht.len; omega)
  have hkm:∀ k,va (ku b) k ≠ va tc k→k ∈ ks:=fun k hk=>by
    refine (k1.mem k).2 (List.mem_append.2 ?_)
    by_cases h1:k ∈ bN (ku b)
    · exact .inl h1
    · by_cases h2:k ∈ bN tc
      · exact .inr h2
      · exact absurd (by rw [ux (ku b) fun c hc e=>h1 (List.mem_map.2 ⟨c,hc,e⟩),ux tc fun c hc e=>h2 (List.mem_map.2 ⟨c,hc,e⟩)]) hk
  have hdm:∀ c,c ∈ fx (ku b) tc ks↔va (ku b) c.Key ≠ va tc c.Key∧c.Value=va tc c.Key:=fun c=>by
    unfold fx
    rw [List.mem_map]
    constructor
    · rintro⟨k,hk,rfl⟩
      exact⟨by simpa using (List.mem_filter.1 hk).2,rfl⟩
    · rintro⟨h1,h2⟩
      exact⟨c.Key,List.mem_filter.2 ⟨hkm _ h1,by simpa using h1⟩,by rw [← h2]⟩
  have hcell:∀ k ∈ ks,∃ m,m < 10∧k=bg m:=fun k hk=>by
    rcases List.mem_append.1 ((k1.mem k).1 hk) with hk | hk
    · obtain⟨c,hc,rfl⟩:=List.mem_map.1 hk
      exact hi.keys c hc
    · obtain⟨c,hc,rfl⟩:=List.mem_map.1 hk
      obtain⟨m,h1,h2⟩:=ht.keys c hc
      exact⟨m,by omega,h2⟩
  have hsz:∀ k,(va tc k).size≤1000:=fun k=>by
    by_cases h1:∃ c ∈ tc,c.Key=k
    · obtain⟨c,hc,rfl⟩:=h1
      rw [Br tc ht.asc.nodup hc]; exact (ht.vals c hc).2
    · rw [ux tc fun c hc e=>h1 ⟨c,hc,e⟩]; decide
  have hcs:∀ c ∈ fx (ku b) tc ks,yJ c:=fun c hc=>by
    unfold fx at hc
    obtain⟨k,hk,rfl⟩:=List.mem_map.1 hc
    obtain⟨m,h1,h2⟩:=hcell k (List.mem_filter.1 hk).1
    exact⟨⟨m,h1,h2⟩,hsz k⟩
  have hlen:(fx (ku b) tc ks).length≤20:=by
    have h1:=sL (ku b) tc ks
    have h2:=k1.len
    have h3:=hi.len
    have h4:=ht.len
    simp only [bN,List.length_append,List.length_map] at h2
    omega
  obtain⟨b',e1,ax⟩:=Gn hl h hrev hcs (by omega)
  have hnd:(bN (fx (ku b) tc ks)).Nodup:=by
    unfold bN fx
    rw [List.map_map]
    have:(ks.filter fun k=>!decide (va (ku b) k=va tc k)).map ((·.Key) ∘ fun k=>(⟨k,va tc k⟩:aq))=ks.filter fun k=>!decide (va (ku b) k=va tc k):=by
      rw [show ((·.Key) ∘ fun k=>(⟨k,va tc k⟩:aq))=id from rfl,List.map_id]
    rw [this]
    exact k1.asc.nodup.filter _
  have hmv:∀ k v,bQ aC k (ie [] (fx (ku b) tc ks))=some v↔(⟨k,v⟩:aq) ∈ fx (ku b) tc ks:=B3 _ hnd
  have hgv:∀ k,(gn b' k).Value=va tc k:=fun k=>by
    by_cases hk:va (ku b) k=va tc k
    · rw [ax.keep k fun v hv=>absurd hk ((hdm _).1 ((hmv k v).1 hv)).1,← tp h,hk]
    · have h1:=(hmv k (va tc k)).2 ((hdm _).2 ⟨hk,rfl⟩)
      rw [ax.get k _ h1 (by rw [← tp h]; exact hk)]
  refine⟨_,b',?_,ax.ok,Ez (rS ax.ok) ht fun k=>by rw [tp ax.ok,hgv],k3,hdm,?_⟩
  · unfold gl
    rw [zx h hl,Option.bind_some,Bool.not_true,cond_false,pq ht hn,Option.bind_some,Bool.not_true,cond_false,rT (by have:=h.nin; omega),Option.bind_some,k3,Option.bind_some,e1]
    rfl
  · cases hd:fx (ku b) tc ks with
    | nil =>
      refine .inl ⟨rfl,ax.same fun k v hv=>?_⟩
      rw [hmv,hd] at hv
      exact absurd hv List.not_mem_nil
    | cons c r =>
      refine .inr ⟨List.cons_ne_nil _ _,ax.rev ⟨c.Key,c.Value,(hmv _ _).2 (by rw [hd]; exact List.mem_cons_self),?_⟩⟩
      obtain⟨h1,h2⟩:=(hdm c).1 (by rw [hd]; exact List.mem_cons_self)
      rw [← tp h,h2]; exact h1
end
end
section
set_option maxRecDepth 100000
set_option maxHeartbeats 4000000
open Go.RowKit
noncomputable section
def dm (b:Bool):Option Bool:=some (b)
def dp (c:(LU×ai×aP)) (d:LC) (b:(LC×aP)) (e:(ai×Int)):Option Bool:=(e6 b.1 b.1).bind fun f=>cond ((f.length:Int) == 0) ((e6 d b.1).bind fun g=>cond (((g.length:Int) == 0) == ((e.1.Revision:Int) == c.2.1.Revision)) ((lP).bind fun h=>dm h) (dm false)) (dm false)
def eC (b:Int):Option (Fl (Int) (Fl (Unit) Bool)):=some (.go (IntKind.i64.wrap (b + 1)))
def eE (b:(LU×ai×aP)) (e:Int) (c:aq) (d:ByteArray):Option (Fl (Int) (Fl (Unit) Bool)):=cond (!(c.Value.toList == d.toList)) (some (.out (.out false))) ((ki (ai.mk b.2.1.Revision b.2.1.Inputs b.2.1.Records) c.Key).bind fun f=>cond (f.toList == d.toList) (some (.out (.out false))) (eC e))
def dq (b:Int) (c:ByteArray):Option (Fl (ByteArray×Int) (ByteArray)):=some (.go (c,IntKind.i64.wrap (b + 1)))
def cJ (e:(LC×aP)) (d:aq) (f:ByteArray) (b:Int):Option (Fl (ByteArray×Int) (ByteArray)):=cond (decide ((b:Int) < (e.1.length:Int))) ((be e.1 b).bind fun c=>cond ((c.Key.Kind:Int) == d.Key.Kind && c.Key.Text.toList == d.Key.Text.toList) (dq b c.Value) (dq b f)) (some (.out f))
def cK (e:(LU×ai×aP)) (f:(LC×aP)) (d:LC) (b:Int):Option (Fl (Int) (Fl (Unit) Bool)):=cond (decide ((b:Int) < (d.length:Int))) ((be d b).bind fun c=>(loop (fun s:ByteArray×Int=>cJ f c s.1 s.2) ((ByteArray.mk #[]),0)).bind fun r=>eE e b c r) (some (.out (.go ())))
def dj (h:LN):Option Bool:=(lD h).bind fun j=>cond (!(j)) ((lP).bind fun k=>some (k)) ((uf h).bind fun l=>(qd l 3).bind fun c=>(e7 (ai.mk c.2.1.Revision c.2.1.Inputs c.2.1.Records)).bind fun e=>(kL (aP.mk c.2.2.L c.2.2.At)).bind fun d=>(gl (ai.mk c.2.1.Revision c.2.1.Inputs c.2.1.Records) d.1).bind fun b=>(gl (ai.mk b.1.Revision b.1.Inputs b.1.Records) e).bind fun f=>(gl (ai.mk b.1.Revision b.1.Inputs b.1.Records) d.1).bind fun g=>cond ((b.2:Int) != 0) (some (false)) (cond ((f.2:Int) != 0) (some (false)) (cond ((g.2:Int) != 0) (some (false)) ((e7 (ai.mk b.1.Revision b.1.Inputs b.1.Records)).bind fun m=>(lG m d.1).bind fun n=>cond (!(n)) (some (false)) ((e7 (ai.mk f.1.Revision f.1.Inputs f.1.Records)).bind fun o=>(lG o e).bind fun p=>cond (!(p)) (some (false)) ((o9 (ai.mk g.1.Revision g.1.Inputs g.1.Records) (ai.mk b.1.Revision b.1.Inputs b.1.Records)).bind fun q=>cond (!(q)) (some (false)) ((e6 e d.1).bind fun i=>(loop (fun s:Int=>cK c d i s) 0).bind fun r=>Fl.el r (fun s=>dp c e d b) (fun y=>some (y)))))))))
theorem qw (T:Nat→Prop) (W0:World) (hT:TW T W0) (hLv:cU T W0) (O:LN) (v1:Value) (er:aA (aN.int .i64) T W0 v1 O) (y:Bool) (hM:dj O=some y):aW Tryz.prog No 3 [v1] W0 (fun v w'=>v = .bool y):=by
 refine en Tryz.func3 Tryz.ntmps3 hT fun a hS=>?_;replace hS:=(hS.fact bv (cU.dn hLv)).fS (aA.dn er);unfold dj at hM;refine ah hS fun a hS=>?_;refine az ?_;refine ah hS fun a hS=>?_;obtain⟨h3,c3,hM⟩:=bd hM;refine kc hS Lm (yd _ _ hS.dlt O _ (hS.get 0 rfl) _ c3) fun _ w hR a hk hA=>?_;obtain rfl:=hR;have hS:=bV hA;refine ah hS fun a hS=>?_;rcases cd hM with⟨d1,hM⟩|⟨d1,hM⟩
 ·refine ah hS fun a hS=>?_;obtain⟨h4,c4,hM⟩:=bd hM;refine kc hS K3 (sv _ _ hS.dlt (hS.get 1 rfl) _ c4) fun _ w hR a hk hA=>?_;obtain rfl:=hR;have hS:=bV hA;exact fz
 refine ah hS fun a hS=>?_;obtain⟨b5,c5,hM⟩:=bd hM;refine kc hS Ln (zp _ _ hS.dlt O _ (hS.get 0 rfl) _ c5) fun _ w hR a hk hA=>?_;obtain⟨cs,e5,he,el,X,a0⟩:=hR;obtain rfl:=he.symm;have hS:=hA [.box cs (aZ b5 e5) 64] (eA X (fun k hk=>by simp only [cx.dom,Option.some.injEq] at hk; omega)) (ro _);replace hS:=hS.fS (a0.sub (iB _));refine ah hS fun a hS=>?_;obtain⟨b,b9,hM⟩:=bd hM;refine wl rfl (bS hS Lo rfl rfl 0 rfl (zn _ _ (hS.drop 0).dlt b5 3 _ _ (hS.boxRow 0 rfl) (hS.notin 0 rfl) (aA.lent (i:=0) rfl (hS.get 0 rfl)) (bv.keep (hS.get 2 rfl) (Kt.refl _ _) (fun k hk=>.inl ((pY (i:=0) rfl k).1 hk))) _ b9) fun _ w hR hk=>?_);obtain⟨h8,j,l,e8,he,a1,a2,a3,hrow,a4⟩:=hR;obtain rfl:=he.symm;refine⟨(aZ b.2.2 e8),hrow,fun a hS=>?_⟩;replace hS:=(((hS.fS (aA.back (i:=0) rfl a1)).fS (aA.back (i:=0) rfl a2)).fS (aA.back (i:=0) rfl a3)).fS (aA.back (i:=0) rfl a4);refine ah hS fun a hS=>?_;refine ka hS l4 fun f g5 a w hk hS=>?_;refine go hS fun a w hS=>?_;obtain⟨p,bb,hM⟩:=bd hM;refine kc hS IS (ix _ _ hS.dlt (ai.mk b.2.1.Revision b.2.1.Inputs b.2.1.Records) _ _ (hS.get 2 rfl) (hS.get 1 rfl) _ bb) fun _ w hR a hk hA=>?_;obtain⟨m,f6,he,a5⟩:=hR;obtain rfl:=he.symm;have hS:=oI hA a5;refine ah hS fun a hS=>?_;obtain⟨d,bi,hM⟩:=bd hM;refine wl rfl (oT hS JP rfl rfl 2 rfl (uS _ _ (hS.drop 2).dlt (aP.mk b.2.2.L b.2.2.At) _ _ (hS.boxRow 2 rfl) (hS.notin 2 rfl) (aA.lent (i:=2) rfl (hS.get 1 rfl)) (bv.keep (hS.get 7 rfl) (Kt.refl _ _) (fun k hk=>.inl ((pY (i:=2) rfl k).1 hk))) _ bi) fun _ w hR hk=>?_);obtain⟨e,D,ea,he,⟨Y,V,a9⟩,hrow,ab⟩:=hR;obtain rfl:=he.symm;refine⟨(aZ d.2 ea),[bn e D],hrow,eA ⟨Y,by decide⟩ V,ro _,fun a hS=>?_⟩;replace hS:=(hS.fR (a9.keep (Kt.refl _ _) (Nw.back2 (i:=2) rfl [bn e D] _))).fS (ab.sub (Nw.back2 (i:=2) rfl [bn e D] _));refine ah hS fun a hS=>?_;replace hS:=hS.freeze (R:=aj) 0 rfl 1 rfl;obtain⟨c,bl,hM⟩:=bd hM;refine kc hS Gt (n8 _ _ hS.dlt (hS.get 10 rfl) (ai.mk b.2.1.Revision b.2.1.Inputs b.2.1.Records) d.1 _ _ _ (hS.get 6 rfl) (hS.get 5 rfl) (hS.get 0 rfl) _ bl) fun _ w hR a hk hA=>?_;obtain⟨n,fd,o,fl,he,af,ag,C⟩:=hR;obtain rfl:=he.symm;have hS:=s7 hA af ag C;refine ah hS fun a hS=>?_;refine ka hS l4 fun g g6 a w hk hS=>?_;refine go hS fun a w hS=>?_;replace hS:=((hS.freeze (R:=ad) 1 rfl 1 rfl).freeze (R:=aa) 1 rfl 1 rfl).freeze (R:=aj) 1 rfl 7 rfl;obtain⟨I,c9,hM⟩:=bd hM;refine kc hS Gt (n8 _ _ hS.dlt (hS.get 15 rfl) (ai.mk c.1.Revision c.1.Inputs c.1.Records) p _ _ _ (hS.get 2 rfl) (hS.get 1 rfl) (hS.get 0 rfl) _ c9) fun _ w hR a hk hA=>?_;obtain⟨h9,fn,ha,fr,he,ak,ao,C⟩:=hR;obtain rfl:=he.symm;have hS:=s7 hA ak ao C;refine ah hS fun a hS=>?_;refine ka hS l4 fun ex g7 a w hk hS=>?_;refine go hS fun a w hS=>?_;obtain⟨K,ca,hM⟩:=bd hM;refine kc hS Gt (n8 _ _ hS.dlt (hS.get 17 rfl) (ai.mk c.1.Revision c.1.Inputs c.1.Records) d.1 _ _ _ (hS.get 4 rfl) (hS.get 3 rfl) (hS.get 7 rfl) _ ca) fun _ w hR a hk hA=>?_;obtain⟨hb,fs,hc,fM,he,av,ax,C⟩:=hR;obtain rfl:=he.symm;have hS:=s7 hA av ax C;refine ah hS fun a hS=>?_;refine ka hS l4 fun eT g8 a w hk hS=>?_;refine go hS fun a w hS=>?_;refine az ?_;refine jV ?_;refine ah hS fun a hS=>?_;rcases cd hM with⟨d2,hM⟩|⟨d2,hM⟩
 ·exact fz
 refine ah hS fun a hS=>?_;rcases cd hM with⟨d3,hM⟩|⟨d3,hM⟩
 ·exact fz
 refine ah hS fun a hS=>?_;rcases cd hM with⟨F,hM⟩|⟨F,hM⟩
 ·exact fz
 refine ah hS fun a hS=>?_;obtain⟨e3,cb,hM⟩:=bd hM;refine wg hS rfl rfl rfl F (a8 hS IS rfl rfl (ix _ _ hS.dlt (ai.mk c.1.Revision c.1.Inputs c.1.Records) _ _ (hS.get 6 rfl) (hS.get 5 rfl) _ cb) fun _ w hR a hk hA=>?_);obtain⟨hd,g0,he,b0⟩:=hR;obtain rfl:=he.symm;have hS:=oI hA b0;refine ah hS fun a hS=>?_;have hL:=hS;replace hL:=hL.freeze (R:=aj) 0 rfl 0 rfl;obtain⟨h5,ch,hM⟩:=bd hM;refine wg hS rfl rfl rfl F (a8 hS Gu rfl rfl (qI _ _ hL.dlt e3 d.1 _ _ (hL.get 0 rfl) (hL.get 11 rfl) _ ch) fun _ w hR a hk hA=>?_);obtain rfl:=hR;have hS:=bV hA;refine ah hS fun a hS=>?_;rcases cd hM with⟨G,hM⟩|⟨G,hM⟩
 ·exact fz
 refine ah hS fun a hS=>?_;have hL:=hS;replace hL:=hL.freeze (R:=ad) 5 rfl 4 rfl;replace hL:=hL.freeze (R:=aa) 5 rfl 4 rfl;obtain⟨e4,ck,hM⟩:=bd hM;refine wg hS rfl rfl rfl G (a8 hS IS rfl rfl (ix _ _ hL.dlt (ai.mk I.1.Revision I.1.Inputs I.1.Records) _ _ (hL.get 1 rfl) (hL.get 0 rfl) _ ck) fun _ w hR a hk hA=>?_);obtain⟨ed,cv,he,⟨Z,W,b1⟩⟩:=hR;obtain rfl:=he.symm;have hS:=hA [bn ed cv] (eA ⟨Z,by decide⟩ W) (ro _);replace hS:=hS.fR b1;refine ah hS fun a hS=>?_;have hL:=hS;replace hL:=hL.freeze (R:=aj) 0 rfl 0 rfl;obtain⟨h6,cl,hM⟩:=bd hM;refine wg hS rfl rfl rfl G (a8 hS Gu rfl rfl (qI _ _ hL.dlt e4 p _ _ (hL.get 0 rfl) (hL.get 7 rfl) _ cl) fun _ w hR a hk hA=>?_);obtain rfl:=hR;have hS:=bV hA;refine ah hS fun a hS=>?_;rcases cd hM with⟨Q,hM⟩|⟨Q,hM⟩
 ·exact fz
 refine ah hS fun a hS=>?_;have hL:=hS;replace hL:=hL.freeze (R:=ad) 3 rfl 3 rfl;replace hL:=hL.freeze (R:=aa) 3 rfl 3 rfl;obtain⟨h7,co,hM⟩:=bd hM;refine wg hS rfl rfl rfl Q (a8 hS JQ rfl rfl (yk _ _ hL.dlt (ai.mk K.1.Revision K.1.Inputs K.1.Records) (ai.mk c.1.Revision c.1.Inputs c.1.Records) _ _ _ _ (hL.get 1 rfl) (hL.get 0 rfl) (hL.get 10 rfl) (hL.get 9 rfl) _ co) fun _ w hR a hk hA=>?_);obtain rfl:=hR;have hS:=bV hA;refine ah hS fun a hS=>?_;rcases cd hM with⟨d4,hM⟩|⟨d4,hM⟩
 ·exact fz
 refine ah hS fun a hS=>?_;refine aG (J:=fun a w=>St W0 No T 138 [(5,pt f 0),(6,m),(7,e),(8,pt g 0)] [.box f (aQ b.2.1 j l) 31,.box g (aQ c.1 n o) 31] [aJ aj m p,aJ aj e d.1,aJ ad j b.2.1.Inputs,aJ aa l b.2.1.Records,aJ ad n c.1.Inputs,aJ aa o c.1.Records,bv] a w∧dp b p d c=some y) ?_ ?_
 ·skip;refine ah hS fun a hS=>?_;obtain⟨q,c2,hM⟩:=bd hM;refine kc hS Ad (gk _ _ hS.dlt (hS.get 21 rfl) p d.1 _ _ (hS.get 6 rfl) (hS.get 11 rfl) _ c2) fun _ w hR a hk hA=>?_;obtain⟨u,r,he,b2⟩:=hR;obtain rfl:=he.symm;have hS:=oI hA b2;refine ah hS fun a hS=>?_;obtain⟨r1,em,hMo1⟩:=bd hM;refine bu _ (fun s a w=>∃ (t:Int),t=s∧St W0 No T 138 [(5,pt f 0),(6,m),(7,e),(8,pt g 0),(84,u),(85,.int .i64 (q.length:Int)),(86,.int .i64 t)] [bn u r,.box f (aQ b.2.1 j l) 31,.box g (aQ c.1 n o) 31] [aJ aj m p,aJ aj e d.1,am aj r q,aJ ad j b.2.1.Inputs,aJ aa l b.2.1.Records,aJ ad n c.1.Inputs,aJ aa o c.1.Records,bv] a w) em ⟨_,rfl,hS.mt [0,10,9] [7,12,0,18,17,9,8,22]⟩ ?_;rintro s a w f1 ⟨t,rfl,hS⟩ hM hf1;have hM:cK b d q t=some f1:=hM;unfold cK at hM;refine ah hS fun a hS=>?_;refine az ?_;rcases cd hM with⟨d6,hM⟩|⟨d6,hM⟩
  ·refine ah hS fun a hS=>?_;refine aG (J:=fun a w=>St W0 No T 138 [(5,pt f 0),(6,m),(7,e),(8,pt g 0),(84,u),(85,.int .i64 (q.length:Int)),(86,.int .i64 t)] [bn u r,.box f (aQ b.2.1 j l) 31,.box g (aQ c.1 n o) 31] [aJ aj m p,aJ aj e d.1,am aj r q,aJ ad j b.2.1.Inputs,aJ aa l b.2.1.Records,aJ ad n c.1.Inputs,aJ aa o c.1.Records,bv] a w∧eC t=some f1) ?_ ?_
   ·skip;refine ah hS fun a hS=>?_;obtain⟨x,b6,hM⟩:=bd hM;refine wl rfl (cR (R:=aj) hS sh rK rfl rfl 0 rfl 2 rfl b6 rfl fun eX gp gu g1 da dc dk a hS=>?_);obtain rfl:=da;refine qy hS (bL (k:=0) hS rK 0 rfl dc dk rfl id (us:=(eU x)) rfl rfl (fun h=>by cases h)) fun a hS=>?_;refine ka hS k9 fun z gb a w hk hS=>?_;refine go hS fun a w hS=>?_;refine aG (J:=fun a w=>∃ (M:ByteArray),St W0 No T 138 [(5,pt f 0),(6,m),(7,e),(8,pt g 0),(15,pt z 0),(16,.string M),(84,u),(85,.int .i64 (q.length:Int)),(86,.int .i64 t)] [bn u r,.box f (aQ b.2.1 j l) 31,.box g (aQ c.1 n o) 31,.box z (eU x) 46] [aJ aj m p,aJ aj e d.1,am aj r q,aJ ad j b.2.1.Inputs,aJ aa l b.2.1.Records,aJ ad n c.1.Inputs,aJ aa o c.1.Records,bv] a w∧eE b t x M=some f1) ?_ ?_
    ·skip;refine ah hS fun a hS=>?_;obtain⟨r2,eq,hMo2⟩:=bd hM;refine bu _ (fun s a w=>∃ (B:ByteArray) (A:Int),(B,A)=s∧St W0 No T 138 [(5,pt f 0),(6,m),(7,e),(8,pt g 0),(15,pt z 0),(16,.string B),(84,u),(85,.int .i64 (q.length:Int)),(86,.int .i64 t),(90,e),(91,.int .i64 (d.1.length:Int)),(92,.int .i64 A)] [bn u r,.box f (aQ b.2.1 j l) 31,.box g (aQ c.1 n o) 31,.box z (eU x) 46] [aJ aj m p,aJ aj e d.1,am aj r q,aJ ad j b.2.1.Inputs,aJ aa l b.2.1.Records,aJ ad n c.1.Inputs,aJ aa o c.1.Records,bv] a w) eq ⟨_,_,rfl,hS.mt [1,2,3,0] [0,1,2,3,4,5,6,7]⟩ ?_;rintro s a w f2 ⟨B,A,rfl,hS⟩ hM hf2;have hM:cJ d x B A=some f2:=hM;unfold cJ at hM;refine ah hS fun a hS=>?_;refine az ?_;rcases cd hM with⟨dl,hM⟩|⟨dl,hM⟩
     ·refine ah hS fun a hS=>?_;refine aG (J:=fun a w=>∃ (N:ByteArray),St W0 No T 138 [(5,pt f 0),(6,m),(7,e),(8,pt g 0),(15,pt z 0),(16,.string N),(84,u),(85,.int .i64 (q.length:Int)),(86,.int .i64 t),(90,e),(91,.int .i64 (d.1.length:Int)),(92,.int .i64 A)] [bn u r,.box f (aQ b.2.1 j l) 31,.box g (aQ c.1 n o) 31,.box z (eU x) 46] [aJ aj m p,aJ aj e d.1,am aj r q,aJ ad j b.2.1.Inputs,aJ aa l b.2.1.Records,aJ ad n c.1.Inputs,aJ aa o c.1.Records,bv] a w∧dq A N=some f2) ?_ ?_
      ·skip;refine ah hS fun a hS=>?_;obtain⟨P,b8,hM⟩:=bd hM;refine wl rfl (bc (R:=aj) hS sh rK rfl rfl 1 rfl b8 rfl fun f3 gs g2 ds a hS=>?_);obtain rfl:=ds;refine ah hS fun a hS=>?_;refine ka hS k9 fun f4 gi a w hk hS=>?_;refine go hS fun a w hS=>?_;refine wl rfl (ky (v:=.bool ((P.Key.Kind:Int) == x.Key.Kind && P.Key.Text.toList == x.Key.Text.toList)) hS (wP hS rfl rfl) rfl rfl fun a hS=>?_);exact fz
      rintro a w ⟨N,hS,hM⟩;unfold dq at hM;exact fz
     exact fz
    rintro a w ⟨M,hS,hM⟩;unfold eE at hM;refine jV ?_;refine ah hS fun a hS=>?_;rcases cd hM with⟨S,hM⟩|⟨S,hM⟩
    ·exact fz
    refine ah hS fun a hS=>?_;obtain⟨h2,c1,hM⟩:=bd hM;refine wg hS rfl rfl rfl S (a8 hS Ep rfl rfl (px _ _ hS.dlt (ai.mk b.2.1.Revision b.2.1.Inputs b.2.1.Records) x.Key _ _ (hS.get 3 rfl) (hS.get 4 rfl) _ c1) fun _ w hR a hk hA=>?_);obtain rfl:=hR;have hS:=bV hA;exact fz
   rintro a w ⟨hS,hM⟩;unfold eC at hM;exact fz
  exact fz
 rintro a w ⟨hS,hM⟩;unfold dp at hM;refine aG (J:=fun a w=>∃ (E:Bool),St W0 No T 138 [(2,.bool E)] [] [bv] a w∧dm E=some y) ?_ ?_
 ·skip;refine dr [] hS fun w hQ hS=>?_;refine gE [0,1] hS fun a hS=>?_;obtain⟨h0,bs,hM⟩:=bd hM;refine ec 2 hS Ad (gk _ _ hS.dlt (hS.get 6 rfl) d.1 d.1 _ _ (hS.get 1 rfl) (hS.get 1 rfl) _ bs) fun _ w hR a hk hA=>?_;obtain⟨hf,g3,he,b3⟩:=hR;obtain rfl:=he.symm;have hS:=oI hA b3;refine gE [3,4,5] hS fun a hS=>?_;rcases cd hM with⟨H,hM⟩|⟨H,hM⟩
  ·refine gE [6,7,11,12,13,14,15] hS fun a hS=>?_;obtain⟨e2,bt,hM⟩:=bd hM;refine cy (i:=8) rfl (by kernel_rfl) hS rfl rfl rfl H (a8 hS Ad rfl rfl (gk _ _ hS.dlt (hS.get 7 rfl) p d.1 _ _ (hS.get 1 rfl) (hS.get 2 rfl) _ bt) fun _ w hR a hk hA=>⟨fc (hk),?_⟩);obtain⟨hg,g4,he,b4⟩:=hR;obtain rfl:=he.symm;have hS:=oI hA b4;refine gE [9,10] hS fun a hS=>?_;refine vG 16 (v:=.bool (((e2.length:Int) == 0) == ((c.1.Revision:Int) == b.2.1.Revision))) rfl (by kernel_rfl) (by kernel_rfl) (by kernel_rfl) rfl hQ hS (D4 hS rfl rfl Tryz.underlying4 (.inl ⟨rfl,rfl⟩)) rfl rfl rfl H rfl rfl fun a hS=>?_;refine gE [17,18] hS fun a hS=>?_;rcases cd hM with⟨U,hM⟩|⟨U,hM⟩
   ·obtain⟨h1,c0,hM⟩:=bd hM;refine cy (i:=19) rfl (by kernel_rfl) hS rfl rfl rfl U (a8 hS K3 rfl rfl (sv _ _ hS.dlt (hS.get 8 rfl) _ c0) fun _ w hR a hk hA=>⟨fc (hk),?_⟩);obtain rfl:=hR;have hS:=bV hA;refine gE [20,21] hS fun a hS=>?_;refine eD ?_;exact⟨_,hS.mt [] [8],hM⟩
   refine gE [19,20,21] hS fun a hS=>?_;refine eD ?_;exact⟨_,hS.mt [] [8],hM⟩
  refine gE [6,7,8,9,10,11,12,13,14,15,16,17,18,19,20,21] hS fun a hS=>?_;refine eD ?_;exact⟨_,hS.mt [] [7],hM⟩
 rintro a w ⟨E,hS,hM⟩;unfold dm at hM;exact fz
end
end
section
open Go.RowKit
open Go.Lib hiding intOf
theorem Da {tc:List aq} (h:tc.length≤1000000) (u:(List aq)×aP) (hu:u.1=tc) (e:aq):loop (fun s:ByteArray×Int=>cJ u e s.1 s.2) ((ByteArray.mk #[]),0)=some (va tc e.Key):=by
  subst hu
  refine (bT (xs:=u.1) (fun n=>(va (u.1.take n) e.Key,(n:Int))) rfl (fun n c hx=>?_) ?_)
  · dsimp only
    have hn:=aY hx
    unfold cJ
    rw [eJ hx,cond_true,aU,hx,Option.bind_some]
    unfold dq
    rw [cB (by omega),bG hx,tP]
    show cond (cS c.Key e.Key) _ _=_
    cases hk:cS c.Key e.Key with
    | true=>rw [if_pos (dz.1 hk).symm]; rfl
    | false=>rw [if_neg (fun h=>by rw [h] at hk; rw [dz.2 rfl] at hk; cases hk)]; rfl
  · dsimp only
    unfold cJ
    rw [bA,List.take_length]; rfl
theorem zC (t:List Int):dj t=some true:=by
  rcases Nat.lt_or_ge 400 t.length with ht | ht
  · unfold dj
    rw [zh (by omega),Option.bind_some,rf]; rfl
  refine HB ?_
  unfold dj
  refine Ok.eq (Ak ht) ?_
  simp only [Bool.not_true,cond_false]
  refine Ok.eq (v:=aP.mk t 0) rfl (Ok.bind (El (d:=t) (i:=0) ⟨by omega,by omega,ht⟩ (by omega) (by omega)) fun u ⟨hR,hB,hrev,hd⟩=>?_)
  have hl:=hR.high
  have hB':ai.mk u.2.1.Revision u.2.1.Inputs u.2.1.Records=u.2.1:=rfl
  refine Ok.eq (rT (b:=u.2.1) (by have:=hB.nin; omega)) (Ok.bind (CO hd) fun c ⟨hc,_⟩=>?_)
  obtain⟨d1,x,e1,s1⟩:=DS hl hB (by omega) hc (by omega)
  have hrx:x.Revision≤u.2.1.Revision + 1:=by
    rcases s1.rev with⟨_,h⟩|⟨_,h⟩
    · rw [h]; omega
    · omega
  obtain⟨d2,y,e2,s2⟩:=DS hl s1.ok (by omega) (rS hB) (by omega)
  obtain⟨d3,z,e3,s3⟩:=DS hl s1.ok (by omega) hc (by omega)
  have hz:z=x:=by
    rcases s3.rev with⟨_,h⟩|⟨h,_⟩
    · exact h
    · obtain⟨q,hq⟩:=List.exists_mem_of_ne_nil _ h
      have h1:=((s3.mem q).1 hq).1
      rw [s1.inp] at h1
      exact absurd rfl h1
  subst hz
  refine Ok.eq e1 (Ok.eq e2 (Ok.eq e3 ?_))
  simp only [bne_self_eq_false,cond_false]
  refine Ok.eq (rT (b:=z) (by have:=s1.ok.nin; omega)) (Ok.eq (v:=true) (by rw [s1.inp]; exact AB (by have:=hc.len; omega)) ?_)
  simp only [Bool.not_true,cond_false]
  refine Ok.eq (rT (b:=y) (by have:=s2.ok.nin; omega)) (Ok.eq (v:=true) (by rw [s2.inp]; exact AB (by have:=(rS hB).len; omega)) ?_)
  simp only [Bool.not_true,cond_false]
  refine Ok.eq (Ci (b:=z) (s1.ok.rm hl).1 (s1.ok.rm hl).2.1) ?_
  simp only [Bool.not_true,cond_false]
  refine Ok.eq s1.diff ?_
  have hlen:d1.length≤1000000:=by
    obtain⟨ks,_,k2,k3⟩:=u0 (f:=ku u.2.1) (t:=c.1) (by have:=(rS hB).len; omega) (by have:=hc.len; omega)
    have h:=s1.diff
    rw [k3] at h
    have h:=Option.some.inj h
    rw [← h]
    have:=sL (ku u.2.1) c.1 ks
    omega
  have hlp:loop (fun s:Int=>cK u c d1 s) 0=some (Fl.go ()):=by
    refine (bT (xs:=d1) (fun k=>(k:Int)) rfl (fun k q hx=>?_) ?_)
    · have hk:=aY hx
      obtain⟨q1,q2⟩:=(s1.mem q).1 (List.mem_of_getElem? hx)
      unfold cK
      rw [eJ hx,cond_true,aU,hx,Option.bind_some,Da (by have:=hc.len; omega) c rfl,Option.bind_some]
      unfold eE
      rw [jW,decide_eq_true q2,Bool.not_true,cond_false,show ki (ai.mk u.2.1.Revision u.2.1.Inputs u.2.1.Records) q.Key=some (gn u.2.1 q.Key).Value from A7 (b:=u.2.1) (hB.rm hl).2.1 _,Option.bind_some,jW,decide_eq_false (by rw [← tp hB]; exact q1),cond_false]
      unfold eC
      rw [cB (by omega)]
    · unfold cK
      rw [bA]; rfl
  refine Ok.eq hlp ?_
  show Ok (dp u (ku u.2.1) c (z,0)) _
  unfold dp
  obtain⟨ks,k1,k2,k3⟩:=u0 (f:=c.1) (t:=c.1) (by have:=hc.len; omega) (by have:=hc.len; omega)
  have h0:fx c.1 c.1 ks=[]:=by unfold fx; simp
  rw [h0] at k3
  refine Ok.eq k3 ?_
  simp only [List.length_nil,Int.ofNat_zero,Int.natCast_zero,beq_self_eq_true,cond_true]
  refine Ok.eq s1.diff ?_
  have hfin:((((d1.length:Int):Int) == 0) == ((z.Revision:Int) == u.2.1.Revision))=true:=by
    rcases s1.rev with⟨h1,h2⟩|⟨h1,h2⟩
    · rw [h1,h2]; simp
    · have h3:d1.length ≠ 0:=fun h=>h1 (List.eq_nil_of_length_eq_zero h)
      have e1:(((d1.length:Int):Int) == 0)=false:=by rw [beq_eq_false_iff_ne]; omega
      have e2:((z.Revision:Int) == u.2.1.Revision)=false:=by rw [beq_eq_false_iff_ne]; omega
      rw [e1,e2]; rfl
  show Ok (cond (((((d1.length:Int):Int) == 0) == ((z.Revision:Int) == u.2.1.Revision))) _ _) _
  rw [hfin,cond_true]
  exact Ok.eq rf (Ok.ret rfl)
end
section
open Go.RowKit Go.ChangeShapes Go.WideShapes Go.ChangeAt
open Go.Lib hiding intOf
theorem KA:ownKnob Tryz.prog.godebug=none:=by kernel_rfl
theorem LaidVars.mem {P:Program} {w:World} {nm:String} {d:DataW Unit}:∀ {l:List (String×DataW Unit)} {ps:List MemPlace},DataW.LaidVars P w l ps→(nm,d) ∈ l →
    ∃ g t cs fuel p,P.globalNamed nm=some g∧(P.globals[g]?).map (·.type)=some t∧w.var? P nm=some cs∧DataW.trod (fun _=>()) P w 0 (fun _=>true) false fuel t cs.toList=some (d,p)
  | [],_,_,hm=>by cases hm
  | (n1,d1) :: l,ps,h,hm=>by
    obtain⟨g,t,cs,f,p,q,hg,ht,hv,hd,hq,_⟩:=h
    rcases List.mem_cons.1 hm with he | hm
    · injection he with h1 h2
      subst h1 h2
      exact⟨g,t,cs,f,p,hg,ht,hv,hd⟩
    · exact LaidVars.mem hq hm
theorem C8 {W : World} {l : List (String × DataW Unit)} (h : laidMet Tryz.prog l W) (hm : ("internal/strconv.uint64pow10", Lib.tabData .u64 pow10Tab) ∈ l) : TabIs Tryz.prog W "internal/strconv.uint64pow10" .u64 pow10Tab := by
  obtain⟨ps,hl,_⟩:=h
  obtain⟨g,t,cs,f,p,hg,ht,hv,hd⟩:=LaidVars.mem hl hm
  obtain rfl := Option.some.inj ((show Tryz.prog.globalNamed "internal/strconv.uint64pow10" = some 1 by kernel_rfl).symm.trans hg)
  obtain rfl:=Option.some.inj ((show (Tryz.prog.globals[1]?).map (·.type)=some 213 by kernel_rfl).symm.trans ht)
  unfold TabIs
  rw [hv,← cells_of_tab Tryz.underlying213 Tryz.underlying178 (by kernel_rfl) (by kernel_rfl) hd]
theorem ze {W:World} {l:List (String×DataW Unit)} (h:laidMet Tryz.prog l W) {nm:String} {d:DataW Unit} {s:String} {g0:Nat} (hm:(nm,DataW.iface s d) ∈ l) (hg0:Tryz.prog.globalNamed nm=some g0) (ht0:(Tryz.prog.globals[g0]?).map (·.type)=some 169) :
    ∃ ev,W.cell? ⟨g0,0,none⟩=some ev∧(ev = .nilIface∨∃ te pe,ev = .iface te pe):=by
  obtain⟨ps,hl,_⟩:=h
  obtain⟨g,t,cs,f,p,hg,ht,hv,hd⟩:=LaidVars.mem hl hm
  obtain rfl:=Option.some.inj (hg0.symm.trans hg)
  obtain rfl:=Option.some.inj (ht0.symm.trans ht)
  obtain⟨_,u,v,hcs,_,_⟩:=iface_of_trod Tryz.underlying169 hd
  refine⟨.iface u v,?_,.inr ⟨u,v,rfl⟩⟩
  have:=World.var?_cell hg0 hv 0
  rw [Array.eq_one_of_toList hcs] at this
  simpa using this
theorem I4 {W:World} {l:List (String×DataW Unit)} (h:laidMetH Tryz.prog l W) (hp:(l.all fun x=>x.2.handleName?.isNone)=true)
    (h1 : ("internal/strconv.uint64pow10", Lib.tabData .u64 pow10Tab) ∈ l) (h2 : ("strconv.ErrSyntax", Rows.laid_strconv_ErrSyntax) ∈ l) (h3 : ("strconv.ErrRange", Rows.laid_strconv_ErrRange) ∈ l) : Lv W := by
  rw [MakeChecks.laidMetH_plain _ _ _ hp] at h
  exact⟨ze h h2 (by kernel_rfl) (by kernel_rfl),ze h h3 (by kernel_rfl) (by kernel_rfl),C8 h h1⟩
end
section
open Go.ChangeShapes Go.WideShapes Go.ChangeAt Go.RowKit Go.Deep Go.Joins
theorem Bb {α:Type} {Q:Nat→α→Prop}:∀ (n:Nat),(∀ i,i < n→∃ x,Q i x)→∃ xs:List α,xs.length=n∧∀ i x,xs[i]? = some x→Q i x
  | 0,_=>⟨[],rfl,fun i x h=>by simp at h⟩
  | n + 1,h=>by
    obtain⟨xs,h1,h2⟩:=Bb n fun i hi=>h i (by omega)
    obtain⟨y,hy⟩:=h n (by omega)
    refine⟨xs ++ [y],by simp [h1],fun i x hx=>?_⟩
    by_cases hi:i < xs.length
    · rw [List.getElem?_append_left hi] at hx; exact h2 i x hx
    · have hl:=(List.getElem?_eq_some_iff.1 hx).1
      simp only [List.length_append,List.length_cons,List.length_nil] at hl
      have:i=xs.length:=by omega
      subst this
      rw [List.getElem?_append_right (Nat.le_refl _),Nat.sub_self] at hx
      simp only [List.getElem?_cons_zero,Option.some.injEq] at hx
      subst hx
      rw [h1]; exact hy
def yK {α:Type} (P:Program) (t:TypeId) (R:aN α) (Q:α→Prop):Prop :=
  ∀ {H:Type} {enc:TypeId×Value→H} {w:World} {base n:Nat} {sp:Nat→Bool} {held:Bool} {cs:List Value} {d:DataW H} {p:List MemPlace},DataW.trod enc P w base sp held n t cs=some (d,p)→(∀ m ∈ d.weights P t,m≤reachBytes)→∃ x,R.rel No w cs x∧Q x
section
variable {P:Program} {t e:TypeId}
theorem yK.int {k:IntKind} (ht:P.underlying t=some (.int k)):yK P t (aN.int k) (fun n=>(Lit.int k n).wf=true):=fun h _=>by
  obtain⟨n,rfl,_,hw⟩:=DataW.trod_int ht h
  exact⟨n,rfl,hw⟩
theorem yK.bool (ht:P.underlying t=some .bool):yK P t aN.bool (fun _=>True):=fun h _=>by
  obtain⟨b,rfl,_⟩:=DataW.trod_bool ht h
  exact⟨b,rfl,trivial⟩
theorem yK.str (ht:P.underlying t=some .string):yK P t aN.str (fun s=>s.size≤140737488355328):=fun h hw=>by
  obtain⟨s,rfl,hx,_⟩:=DataW.trod_string ht h
  simp only [Prod.mk.injEq] at hx
  obtain⟨rfl,rfl⟩:=hx
  refine⟨s,rfl,?_⟩
  have:=hw s.data.toList.length (by simp [DataW.weights])
  have hr:reachBytes≤140737488355328:=by decide
  have hz:s.size=s.data.toList.length:=by rw [Array.length_toList]; rfl
  omega
theorem wC {H:Type}:∀ {ds:List (DataW H)} {i:Nat} {d:DataW H},ds[i]? = some d→∀ n ∈ d.weights P e,n ∈ DataW.weightsAll P e ds
  | [],_,_,h,_,_=>by simp at h
  | d0 :: r,0,d,h,n,hn=>by
    simp only [List.getElem?_cons_zero,Option.some.injEq] at h
    subst h
    simp only [DataW.weightsAll,List.mem_append]
    exact .inl hn
  | d0 :: r,i + 1,d,h,n,hn=>by
    simp only [List.getElem?_cons_succ] at h
    simp only [DataW.weightsAll,List.mem_append]
    exact .inr (wC h n hn)
theorem yK.slice {α:Type} {R:aN α} {Q:α→Prop} (ht:P.underlying t=some (.slice e)) (hc:P.cellsOf e=R.size) (hs:0 < R.size) (ho:yK P e R Q):yK P t (aN.slice R) (fun xs=>(∀ x ∈ xs,Q x)∧xs.length * P.bytesOf e≤reachBytes∧xs.length≤maxLen):=fun {H enc w base n sp held cs d p} h hw=>by
  rcases open_slice ht h with⟨rfl,hx⟩|⟨a,len,cap,m,n,D,Pl,rfl,hb,hl,hm,hmm,hx,hi⟩
  · exact⟨[],⟨_,rfl,aA.nil_ _ _ _⟩,fun x hx=>by simp at hx,by simp,by simp⟩
  · simp only [Prod.mk.injEq] at hx
    obtain⟨rfl,rfl⟩:=hx
    have hlm:len≤m:=by rw [hmm]; split <;> omega
    obtain⟨xs,h1,h2⟩:=Bb (α:=α) (Q:=fun i x=>Q x∧∃ cs,R.rel No w cs x∧∀ j u,cs[j]? = some u→w.cell? (a.add (i * R.size + j))=some u) len (fun i hil=>by
      obtain⟨cs',hcc,ht'⟩:=hi i (by omega)
      rw [hc] at hcc
      obtain⟨x,hx,hq⟩:=ho ht' (fun k hk=>hw k (by
        simp only [DataW.weights,ht,List.mem_cons,List.mem_append]
        exact .inr (.inl (wC (i:=i) (d:=D i) (by rw [List.getElem?_map,List.getElem?_range hil]; rfl) k hk))))
      obtain⟨_,hcl,hat⟩:=World.cells?_some hcc
      refine⟨x,hq,cs',hx,fun j u hu=>?_⟩
      have hj:j < R.size:=by rw [← hcl]; exact (List.getElem?_eq_some_iff.1 hu).1
      rw [← Go.Deep.add_add,hat j hj,hu])
    subst h1
    refine⟨xs,⟨_,rfl,some a,cap,rfl,hl,hm,?_⟩,fun x hx=>?_,?_,Nat.le_trans hl hm⟩
    · cases xs with
      | nil=>exact .inl rfl
      | cons x0 xs =>
        right
        obtain⟨_,cs0,hr0,hc0⟩:=h2 0 x0 rfl
        have hl0:=R.len hr0
        have hu:=hc0 0 _ (List.getElem?_eq_getElem (show 0 < cs0.length by omega))
        obtain⟨b,off,spot⟩:=a
        have hsp:spot=none:=by
          unfold World.cell? at hu
          split at hu
          · cases spot with
            | none=>rfl
            | some q=>simp [Addr.add] at hu
          · simp at hu
        subst hsp
        refine⟨b,off,rfl,fun k x hx=>?_⟩
        obtain⟨_,cs,hr,hcs⟩:=h2 k x hx
        refine⟨cs,hr,fun h=>h,?_,fun j u hu=>?_⟩
        · rw [Addr.add_lit] at hu; exact World.block_lt_of_cell? _ _ hu
        · have:=hcs j u hu
          rwa [Addr.add_lit,← Nat.add_assoc] at this
    · obtain⟨i,hi',e⟩:=List.getElem_of_mem hx
      exact (h2 i x (by rw [← e]; exact List.getElem?_eq_getElem hi')).1
    · have:=hw ((xs.length + (m - xs.length)) * P.bytesOf e) (by
        simp only [DataW.weights,ht,List.mem_cons,List.length_map,List.length_range]
        first | exact .inl trivial | exact .inl rfl | trivial)
      exact Nat.le_trans (Nat.mul_le_mul_right _ (by omega)) this
theorem yK.arg {α:Type} {R:aN α} {Q:List α→Prop} {H:Type} {enc:TypeId×Value→H} {w:World} {base:Nat} {sp:Nat→Bool} {held:Bool} {v:Value} {d:DataW H} {p:List MemPlace} {ts:List TypeId} {ds:List (DataW H)} {j0:Nat}
    (ho:yK P t (aN.slice R) Q) (ht:P.underlying t=some (.slice e)) (hsz:(DataW.weightsEach P ts ds).all (·≤reachBytes)=true) (htj:ts[j0]? = some t) (hdj:ds[j0]? = some d)
    {r:Reach} {b0:Nat} (hv:Value.okWide P w r b0 t v) (h:DataW.Trod enc P w base sp held t v d p):∃ xs,aA R No w v xs∧Q xs:=by
  obtain⟨A,len,cap,rfl⟩:=okWide_slice ht hv
  obtain⟨fuel,hf⟩:=h
  obtain⟨xs,⟨v',he,hs⟩,hq⟩:=ho hf (fun m hm=>by
    have:=List.all_eq_true.1 hsz m (DataW.weights_mem_each htj hdj m hm)
    simpa using this)
  simp only [Value.cells,List.cons.injEq,and_true] at he
  subst he
  exact⟨xs,hs,hq⟩
end
end
end Go.Proofs.YtmfcloapbgfhaaaGreatDoor
